/- Lemmas; each is under no condition but those that it states. -/
import Derived.Test.YtegloohdmjadoaaGreatDoorPu23
namespace Go.Proofs.YtegloohdmjadoaaGreatDoor
set_option linter.unusedSimpArgs false
set_option linter.unusedVariables false
set_option maxRecDepth 100000
set_option maxHeartbeats 16000000
open Go Go.RowKit
def RdC(w:vW)(v:vV)(xs:List Chg):Prop:=
 (∃ a c,v=.slice a 0 c/\xs=[])\/∃ b o c,v=.slice (some ⟨b,o,none⟩) xs.length c/\b < w.heap.size/\xs.length<=c/\∀ (j:Nat) x,xs[j]?=some x->w.cell? ⟨b,o+j * 3,none⟩=some (.string x.key)/\w.cell? ⟨b,o+j * 3+1,none⟩=some (.string x.value)/\w.cell? ⟨b,o+j * 3+2,none⟩=some (.bool x.gone)
theorem RdC.ext{w w':vW}{v:vV}{xs:List Chg}(h:RdC w v xs)(k:Ext w w'):RdC w' v xs:=by
 rcases h with h |⟨b,o,c,h1,h2,h3,h4⟩
 ·exact .inl h
 ·exact .inr ⟨b,o,c,h1,bJ h2 k.size,h3,fun j x e=>⟨jaa (h4 j x e).1 k,jaa (h4 j x e).2.1 k,jaa (h4 j x e).2.2 k⟩⟩
theorem RdC.sl{w:vW}{v:vV}{xs:List Chg}(h:RdC w v xs):∃ a c,v=.slice a xs.length c:=by
 rcases h with⟨a,c,h1,h2⟩ |⟨b,o,c,h1,_⟩
 ·exact⟨a,c,by rw[h1,h2];rfl⟩
 ·exact⟨_,c,h1⟩
theorem Tryz.makeMapSE(W:vW):(Instr.makeMap 137 none).run Tryz.prog W=.ok (.map (some W.heap.size)) (W.alloc (.map #[] 0)):=vY
theorem Tryz.zeroE(w:vW):(zeroValue 59).run Tryz.prog w=.ok (.agg #[.string ⟨#[]⟩,.string ⟨#[]⟩]) w:=vY
def je0(w:vW)(l:vL)(cs:List Chg)(e:Ending)(w':vW):Prop:=
 if jaY l cs=0 then ∃ r,e=.returned (.tuple #[r,.int .i64 0])/\ERow w w' r (jb2 (jbX l cs)).length (jb2 (jbX l cs))else e=.returned (.tuple #[.slice none 0 0,.int .i64 (jaY l cs)])/\Ext w w'
theorem je0.bad{w w':vW}{l:vL}{cs:List Chg}{x:Int}(h:jaY l cs=x)(h0:x≠0)(he:Ext w w'):je0 w l cs (.returned (.tuple #[.slice none 0 0,.int .i64 x])) w':=by
 unfold je0;rw[h,if_neg h0];exact⟨rfl,he⟩
def jya(w:vW)(cs:List Chg)(i:vV)(wr:vW):Prop:=∃ k:Nat,k<=cs.length/\i=.int .i64 k/\Ext w wr/\(cs.take k).any Chg.bad=false
def jyb(w:vW)(bm:Nat)(l:vL)(i:vV)(wr:vW):Prop:=∃ k:Nat,k<=l.length/\i=.int .i64 k/\Ext w wr/\∃ es ck,Blk wr bm (.map (Tryz.ES.arr es) ck)/\MapR es ck ((l.take k).foldl putM [])
def jyc(w:vW)(bm:Nat)(l:vL)(cs:List Chg)(i:vV)(wr:vW):Prop:=∃ k:Nat,k<=cs.length/\i=.int .i64 k/\Ext w wr/\∃ es ck,Blk wr bm (.map (Tryz.ES.arr es) ck)/\MapR es ck ((cs.take k).foldl doM (l.foldl putM []))
def jyd(w5:vW)(M:vL)(v i:vV)(wr:vW):Prop:=∃ k:Nat,k<=M.length/\i=.int .i64 k/\ERow w5 wr v k ((jb2 M).take k)
theorem jnW{cs:List Chg}{k:Nat}{c:Chg}(h:cs[k]?=some c):(cs.take (k+1)).any Chg.bad=((cs.take k).any Chg.bad || c.bad):=by
 rw[bS,h,List.any_append];simp
theorem jqZ{cs:List Chg}{k:Nat}{c:Chg}(h:cs[k]?=some c)(hb:c.bad=true):cs.any Chg.bad=true:=gO.2 ⟨c,bE h,hb⟩
theorem jwG(w:vW)(v u:vV)(l:vL)(cs:List Chg)(hv:RdP w v l)(hu:RdC w u cs)(hn:l.length<=9223372036854775807)(hnc:cs.length<=9223372036854775807)(hs:∀ p∈l,p.1.size<=9223372036854775807/\p.2.size<=9223372036854775807)(hsc:∀ c∈cs,c.key.size<=9223372036854775807/\c.value.size<=9223372036854775807) :
  vQ 44 #[v,u] w (je0 w l cs):=by
 have a5:=Hd (jgV w v l hv hn hs);have HV:=Hd hv;have HU:=Hd hu;have d7:=Hd hsc
 obtain⟨a,c,rfl⟩:=hv.sl
 obtain⟨a',c',d5⟩:=hu.sl
 subst d5;clear hv hu hs hsc
 by_cases hck:jaD l=0
 case neg =>
  obtain⟨x,hx⟩:=vE (jaD l)
  have HB:=Hd (show jaY l cs=x by unfold jaY;rw[if_pos hck,hx]);rw[<-hx]at hck a5;have f8:(x == 0)=false:=by simpa using hck
  have HX:=Hd hck;clear hck hx HV HU d7;go_enter Tryz.func44,Tryz.ntmps44;go_wp2_with fail
  refine a5.o.mono ?_;rintro e w1 ⟨rfl,Q⟩;have H:=Hd Q;clear Q a5;go_wp2_with fail
  go_ret2;exact je0.bad HB.o HX.o H.o
 rw[hck]at a5;have g7:=Hd (jaG hck).len;have a2:=Hd hck;clear hck;go_enter Tryz.func44,Tryz.ntmps44;go_wp2_with fail
 refine a5.o.mono ?_;rintro e w1 ⟨rfl,Q⟩;have d8:=Hd Q;clear Q a5;go_wp2_with fail
 go_loopw [24] (fun i wr=>jya w cs i wr) (fun i _=>cs.length - (intOf i).toNat)
 case atStart=>exact⟨0,by omega,rfl,d8.o,rfl⟩
 case round =>
  obtain⟨k,hk,rfl,Q,b5⟩:=hrel
  have H:=Hd Q;have a0:=Hd b5;clear Q b5
  by_cases hlt:k < cs.length
  ·rcases HU.o with⟨_,_,_,h0⟩ |⟨b,o,c1,hh,hb,hc,m⟩
   ·rw[h0]at hlt;cases hlt
   cases hh
   obtain⟨p,hp⟩:∃ p,cs[k]?=some p:=⟨_,bA hlt⟩
   obtain⟨q1,q2,q3⟩:=m k p hp
   have q1:=jaa q1 H.o;have q2:=jaa q2 H.o;have q3:=jaa q3 H.o;have c3:=d7.o p (bE hp);have b1:(k:Int) < (cs.length:Int):=vO
   have HP:=Hd hp
   obtain⟨ky,vl,gn⟩:=p
   simp only at q1 q2 q3 c3;clear m hp hb hc;have a3:=Hd (fun(h:Chg.bad ⟨ky,vl,gn⟩=true)=>(show jaY l cs=1 by
    unfold jaY;rw[if_neg (by rw[a2.o];simp),if_pos (jqZ HP.o h)]))
   have d9:=Hd (fun(h:Chg.bad ⟨ky,vl,gn⟩=false)=>(show (cs.take (k+1)).any Chg.bad=false by rw[jnW HP.o,a0.o,h];rfl));have b2:=Hd (H.o.alloc (.cells #[.string ky,.string vl,.bool gn] 55));clear HP a0;go_wp2_with fail
   refine (jg9 _ ky c3.1).mono ?_;rintro e w3 ⟨rfl,rfl⟩;clear q1 q2 q3;cases hky:jcg ky with
   | false =>
    have HB:=Hd (a3.o (by unfold Chg.bad;simp[hky]));clear hky;go_wp2_with fail
    go_ret2;exact je0.bad HB.o vI b2.o
   | true =>
    cases gn with
    | true =>
     by_cases hz:vl.size=0
     ·have:=jbj hz
      subst this;have HG:=Hd (d9.o (by unfold Chg.bad;simp[hky];rfl));clear hky hz;go_wp2_with fail
      go_roundw
      case rel=>exact⟨k+1,by omega,by go_num,b2.o,HG.o⟩
      case measure=>exact vJ
     ·have f8:=jbe (s:=vl) vO
      have HB:=Hd (a3.o (by unfold Chg.bad;simp[hky,hz]));clear hky hz;go_wp2_with fail
      go_ret2;exact je0.bad HB.o vI b2.o
    | false =>
     go_wp2_with fail
     refine (jgH _ vl c3.2).mono ?_;rintro e w3 ⟨rfl,rfl⟩;cases hvl:jbR vl with
     | true =>
      have HG:=Hd (d9.o (by unfold Chg.bad;simp[hky,hvl]));clear hky hvl;go_wp2_with fail
      go_roundw
      case rel=>exact⟨k+1,by omega,by go_num,b2.o,HG.o⟩
      case measure=>exact vJ
     | false =>
      have HB:=Hd (a3.o (by unfold Chg.bad;simp[hky,hvl]));clear hky hvl;go_wp2_with fail
      go_ret2;exact je0.bad HB.o vI b2.o
  ·have e0:k=cs.length:=vO
   have HB:=Hd (show cs.any Chg.bad=false by have h:=a0.o;rwa [e0,cE]at h);clear e0 a0;have f9:=Tryz.makeMapSE wr;go_wp2_with fail
   obtain⟨bm,b7⟩:=vE wr.heap.size
   have e4:=Hd (show Blk (wr.alloc (.map #[] 0)) bm (.map #[] 0) by rw[b7];exact Blk.new wr _);have c4:w.heap.size<=bm:=by rw[b7];exact H.o.size
   have e5:=Hd (H.o.alloc (.map #[] 0));rw[<-b7];clear f9 b7;go_loopw [56] (fun i w2=>jyb w bm l i w2) (fun i _=>l.length - (intOf i).toNat)
   case atStart=>exact⟨0,by omega,rfl,e5.o,[],0,e4.o,MapR.nil 0⟩
   case round =>
    clear H e5 e4 d8
    obtain⟨j,hj,rfl,Q,es,ck,hM,hR⟩:=hrel
    have H:=Hd Q;have X:=Hd hR
    by_cases hlt2:j < l.length
    ·rcases HV.o with⟨_,_,_,h0⟩ |⟨b,o,c1,hh,hb,hc,m⟩
     ·rw[h0]at hlt2;cases hlt2
     cases hh
     obtain⟨p,hp⟩:∃ p,l[j]?=some p:=⟨_,bA hlt2⟩
     obtain⟨q1,q2⟩:=m j p hp
     have q1:=jaa q1 H.o;have q2:=jaa q2 H.o;have b1:(j:Int) < (l.length:Int):=vO
     have HP:=Hd hp
     obtain⟨x,y⟩:=p
     simp only at q1 q2;have O:=hM.alloc (.cells #[.string x,.string y] 59)
     obtain⟨A,E⟩:=vE (jbt es x.data.toList (Pair.V (x,y)) ck)
     obtain⟨J,K⟩:=vE (if (ja3 es x.data.toList).isSome then ck else ck+1)
     have g0:(Instr.mapUpdate 137 (.map (some bm)) (.string x) (.agg #[.string x,.string y])).run Tryz.prog (wr.alloc (.cells #[.string x,.string y] 59))=.ok () ((wr.alloc (.cells #[.string x,.string y] 59)).putObj bm (.map (Tryz.ES.arr A) J)):=by
      have:=jcs Tryz.ES Tryz.uMapSE O x.data.toList (Pair.V (x,y))
      rw[<-E, <-K]at this;exact this
     have Z:=Hd (show MapR A J ((l.take (j+1)).foldl putM []) by
      rw[bS,HP.o,dF,E,K];exact X.o.put (x,y))
     have b3:=Hd (O.put_same (.map (Tryz.ES.arr A) J));have b4:=Hd ((H.o.alloc (.cells #[.string x,.string y] 59)).putObj (.inr c4) (.map (Tryz.ES.arr A) J));clear m hp hb hc hM hR O E K Q X H;go_wp2_with fail
     go_roundw
     case rel=>exact⟨j+1,by omega,by go_num,b4.o,A,J,b3.o,Z.o⟩
     case measure=>exact vJ
    ·have e6:j=l.length:=vO
     have Z:=Hd (show MapR es ck (l.foldl putM []) by have h:=X.o;rwa [e6,cE]at h);have e7:=Hd hM;have e8:=Hd Q;clear e6 hM hR Q X H;go_wp2_with fail
     go_loopw [67] (fun i w2=>jyc w bm l cs i w2) (fun i _=>cs.length - (intOf i).toNat)
     case atStart=>exact⟨0,by omega,rfl,e8.o,es,ck,e7.o,Z.o⟩
     case round =>
      clear e8 e7 Z
      obtain⟨q,hq,rfl,Q,es,ck,hM,hR⟩:=hrel
      have H:=Hd Q;have X:=Hd hR
      by_cases hlt3:q < cs.length
      ·rcases HU.o with⟨_,_,_,h0⟩ |⟨b,o,c1,hh,hb,hc,m⟩
       ·rw[h0]at hlt3;cases hlt3
       cases hh
       obtain⟨p,hp⟩:∃ p,cs[q]?=some p:=⟨_,bA hlt3⟩
       obtain⟨q1,q2,q3⟩:=m q p hp
       have q1:=jaa q1 H.o;have q2:=jaa q2 H.o;have q3:=jaa q3 H.o;have b1:(q:Int) < (cs.length:Int):=vO
       have HP:=Hd hp
       obtain⟨x,y,gn⟩:=p
       simp only at q1 q2 q3;have O:=hM.alloc (.cells #[.string x,.string y,.bool gn] 55);have a9:(cs.take (q+1)).foldl doM (l.foldl putM [])=doM ((cs.take q).foldl doM (l.foldl putM [])) ⟨x,y,gn⟩:=by
        rw[bS,HP.o,dF];rfl
       have b0:=Hd a9;cases gn with
       | true =>
        obtain⟨A,E⟩:=vE (jdY es x.data.toList)
        have g9:(Builtin.delete_ #[137,9] 0 #[.map (some bm),.string x]).run Tryz.prog (wr.alloc (.cells #[.string x,.string y,.bool true] 55))=.ok (.tuple #[]) ((wr.alloc (.cells #[.string x,.string y,.bool true] 55)).putObj bm (.map (Tryz.ES.arr A) ck)):=by
         have:=jqo Tryz.ES Tryz.uMapSE O x.data.toList 9 0
         rw[<-E]at this;exact this
        have Z:=Hd (show MapR A ck ((cs.take (q+1)).foldl doM (l.foldl putM [])) by
         rw[b0.o,E];exact X.o.del x)
        have b3:=Hd (O.put_same (.map (Tryz.ES.arr A) ck));have b4:=Hd ((H.o.alloc (.cells #[.string x,.string y,.bool true] 55)).putObj (.inr c4) (.map (Tryz.ES.arr A) ck));clear m hp hb hc hM hR O E Q X H a9 b0;go_wp2_with fail
        go_roundw
        case rel=>exact⟨q+1,by omega,by go_num,b4.o,A,ck,b3.o,Z.o⟩
        case measure=>exact vJ
       | false =>
        obtain⟨A,E⟩:=vE (jbt es x.data.toList (Pair.V (x,y)) ck)
        obtain⟨J,K⟩:=vE (if (ja3 es x.data.toList).isSome then ck else ck+1)
        have g0:(Instr.mapUpdate 137 (.map (some bm)) (.string x) (.agg #[.string x,.string y])).run Tryz.prog (wr.alloc (.cells #[.string x,.string y,.bool false] 55))=.ok () ((wr.alloc (.cells #[.string x,.string y,.bool false] 55)).putObj bm (.map (Tryz.ES.arr A) J)):=by
         have:=jcs Tryz.ES Tryz.uMapSE O x.data.toList (Pair.V (x,y))
         rw[<-E, <-K]at this;exact this
        have Z:=Hd (show MapR A J ((cs.take (q+1)).foldl doM (l.foldl putM [])) by
         rw[b0.o,E,K];exact X.o.put (x,y))
        have b3:=Hd (O.put_same (.map (Tryz.ES.arr A) J));have b4:=Hd ((H.o.alloc (.cells #[.string x,.string y,.bool false] 55)).putObj (.inr c4) (.map (Tryz.ES.arr A) J));clear m hp hb hc hM hR O E K Q X H a9 b0;go_wp2_with fail
        go_roundw
        case rel=>exact⟨q+1,by omega,by go_num,b4.o,A,J,b3.o,Z.o⟩
        case measure=>exact vJ
      ·have e9:q=cs.length:=vO
       obtain⟨M,c5⟩:=vE (jbX l cs)
       have a1:=Hd (show MapR es ck M by have h:=X.o;rw[e9,cE]at h;rw[c5];exact h);have c9:=Hd c5;have f0:=jf5 Tryz.ES Tryz.uMapSE hM;rw[a1.o.len]at f0;have f1:=Hd hM;have d0:=Hd Q;clear e9 hM hR Q X H c5
       by_cases h40:40 < M.length
       ·have g1:(40:Int) < (M.length:Int):=vO
        have d1:=Hd (show jaY l cs=12 by unfold jaY;rw[if_neg (by rw[a2.o];simp),HB.o, <-c9.o];simp[h40]);clear h40;go_wp2_with fail
        go_ret2;exact je0.bad d1.o vI d0.o
       ·have g1:¬(40:Int) < (M.length:Int):=vO
        have d1:=Hd (show jaY l cs=0 by unfold jaY;rw[if_neg (by rw[a2.o];simp),HB.o, <-c9.o];simp[h40]);have g8:M.length<=40:=vO
        clear h40;go_wp2_with fail
        refine (jsg wr bm).mono ?_;rintro e w4 ⟨rfl,f2,d2⟩;have f3:=Hd f2;have a4:=Hd (f1.o.keeps d2 (fun h=>h));have f4:=Hd (d0.o.trans d2);clear f2 d2 f0;go_wp2_with fail
        refine (jvC w4 wr.heap.size bm ck es ⟨f3.o,a4.o⟩ a1.o.born a1.o.keys a1.o.lt (by have:=a1.o.len;omega)).mono ?_;rintro e w5 ⟨u,rfl,hS⟩;rw[a1.o.keysEq,a1.o.len]at hS
        obtain⟨KS,b8⟩:=vE (jea (M.map Pair.k))
        rw[<-b8]at hS;have f5:KS.length=M.length:=by rw[b8,jfp,bU]
        have HK:=Hd b8;have g2:=Hd f5
        obtain⟨a6,c6,rfl⟩:=hS.sl
        have g3:=Hd hS.rd;have f6:=Hd (f4.o.trans hS.ext);have d6:=Hd (a4.o.keeps hS.ext (fun h=>h));have d3:=Hd (show (jb2 M).length=M.length by unfold jb2;rw[bU,jfp,bU]);clear hS b8 f5 a4 f4 f3 d0 f1;go_wp2_with fail
        go_loopw [14,92] (fun v i wr=>jyd w5 M v i wr) (fun _ i _=>M.length - (intOf i).toNat)
        case atStart=>exact⟨0,by omega,rfl,ORow.nil _ _ (ExtR w5)⟩
        case round =>
         obtain⟨t,ht,rfl,hR⟩:=hrel
         obtain⟨a7,c7,rfl⟩:=hR.sl
         have X:=Hd hR;clear hR
         by_cases hlt4:t < M.length
         ·obtain⟨kk,b9⟩:∃ kk,KS[t]?=some kk:=⟨_,bA (by rw[g2.o];exact hlt4)⟩
          obtain⟨x,hx⟩:∃ x:vB,x=⟨kk.toArray⟩:=⟨_,rfl⟩
          obtain⟨y,hy⟩:=vE (valM M kk)
          obtain⟨_,_,hh,m⟩:=g3.o.slice
          obtain⟨b,o,g4,f7⟩:=m t x (by unfold baL;rw[bV,b9,hx];rfl)
          obtain⟨e1,e2,e3⟩:=cT hh
          subst e1;subst e3;subst g4;clear hh e2;have q1:=jaa f7 X.o.ext;have b6:kk∈M.map Pair.k:=by
           have h1:=bE b9;rw[HK.o]at h1;exact (gE _ _).mem_iff.1 h1
          have h3:(Instr.lookup 137 (.map (some bm)) (.string x) false).run Tryz.prog wr=.ok (.agg #[.string x,.string y]) wr:=by
           have:=jcT Tryz.ES Tryz.uMapSE (d6.o.keeps X.o.ext (fun h=>h)) (Tryz.zeroE wr) kk false
           rw[a1.o.get b6, <-hx, <-hy]at this;rw[hx];rw[hx]at this;exact this
          have a9:(jb2 M).take (t+1)=(jb2 M).take t++[(x,y)]:=by
           rw[bS]
           have:(jb2 M)[t]?=some (x,y):=by
            unfold jb2;rw[<-HK.o,bV,b9,hx,hy];rfl
           rw[this];rfl
          have b0:=Hd a9;have b1:(t:Int) < (M.length:Int):=vO
          clear m f7 b6 a9 b9 hx hy;go_wp2_with (at_builtin;refine jaS Tryz.sEnts (X.o.mono ((ExtR wr).alloc _)) (.tmp 96) (.tmp 100) rfl rfl rfl (jaH (Blk.new wr _)) (news:=[.string x,.string y]) (by intro u hu;simp at hu;rcases hu with rfl | rfl <;> rfl) rfl rfl ?c1 ?c2 (fun v' w' r1 r2 r3=>?_))
          case c1=>unfold maxLen;omega
          case c2=>omega
          have d4:ERow w5 w' v' (t+1) ((jb2 M).take (t+1)):=by unfold ERow;rw[b0.o,jbd];exact r1
          obtain⟨a8,c8,rfl⟩:=d4.sl
          have g5:=Hd d4;clear r1 r2 r3 d4 X;go_wp2_with fail
          go_roundw
          case rel=>exact⟨t+1,by omega,by go_num,g5.o⟩
          case measure=>exact vJ
         ·have c0:t=M.length:=vO
          have g6:=Hd (show ERow w wr (.slice a7 t c7) (jb2 M).length (jb2 M) by
           have h:=X.o;rw[show (jb2 M).take t=jb2 M from by rw[c0, <-d3.o,cE]]at h;have h2:ERow w5 wr (.slice a7 t c7) (jb2 M).length (jb2 M):=by rw[d3.o, <-c0];exact h
           exact⟨by rw[d3.o, <-c0];exact⟨_,_,rfl⟩,h2.own,f6.o.trans h2.ext,fun b hb=>bG f6.o.size (h2.new b hb)⟩)
          clear c0 X;go_wp2_with fail
          go_ret2;unfold je0;rw[if_pos d1.o, <-c9.o]
          exact⟨_,rfl,g6.o⟩
def jeT(xs:List Chg):List vV:=xs.flatMap fun c=>[.string c.key,.string c.value,.bool c.gone]
theorem jcX(xs:List Chg)(c:Chg):jeT (xs++[c])=jeT xs++[.string c.key,.string c.value,.bool c.gone]:=by simp[jeT]
theorem jjw(xs:List Chg):(jeT xs).length=xs.length * 3:=by
 induction xs with
 | nil=>rfl
 | cons x r ih=>unfold jeT at *;rw[dI,bF,ih];simp;omega
theorem Tryz.infoChg:(Tryz.prog.info? 55).map (fun i=>(i.zero,i.size,i.bytes))=some (some (.agg #[.string ⟨#[]⟩,.string ⟨#[]⟩,.bool false]),3,40):=vY
theorem Tryz.uChgs:Tryz.prog.underlying 23=some (.slice 55):=vY
theorem Tryz.sChgs:jd3 Tryz.prog 23 55 3 40:=jd3.mk' Tryz.uChgs Tryz.infoChg rfl vI
abbrev CRow(w0 w:vW)(v:vV)(n:Nat)(xs:List Chg):Prop:=ORow 55 3 w0 w v n (jeT xs)
def jbz:vL->vL->List Chg
 | [],[]=>[]
 | p :: l,[]=>⟨p.1,⟨#[]⟩,true⟩ :: jbz l []
 | [],q :: m=>⟨q.1,q.2,false⟩ :: jbz [] m
 | p :: l,q :: m =>
  if jch p.1 q.1=true then ⟨p.1,⟨#[]⟩,true⟩ :: jbz l (q :: m)
  else if jch q.1 p.1=true then ⟨q.1,q.2,false⟩ :: jbz (p :: l) m
  else if (p.2.toList == q.2.toList)=true then jbz l m else ⟨q.1,q.2,false⟩ :: jbz l m
termination_by l m=>l.length+m.length
def jgZ(l m:vL):List Chg:=if jaD l=0/\jaD m=0 then jbz l m else []
theorem jc9{α:Type}{l:List α}{i:Nat}{x:α}(h:l[i]?=some x):l.drop i=x :: l.drop (i+1):=by
 obtain⟨m,e⟩:=bO.1 h
 rw[<-e];exact fP m
structure DfR(w:World)(l m:vL)(c:Value)(i j:Nat)(wr:World)(n:Nat)(acc:List Chg):Prop where
 hi:i<=l.length
 hj:j<=m.length
 hn:n<=i+j
 row:CRow w wr c n acc
 eq:acc++jbz (l.drop i) (m.drop j)=jbz l m
def jz7(w:vW)(l m:vL)(c vi vj:vV)(wr:vW):Prop:=∃ i j n acc,vi=.int .i64 (i:Nat)/\vj=.int .i64 (j:Nat)/\DfR w l m c i j wr n acc
theorem jy1{l m:vL}{i j:Nat}(hi:i=l.length)(hj:j=m.length):jbz (l.drop i) (m.drop j)=[]:=by
 subst hi;subst hj;rw[gF,gF];simp[jbz]
theorem juk{l m:vL}{i j:Nat}{p:Pair}(hp:l[i]?=some p)(hj:j=m.length):jbz (l.drop i) (m.drop j)=⟨p.1,⟨#[]⟩,true⟩ :: jbz (l.drop (i+1)) (m.drop j):=by
 subst hj;rw[gF,jc9 hp];simp[jbz]
theorem jwU{l m:vL}{i j:Nat}{q:Pair}(hq:m[j]?=some q)(hi:i=l.length):jbz (l.drop i) (m.drop j)=⟨q.1,q.2,false⟩ :: jbz (l.drop i) (m.drop (j+1)):=by
 subst hi;rw[gF,jc9 hq];simp[jbz]
theorem jul{l m:vL}{i j:Nat}{p q:Pair}(hp:l[i]?=some p)(hq:m[j]?=some q)(h:jch p.1 q.1=true):jbz (l.drop i) (m.drop j)=⟨p.1,⟨#[]⟩,true⟩ :: jbz (l.drop (i+1)) (m.drop j):=by
 rw[jc9 hp,jc9 hq,jbz,if_pos h]
theorem jwV{l m:vL}{i j:Nat}{p q:Pair}(hp:l[i]?=some p)(hq:m[j]?=some q)(h:jch p.1 q.1=false)(h2:jch q.1 p.1=true):jbz (l.drop i) (m.drop j)=⟨q.1,q.2,false⟩ :: jbz (l.drop i) (m.drop (j+1)):=by
 rw[jc9 hp,jc9 hq,jbz,if_neg (by rw[h];simp),if_pos h2]
theorem jwW{l m:vL}{i j:Nat}{p q:Pair}(hp:l[i]?=some p)(hq:m[j]?=some q)(h:jch p.1 q.1=false)(h2:jch q.1 p.1=false)(h3:(p.2.toList == q.2.toList)=true):jbz (l.drop i) (m.drop j)=jbz (l.drop (i+1)) (m.drop (j+1)):=by
 rw[jc9 hp,jc9 hq,jbz,if_neg (by rw[h];simp),if_neg (by rw[h2];simp),if_pos h3]
theorem jum{l m:vL}{i j:Nat}{p q:Pair}(hp:l[i]?=some p)(hq:m[j]?=some q)(h:jch p.1 q.1=false)(h2:jch q.1 p.1=false)(h3:(p.2.toList == q.2.toList)=false):jbz (l.drop i) (m.drop j)=⟨q.1,q.2,false⟩ :: jbz (l.drop (i+1)) (m.drop (j+1)):=by
 rw[jc9 hp,jc9 hq,jbz,if_neg (by rw[h];simp),if_neg (by rw[h2];simp),if_neg (by rw[h3];simp)]
theorem jy2(w:vW)(v u:vV)(l m:vL)(hv:RdP w v l)(hu:RdP w u m)(hn1:l.length<=9223372036854775807)(hn2:m.length<=9223372036854775807)(hs1:∀ p∈l,p.1.size<=9223372036854775807/\p.2.size<=9223372036854775807)(hs2:∀ p∈m,p.1.size<=9223372036854775807/\p.2.size<=9223372036854775807) :
  vQ 45 #[v,u] w fun e w'=>∃ u,e=.returned u/\CRow w w' u (jgZ l m).length (jgZ l m):=by
 have a3:=Hd (jgV w v l hv hn1 hs1);have b3:=Hd (fun w1 (h1:Ext w w1)=>jgV w1 u m (hu.ext h1) hn2 hs2);have HV:=Hd hv;have HU:=Hd hu
 obtain⟨a,c,rfl⟩:=hv.sl
 obtain⟨a',c',d8⟩:=hu.sl
 subst d8;clear hv hu hs1 hs2
 by_cases hck:jaD l=0
 case neg =>
  have HD:=Hd (show jgZ l m=[] by unfold jgZ;rw[if_neg (fun h=>hck h.1)]);rw[HD.o]
  obtain⟨x,hx⟩:=vE (jaD l)
  rw[<-hx]at hck a3;have e6:(x == 0)=false:=by simpa using hck
  have d9:(x != 0)=true:=by simpa using hck
  clear hck hx HV HU b3 HD;go_enter Tryz.func45,Tryz.ntmps45;go_wp2_with fail
  refine a3.o.mono ?_;rintro e w1 ⟨rfl,hE⟩;have HE:=Hd hE;clear hE a3;go_wp2_with fail
  go_ret
  exact⟨_,rfl,ORow.nil _ _ HE.o⟩
 by_cases hck2:jaD m=0
 case neg =>
  have HD:=Hd (show jgZ l m=[] by unfold jgZ;rw[if_neg (fun h=>hck2 h.2)]);rw[HD.o];rw[hck]at a3
  obtain⟨x,hx⟩:=vE (jaD m)
  rw[<-hx]at hck2 b3;have e6:(x == 0)=false:=by simpa using hck2
  have d9:(x != 0)=true:=by simpa using hck2
  clear hck hck2 hx HV HU HD;go_enter Tryz.func45,Tryz.ntmps45;go_wp2_with fail
  refine a3.o.mono ?_;rintro e w1 ⟨rfl,hE⟩;have HE:=Hd hE;clear hE a3;go_wp2_with fail
  refine vH (b3.o w1 HE.o) fun w2 hE=>?_;have c6:=Hd (HE.o.trans hE);clear b3 HE;go_wp2_with fail
  go_ret
  exact⟨_,rfl,ORow.nil _ _ c6.o⟩
 have f0:=(jaG hck).len;have f1:=(jaG hck2).len;have HD:=Hd (show jgZ l m=jbz l m by unfold jgZ;rw[if_pos ⟨hck,hck2⟩]);rw[HD.o];rw[hck]at a3;rw[hck2]at b3;clear hck hck2 HD hn1 hn2
 obtain⟨R,hR⟩:=vE (jbz l m)
 rw[<-hR];have e0:=Hd hR;clear hR;go_enter Tryz.func45,Tryz.ntmps45;go_wp2_with fail
 refine a3.o.mono ?_;rintro e w1 ⟨rfl,hE⟩;have HE:=Hd hE;clear hE a3;go_wp2_with fail
 refine vH (b3.o w1 HE.o) fun w2 hE=>?_;have c6:=Hd (HE.o.trans hE);clear b3 HE;go_wp2_with fail
 go_loopw [5,6,7] (fun v i j wr=>jz7 w l m v i j wr) (fun _ i j _=>(l.length - (intOf i).toNat)+(m.length - (intOf j).toNat))
 case atStart=>exact⟨0,0,0,[],rfl,rfl,by omega,by omega,by omega,ORow.nil _ _ c6.o,by simp⟩
 case round =>
  obtain⟨i,j,n,O,rfl,rfl,e7⟩:=hrel
  obtain⟨hi,hj,hn,b6,e1⟩:=e7
  obtain⟨a2,c2,rfl⟩:=b6.sl
  have HR:=Hd b6;have J:=Hd e1;clear b6 e1 c6
  by_cases hjm:j < m.length
  ·by_cases hil:i < l.length
   ·obtain⟨q,hq⟩:∃ q,m[j]?=some q:=⟨_,bA hjm⟩
    rcases HU.o with⟨_,_,_,h0⟩ |⟨bm,om,cm,hh,hb,hc,hcell⟩
    ·rw[h0]at hjm;cases hjm
    cases hh
    obtain⟨d1,d2⟩:=hcell j q hq
    have a1:=Hd (jaa d1 HR.o.ext);have a7:=Hd (jaa d2 HR.o.ext);have NB:Hid (¬(Value.slice a2 n c2).ownBlock=some bm):=(fun e=>by have:=HR.o.new bm e;omega);have HQ:=Hd hq;have b2:(j:Int) < (m.length:Int):=vO
    obtain⟨y1,y2⟩:=q
    simp only at a1 a7;clear hcell hb hc hq
    obtain⟨p,hp⟩:∃ p,l[i]?=some p:=⟨_,bA hil⟩
    rcases HV.o with⟨_,_,_,h0⟩ |⟨bl,ol,cl,hh,hb,hc,hcell⟩
    ·rw[h0]at hil;cases hil
    cases hh
    obtain⟨d3,d4⟩:=hcell i p hp
    have Q:=Hd (jaa d3 HR.o.ext);have b4:=Hd (jaa d4 HR.o.ext);have HP:=Hd hp;have b1:(i:Int) < (l.length:Int):=vO
    obtain⟨x1,x2⟩:=p
    simp only at Q b4;clear hcell hb hc hp;have eA:((j:Int) ==(m.length:Int))=false:=by simp;omega
    have eN:((i:Int) ==(l.length:Int))=false:=by simp;omega
    cases hls:jch x1 y1 with
    | true =>
     have HN:=Hd (show O++[_]++jbz _ _=jbz l m from by rw[cB,gI, <-jul HP.o HQ.o hls];exact J.o);unfold jch at hls;clear J;go_wp2_with fail
     refine jah [0,1,2,3,4,5,6,7,8,9,10,11,12,13,14,15,16,17,18,19,20,21,22,23] Ext ExtR ExtT vY vY vY ?_;iterate 14 refine vK ?_
     refine qKL ⟨bl,ol+i * 2,none⟩ (.string x1) rfl (fun w3 E=>jab Tryz.uStr rfl (jaa (by exact Q.o) ((jai _).trans E))) ?_;refine vS ?_;iterate 4 refine vK ?_
     refine qKL ⟨bm,om+j * 2,none⟩ (.string y1) rfl (fun w3 E=>jab Tryz.uStr rfl (jaa (by exact a1.o) ((jai _).trans E))) ?_;refine vS ?_;iterate 4 refine vK ?_
     refine qKE (fun w5 A=>?_);have X:=Hd (HR.o.mono ((jai _).trans A));have e8:=jaa Q.o ((jai _).trans A);clear A HR Q b4 a1 a7;go_wp2_with (at_builtin;refine jaS Tryz.sChgs (X.o.mono ((ExtR _).alloc _)) (.tmp 79) (.tmp 86) rfl rfl rfl (jaH (Blk.new _ _)) (news:=[.string x1,.string ⟨#[]⟩,.bool true]) (by intro u hu;simp at hu;rcases hu with rfl | rfl | rfl <;> rfl) rfl rfl ?c1 ?c2 (fun v' w' r1 r2 r3=>?_))
     case c1=>unfold maxLen;omega
     case c2=>omega
     have H:CRow w w' v' (n+1) (O++[⟨x1,⟨#[]⟩,true⟩]):=by unfold CRow;rw[jcX];exact r1
     obtain⟨a8,c8,rfl⟩:=H.sl
     have d5:=Hd H;clear r1 r2 r3 H;go_wp2_with fail
     go_roundw
     case rel=>exact⟨i+1,j,n+1,_,by go_num,rfl,by omega,hj,by omega,d5.o,HN.o⟩
     case measure=>exact vJ
    | false =>
     have d6:=Hd hls;unfold jch at hls;go_wp2_with fail
     refine jah [0,1,2,3,4,5,6,7,8,9,10,11,12,13,14,15,16,17,18,19,20,21,22,23] Ext ExtR ExtT vY vY vY ?_;iterate 14 refine vK ?_
     refine qKL ⟨bl,ol+i * 2,none⟩ (.string x1) rfl (fun w3 E=>jab Tryz.uStr rfl (jaa (by exact Q.o) ((jai _).trans E))) ?_;refine vS ?_;iterate 4 refine vK ?_
     refine qKL ⟨bm,om+j * 2,none⟩ (.string y1) rfl (fun w3 E=>jab Tryz.uStr rfl (jaa (by exact a1.o) ((jai _).trans E))) ?_;refine vS ?_;iterate 4 refine vK ?_
     refine qKE (fun w5 A=>?_);have b5:=Hd (HR.o.mono ((jai _).trans A));have a5:=Hd (jaa Q.o ((jai _).trans A));have b7:=Hd (jaa b4.o ((jai _).trans A));have a0:=Hd (jaa a1.o ((jai _).trans A));have a6:=Hd (jaa a7.o ((jai _).trans A));clear A HR Q b4 a1 a7 hls;cases hlt2:jch y1 x1 with
     | true =>
      have HN:=Hd (show O++[_]++jbz _ _=jbz l m from by rw[cB,gI, <-jwV HP.o HQ.o d6.o hlt2];exact J.o);unfold jch at hlt2;clear J;go_wp2_with fail
      refine jah [0,1,2,3,4,5,6,7,8,9,10,11,12,13,14,15,16,17] Ext ExtR ExtT vY vY vY ?_;iterate 9 refine vK ?_
      refine qKL ⟨bm,om+j * 2,none⟩ (.string y1) rfl (fun w3 E=>jab Tryz.uStr rfl (jaa (by exact a0.o) ((jai _).trans E))) ?_;refine vS ?_;iterate 4 refine vK ?_
      refine qKL ⟨bl,ol+i * 2,none⟩ (.string x1) rfl (fun w3 E=>jab Tryz.uStr rfl (jaa (by exact a5.o) ((jai _).trans E))) ?_;refine vS ?_;iterate 3 refine vK ?_
      refine qKE (fun w5 A=>?_);have X:=Hd (b5.o.mono ((jai _).trans A));have b8:=Hd (jaa a0.o ((jai _).trans A));have b9:=Hd (jaa a6.o ((jai _).trans A));clear A b5 a5 b7 a0 a6 hlt2;go_wp2_with fail
      refine jaJ [0,1,2,3,4,5,6,7,8,9,10,11,12,13,14] [12,13] Ext (jae (fun b=>(Value.slice a2 n c2).ownBlock=some b)) ExtR ExtT (fun x y z h k=>jae.trans h k) (fun x y h=>h.mono (fun _ _ h=>h.elim)) vY vY vY ?_;iterate 5 refine vD ?_
      refine qDL ⟨bm,om+j * 2,none⟩ (.string y1) rfl (fun w3 E=>jab Tryz.uStr rfl (jan (by exact b8.o) E NB.o)) ?_;refine vS ?_;iterate 4 refine vD ?_
      refine qDL ⟨bm,om+j * 2+1,none⟩ (.string y2) rfl (fun w3 E=>jab Tryz.uStr rfl (jan (by exact b9.o) E NB.o)) ?_;refine vS ?_
      refine vD ?_
      refine qDH _ rfl (fun w6 A K hK=>?_);have a9:=Hd (X.o.mono ((jai _).trans A));clear A;go_simp;refine hK _ _ ((jae.refl _ w6).alloc _) ?_;clear hK K;refine qDH _ rfl (fun w7 A K hK=>?_);have b0:=Hd (a9.o.mono (((ExtR w6).alloc _).trans A));have hB:∀ k u,([.string y1,.string y2,.bool false]:List vV)[k]?=some u->w7.cell? ((⟨w6.heap.size,0,none⟩:Addr).add k)=some u:=fun k u hk=>jaa (jaH (Blk.new w6 (.cells [Value.string y1,.string y2,.bool false].toArray 55)) k u hk) A;refine jd1 Tryz.sChgs b0.o (.tmp 108) (.tmp 120) rfl rfl hB (by intro u hu;simp at hu;rcases hu with rfl | rfl | rfl <;> rfl) rfl rfl (by unfold maxLen;omega) vO (fun v' w8 r1 r2 r3=>hK _ _ r2 ?_);have H:CRow w w8 v' (n+1) (O++[⟨y1,y2,false⟩]):=by unfold CRow;rw[jcX];exact r1
      have Z:=Hd H;clear hK K A r1 r2 r3 H hB a9 b0
      obtain⟨a4,c4,rfl⟩:=Z.o.sl
      refine vS ?_
      refine vD ?_
      refine qDE (fun w9 A=>?_);have c0:=Hd (Z.o.mono A);clear A Z;go_wp2_with fail
      go_roundw
      case rel=>exact⟨i,j+1,n+1,_,rfl,by go_num,by omega,by omega,by omega,c0.o,HN.o⟩
      case measure=>exact vJ
     | false =>
      have e2:=Hd hlt2;unfold jch at hlt2;go_wp2_with fail
      refine jah [0,1,2,3,4,5,6,7,8,9,10,11,12,13,14,15,16,17] Ext ExtR ExtT vY vY vY ?_;iterate 9 refine vK ?_
      refine qKL ⟨bm,om+j * 2,none⟩ (.string y1) rfl (fun w3 E=>jab Tryz.uStr rfl (jaa (by exact a0.o) ((jai _).trans E))) ?_;refine vS ?_;iterate 4 refine vK ?_
      refine qKL ⟨bl,ol+i * 2,none⟩ (.string x1) rfl (fun w3 E=>jab Tryz.uStr rfl (jaa (by exact a5.o) ((jai _).trans E))) ?_;refine vS ?_;iterate 3 refine vK ?_
      refine qKE (fun w5 A=>?_);have c7:=Hd (b5.o.mono ((jai _).trans A));have c9:=Hd (jaa b7.o ((jai _).trans A));have d7:=Hd (jaa a0.o ((jai _).trans A));have c3:=Hd (jaa a6.o ((jai _).trans A));clear A b5 a5 b7 a0 a6 hlt2;cases hvv:(x2.toList == y2.toList)with
      | true =>
       have HN:=Hd (show O++jbz _ _=jbz l m from by rw[<-jwW HP.o HQ.o d6.o e2.o hvv];exact J.o);clear J;go_wp2_with fail
       refine jah [0,1,2,3,4,5,6,7,8,9,10] Ext ExtR ExtT vY vY vY ?_;iterate 4 refine vK ?_
       refine qKL ⟨bl,ol+i * 2+1,none⟩ (.string x2) rfl (fun w3 E=>jab Tryz.uStr rfl (jaa (by exact c9.o) ((jai _).trans E))) ?_;refine vS ?_;iterate 4 refine vK ?_
       refine qKL ⟨bm,om+j * 2+1,none⟩ (.string y2) rfl (fun w3 E=>jab Tryz.uStr rfl (jaa (by exact c3.o) ((jai _).trans E))) ?_;refine vS ?_
       refine vK ?_
       refine qKE (fun w5 A=>?_);have X:=Hd (c7.o.mono ((jai _).trans A));clear A c7 c9 d7 c3;go_wp2_with fail
       go_roundw
       case rel=>exact⟨i+1,j+1,n,O,by go_num,by go_num,by omega,by omega,by omega,X.o,HN.o⟩
       case measure=>exact vJ
      | false =>
       have HN:=Hd (show O++[_]++jbz _ _=jbz l m from by rw[cB,gI, <-jum HP.o HQ.o d6.o e2.o hvv];exact J.o);clear J;go_wp2_with fail
       refine jah [0,1,2,3,4,5,6,7,8,9,10] Ext ExtR ExtT vY vY vY ?_;iterate 4 refine vK ?_
       refine qKL ⟨bl,ol+i * 2+1,none⟩ (.string x2) rfl (fun w3 E=>jab Tryz.uStr rfl (jaa (by exact c9.o) ((jai _).trans E))) ?_;refine vS ?_;iterate 4 refine vK ?_
       refine qKL ⟨bm,om+j * 2+1,none⟩ (.string y2) rfl (fun w3 E=>jab Tryz.uStr rfl (jaa (by exact c3.o) ((jai _).trans E))) ?_;refine vS ?_
       refine vK ?_
       refine qKE (fun w5 A=>?_);have X:=Hd (c7.o.mono ((jai _).trans A));have b8:=Hd (jaa d7.o ((jai _).trans A));have b9:=Hd (jaa c3.o ((jai _).trans A));clear A c7 c9 d7 c3;go_wp2_with fail
       refine jaJ [0,1,2,3,4,5,6,7,8,9,10,11,12,13,14] [12,13] Ext (jae (fun b=>(Value.slice a2 n c2).ownBlock=some b)) ExtR ExtT (fun x y z h k=>jae.trans h k) (fun x y h=>h.mono (fun _ _ h=>h.elim)) vY vY vY ?_;iterate 5 refine vD ?_
       refine qDL ⟨bm,om+j * 2,none⟩ (.string y1) rfl (fun w3 E=>jab Tryz.uStr rfl (jan (by exact b8.o) E NB.o)) ?_;refine vS ?_;iterate 4 refine vD ?_
       refine qDL ⟨bm,om+j * 2+1,none⟩ (.string y2) rfl (fun w3 E=>jab Tryz.uStr rfl (jan (by exact b9.o) E NB.o)) ?_;refine vS ?_
       refine vD ?_
       refine qDH _ rfl (fun w6 A K hK=>?_);have a9:=Hd (X.o.mono ((jai _).trans A));clear A;go_simp;refine hK _ _ ((jae.refl _ w6).alloc _) ?_;clear hK K;refine qDH _ rfl (fun w7 A K hK=>?_);have b0:=Hd (a9.o.mono (((ExtR w6).alloc _).trans A));have hB:∀ k u,([.string y1,.string y2,.bool false]:List vV)[k]?=some u->w7.cell? ((⟨w6.heap.size,0,none⟩:Addr).add k)=some u:=fun k u hk=>jaa (jaH (Blk.new w6 (.cells [Value.string y1,.string y2,.bool false].toArray 55)) k u hk) A;refine jd1 Tryz.sChgs b0.o (.tmp 37) (.tmp 49) rfl rfl hB (by intro u hu;simp at hu;rcases hu with rfl | rfl | rfl <;> rfl) rfl rfl (by unfold maxLen;omega) vO (fun v' w8 r1 r2 r3=>hK _ _ r2 ?_);have H:CRow w w8 v' (n+1) (O++[⟨y1,y2,false⟩]):=by unfold CRow;rw[jcX];exact r1
       have Z:=Hd H;clear hK K A r1 r2 r3 H hB a9 b0
       obtain⟨a4,c4,rfl⟩:=Z.o.sl
       refine vS ?_
       refine vD ?_
       refine qDE (fun w9 A=>?_);have c0:=Hd (Z.o.mono A);clear A Z;go_wp2_with fail
       go_roundw
       case rel=>exact⟨i+1,j+1,n+1,_,by go_num,by go_num,by omega,by omega,by omega,c0.o,HN.o⟩
       case measure=>exact vJ
   ·obtain⟨q,hq⟩:∃ q,m[j]?=some q:=⟨_,bA hjm⟩
    rcases HU.o with⟨_,_,_,h0⟩ |⟨bm,om,cm,hh,hb,hc,hcell⟩
    ·rw[h0]at hjm;cases hjm
    cases hh
    obtain⟨d1,d2⟩:=hcell j q hq
    have a1:=Hd (jaa d1 HR.o.ext);have a7:=Hd (jaa d2 HR.o.ext);have NB:Hid (¬(Value.slice a2 n c2).ownBlock=some bm):=(fun e=>by have:=HR.o.new bm e;omega);have HQ:=Hd hq;have b2:(j:Int) < (m.length:Int):=vO
    obtain⟨y1,y2⟩:=q
    simp only at a1 a7;clear hcell hb hc hq;have c5:i=l.length:=vO
    have b1:¬(i:Int) < (l.length:Int):=vO
    have eA:((j:Int) ==(m.length:Int))=false:=by simp;omega
    have eN:((i:Int) ==(l.length:Int))=true:=by simp;omega
    have HN:=Hd (show O++[_]++jbz _ _=jbz l m from by rw[cB,gI, <-jwU HQ.o c5];exact J.o);clear c5 J;go_wp2_with fail
    refine jah [0,1,2,3,4,5,6,7,8,9,10,11,12,13,14,15,16,17,18,19,20,21,22,23] Ext ExtR ExtT vY vY vY ?_;iterate 10 refine vK ?_
    iterate 11 (refine qKS _ rfl ?_;refine vS ?_)
    iterate 3 refine vK ?_
    refine qKE (fun w5 A=>?_);have b5:=Hd (HR.o.mono ((jai _).trans A));have e3:=Hd (jaa a1.o ((jai _).trans A));have e4:=Hd (jaa a7.o ((jai _).trans A));clear A HR a1 a7;go_wp2_with fail
    refine jah [0,1,2,3,4,5,6,7,8,9,10,11,12,13,14,15,16,17] Ext ExtR ExtT vY vY vY ?_;iterate 5 refine vK ?_
    iterate 11 (refine qKS _ rfl ?_;refine vS ?_)
    iterate 2 refine vK ?_
    refine qKE (fun w5 A=>?_);have X:=Hd (b5.o.mono ((jai _).trans A));have b8:=Hd (jaa e3.o ((jai _).trans A));have b9:=Hd (jaa e4.o ((jai _).trans A));clear A b5 e3 e4;go_wp2_with fail
    refine jaJ [0,1,2,3,4,5,6,7,8,9,10,11,12,13,14] [12,13] Ext (jae (fun b=>(Value.slice a2 n c2).ownBlock=some b)) ExtR ExtT (fun x y z h k=>jae.trans h k) (fun x y h=>h.mono (fun _ _ h=>h.elim)) vY vY vY ?_;iterate 5 refine vD ?_
    refine qDL ⟨bm,om+j * 2,none⟩ (.string y1) rfl (fun w3 E=>jab Tryz.uStr rfl (jan (by exact b8.o) E NB.o)) ?_;refine vS ?_;iterate 4 refine vD ?_
    refine qDL ⟨bm,om+j * 2+1,none⟩ (.string y2) rfl (fun w3 E=>jab Tryz.uStr rfl (jan (by exact b9.o) E NB.o)) ?_;refine vS ?_
    refine vD ?_
    refine qDH _ rfl (fun w6 A K hK=>?_);have a9:=Hd (X.o.mono ((jai _).trans A));clear A;go_simp;refine hK _ _ ((jae.refl _ w6).alloc _) ?_;clear hK K;refine qDH _ rfl (fun w7 A K hK=>?_);have b0:=Hd (a9.o.mono (((ExtR w6).alloc _).trans A));have hB:∀ k u,([.string y1,.string y2,.bool false]:List vV)[k]?=some u->w7.cell? ((⟨w6.heap.size,0,none⟩:Addr).add k)=some u:=fun k u hk=>jaa (jaH (Blk.new w6 (.cells [Value.string y1,.string y2,.bool false].toArray 55)) k u hk) A;refine jd1 Tryz.sChgs b0.o (.tmp 108) (.tmp 120) rfl rfl hB (by intro u hu;simp at hu;rcases hu with rfl | rfl | rfl <;> rfl) rfl rfl (by unfold maxLen;omega) vO (fun v' w8 r1 r2 r3=>hK _ _ r2 ?_);have H:CRow w w8 v' (n+1) (O++[⟨y1,y2,false⟩]):=by unfold CRow;rw[jcX];exact r1
    have Z:=Hd H;clear hK K A r1 r2 r3 H hB a9 b0
    obtain⟨a4,c4,rfl⟩:=Z.o.sl
    refine vS ?_
    refine vD ?_
    refine qDE (fun w9 A=>?_);have c0:=Hd (Z.o.mono A);clear A Z;go_wp2_with fail
    go_roundw
    case rel=>exact⟨i,j+1,n+1,_,rfl,by go_num,by omega,by omega,by omega,c0.o,HN.o⟩
    case measure=>exact vJ
  ·have d0:j=m.length:=vO
   by_cases hil:i < l.length
   ·obtain⟨p,hp⟩:∃ p,l[i]?=some p:=⟨_,bA hil⟩
    rcases HV.o with⟨_,_,_,h0⟩ |⟨bl,ol,cl,hh,hb,hc,hcell⟩
    ·rw[h0]at hil;cases hil
    cases hh
    obtain⟨d3,d4⟩:=hcell i p hp
    have Q:=Hd (jaa d3 HR.o.ext);have b4:=Hd (jaa d4 HR.o.ext);have HP:=Hd hp;have b1:(i:Int) < (l.length:Int):=vO
    obtain⟨x1,x2⟩:=p
    simp only at Q b4;clear hcell hb hc hp;have b2:¬(j:Int) < (m.length:Int):=vO
    have eA:((j:Int) ==(m.length:Int))=true:=by simp;omega
    have HN:=Hd (show O++[_]++jbz _ _=jbz l m from by rw[cB,gI, <-juk HP.o d0];exact J.o);clear d0 J;go_wp2_with fail
    refine jah [0,1,2,3,4,5,6,7,8,9,10,11,12,13,14,15,16,17,18,19,20,21,22,23] Ext ExtR ExtT vY vY vY ?_;iterate 5 refine vK ?_
    iterate 17 (refine qKS _ rfl ?_;refine vS ?_)
    iterate 2 refine vK ?_
    refine qKE (fun w5 A=>?_);have X:=Hd (HR.o.mono ((jai _).trans A));have e8:=jaa Q.o ((jai _).trans A);clear A HR Q b4;go_wp2_with (at_builtin;refine jaS Tryz.sChgs (X.o.mono ((ExtR _).alloc _)) (.tmp 79) (.tmp 86) rfl rfl rfl (jaH (Blk.new _ _)) (news:=[.string x1,.string ⟨#[]⟩,.bool true]) (by intro u hu;simp at hu;rcases hu with rfl | rfl | rfl <;> rfl) rfl rfl ?c1 ?c2 (fun v' w' r1 r2 r3=>?_))
    case c1=>unfold maxLen;omega
    case c2=>omega
    have H:CRow w w' v' (n+1) (O++[⟨x1,⟨#[]⟩,true⟩]):=by unfold CRow;rw[jcX];exact r1
    obtain⟨a8,c8,rfl⟩:=H.sl
    have d5:=Hd H;clear r1 r2 r3 H;go_wp2_with fail
    go_roundw
    case rel=>exact⟨i+1,j,n+1,_,by go_num,rfl,by omega,hj,by omega,d5.o,HN.o⟩
    case measure=>exact vJ
   ·have c5:i=l.length:=vO
    have HF:=Hd (show O=R by have h:=J.o;rw[jy1 c5 d0,cC, <-e0.o]at h;exact h);have b1:¬(i:Int) < (l.length:Int):=vO
    have b2:¬(j:Int) < (m.length:Int):=vO
    have e5:n=R.length:=by
     have:=HR.o.len
     rw[HF.o]at this;rw[jjw]at this;omega
    have e9:=Hd e5;clear c5 d0 e5 J e0;go_wp2_with fail
    go_ret
    exact⟨_,rfl,by rw[<-e9.o, <-HF.o];exact HR.o⟩
def jfo(c:Chg):Bool:=decide (c.key.size<=20) && decide (c.value.size<=100)
def fewC(l:List Chg):Bool:=l.all jfo && decide (l.length<=45)
def jym(w:vW)(l:List Chg)(i:vV)(wr:vW):Prop:=∃ k:Nat,k<=l.length/\k<=46/\i=.int .i64 k/\Ext w wr/\(l.take k).all jfo=true
theorem jqS{l:List Chg}{k:Nat}{p:Chg}(h:l[k]?=some p):(l.take (k+1)).all jfo=((l.take k).all jfo && jfo p):=by
 rw[bS,h,iZ];simp
theorem jnU{l:List Chg}{k:Nat}{p:Chg}(h:l[k]?=some p)(hb:jfo p=false):fewC l=false:=by
 unfold fewC
 have:l.all jfo=false:=by
  rw[dC];intro e
  have:=fG.1 e p (bE h)
  rw[hb]at this;cases this
 rw[this];rfl
theorem jv3(w:vW)(v:vV)(l:List Chg)(hv:RdC w v l)(hn:l.length<=9223372036854775807)(hs:∀ p∈l,p.key.size<=9223372036854775807/\p.value.size<=9223372036854775807) :
  vR 6 #[v] w (.bool (fewC l)):=by
 have HV:=Hd hv;have HS:=Hd hs
 obtain⟨a,c,rfl⟩:=hv.sl;clear hv hs
 obtain⟨R,O⟩:=vE (fewC l)
 rw[<-O];have J:=Hd O;clear O;go_enter Tryz.func6,Tryz.ntmps6;go_wp2_with fail
 go_loopw [3] (fun i wr=>jym w l i wr) (fun i _=>l.length - (intOf i).toNat)
 case atStart=>exact⟨0,by omega,by omega,rfl,ExtR w,rfl⟩
 case round =>
  obtain⟨k,hk,a1,rfl,hE,e⟩:=hrel
  have m:=Hd hE;have E:=Hd e;clear hE e
  by_cases hlt:k < l.length
  ·have b1:(k:Int) < (l.length:Int):=vO
   by_cases h45:k<=45
   ·have Q:(k:Int)<=45:=vO
    obtain⟨p,K⟩:∃ p,l[k]?=some p:=⟨_,bA hlt⟩
    rcases HV.o with⟨_,_,_,h0⟩ |⟨b,o,c1,hh,hb,hc,hcell⟩
    ·rw[h0]at hlt;cases hlt
    cases hh
    obtain⟨X,Z,q3⟩:=hcell k p K
    have X:=jaa X m.o;have Z:=jaa Z m.o;have q3:=jaa q3 m.o;have a0:=HS.o p (bE K);have HP:=Hd K
    obtain⟨x,y,gn⟩:=p
    simp only at X Z q3 a0;clear hcell hb hc K
    by_cases hx:20 < x.size
    ·have b3:(20:Int) < (x.size:Int):=vO
     have A:=Hd (show R=false by rw[J.o];exact jnU HP.o (by unfold jfo;simp;omega));clear hx;go_wp2_with fail
     go_ret
     exact⟨by rw[A.o];rfl,m.o⟩
    ·have b3:¬(20:Int) < (x.size:Int):=vO
     by_cases hy:100 < y.size
     ·have b4:(100:Int) < (y.size:Int):=vO
      have A:=Hd (show R=false by rw[J.o];exact jnU HP.o (by unfold jfo;simp;omega));clear hx hy;go_wp2_with fail
      go_ret
      exact⟨by rw[A.o];rfl,m.o⟩
     ·have b4:¬(100:Int) < (y.size:Int):=vO
      have HG:=Hd (show (l.take (k+1)).all jfo=true by rw[jqS HP.o,E.o];unfold jfo;simp;omega);clear hx hy;go_wp2_with fail
      go_roundw
      case rel=>exact⟨k+1,by omega,by omega,by go_num,m.o,HG.o⟩
      case measure=>exact vJ
   ·have Q:¬(k:Int)<=45:=vO
    have b3:¬(l.length:Int)<=45:=vO
    have A:=Hd (show R=false by rw[J.o];unfold fewC;simp;omega);clear h45;go_wp2_with fail
    go_ret
    exact⟨by rw[A.o];rfl,m.o⟩
  ·have H:k=l.length:=vO
   have b1:¬(k:Int) < (l.length:Int):=vO
   have e:=E.o;rw[H,cE]at e
   by_cases h45:l.length<=45
   ·have Q:(l.length:Int)<=45:=vO
    have A:=Hd (show R=true by rw[J.o];unfold fewC;rw[e];simp;omega);clear H e h45;go_wp2_with fail
    go_ret
    exact⟨by rw[A.o];rfl,m.o⟩
   ·have Q:¬(l.length:Int)<=45:=vO
    have A:=Hd (show R=false by rw[J.o];unfold fewC;simp;omega);clear H e h45;go_wp2_with fail
    go_ret
    exact⟨by rw[A.o];rfl,m.o⟩
def jyE(w:vW)(l m:vL)(v:vV)(wr:vW):Prop:=∃ i:Nat,i<=l.length/\v=.int .i64 i/\Ext w wr/\l.take i=m.take i
theorem jzN(w:vW)(v u:vV)(l m:vL)(hv:RdP w v l)(hu:RdP w u m)(hn:l.length<=1000000)(hn2:m.length<=1000000):vR 21 #[v,u] w (.bool (jhn l m)):=by
 obtain⟨a,c,a7⟩:=hv.sl
 obtain⟨a',c',Z⟩:=hu.sl
 have HV:=Hd hv;have HU:=Hd hu;subst a7;subst Z;clear hv hu
 by_cases hlen:l.length=m.length
 ·have Q:((l.length:Int) ==(m.length:Int))=true:=by simp;omega
  have a0:((l.length:Int) !=(m.length:Int))=false:=by simp;omega
  have a1:=Hd hlen
  obtain⟨n,E⟩:=vE l.length
  rw[<-hlen, <-E];rw[<-E]at hn;have HN:=Hd E;clear Q a0 hlen E hn2;go_enter Tryz.func21,Tryz.ntmps21;go_wp2_with fail
  go_loopw [5] (fun i wr=>jyE w l m i wr) (fun i _=>n - (intOf i).toNat)
  case atStart=>exact⟨0,by omega,rfl,ExtR w,by simp⟩
  case round =>
   obtain⟨i,hi,rfl,hE,K⟩:=hrel
   have X:=Hd hE;have O:=Hd K;have hi:i<=n:=by rw[HN.o];exact hi
   clear hE K
   by_cases hlt:i < n
   ·have H:i < l.length:=by have:=HN.o;omega
    have J:i < m.length:=by have:=HN.o;have:=a1.o;omega
    rcases HV.o with⟨_,_,_,h0⟩ |⟨b,o,c1,hh,hb,hc,hcell⟩
    ·rw[h0]at H;cases H
    rcases HU.o with⟨_,_,_,h0⟩ |⟨b',o',c2,hh',hb',hc',hcell'⟩
    ·rw[h0]at J;cases J
    obtain⟨rfl,a8,a9⟩:=cT hh
    obtain⟨rfl,b0,b2⟩:=cT hh'
    obtain⟨p,hp⟩:∃ p,l[i]?=some p:=⟨_,bA H⟩
    obtain⟨q,Q⟩:∃ q,m[i]?=some q:=⟨_,bA J⟩
    obtain⟨q1,q2⟩:=hcell i p hp
    obtain⟨q3,q4⟩:=hcell' i q Q
    have a2:∀ w1,Ext wr w1->(Instr.loadAt 59 (.pointer (some ⟨b,o+i * 2,none⟩))).run Tryz.prog w1=.ok (.agg #[.string p.1,.string p.2]) w1:=fun w1 A=>jlZ (jaa q1 (X.o.trans A)) (jaa q2 (X.o.trans A));have a3:∀ w1,Ext wr w1->(Instr.loadAt 59 (.pointer (some ⟨b',o'+i * 2,none⟩))).run Tryz.prog w1=.ok (.agg #[.string q.1,.string q.2]) w1:=fun w1 A=>jlZ (jaa q3 (X.o.trans A)) (jaa q4 (X.o.trans A));have a4:=fun w=>juY p.1 p.2 q.1 q.2 w;have b3:=Hd a2;have b4:=Hd a3;have b5:=Hd a4;have HP:=Hd hp;have HQ:=Hd Q;have b1:(i:Int) < (n:Int):=vO
    clear hcell hcell' hh hh' a8 a9 b0 b2 hp Q q1 q2 q3 q4 a2 a3 a4 H J hc hc';go_wp2_with fail
    refine jah [0,1,2,3,4,5,6,7,8] Ext ExtR ExtT vY vY vY ?_;iterate 3 refine vK ?_
    refine qKL ⟨b,o+i * 2,none⟩ _ rfl (fun w1 A=>b3.o w1 ((jai wr).trans A)) ?_;refine vS ?_;iterate 3 refine vK ?_
    refine qKL ⟨b',o'+i * 2,none⟩ _ rfl (fun w1 A=>b4.o w1 ((jai wr).trans A)) ?_;refine vS ?_;refine jcr _ (.bool (!eqP p q)) rfl vY rfl (fun w1 A=>juu rfl rfl vY (b5.o w1)) ?_;refine vS ?_;refine qKE (fun w3 he=>?_);have a5:=Hd ((X.o.trans (jai wr)).trans he);clear he;cases hpq:eqP p q with
    | true =>
     have a6:=(jnc p q).1 hpq;have HT:=Hd (show l.take (i+1)=m.take (i+1) by rw[bS,bS,HP.o,HQ.o,O.o,a6]);clear hpq a6;go_wp2_with fail
     go_roundw
     case rel=>exact⟨i+1,by have:=HN.o;omega,by go_num,a5.o,HT.o⟩
     case measure=>exact vJ
    | false =>
     have HF:=Hd (show jhn l m=false by
      cases hs:jhn l m with
      | false=>rfl
      | true =>
       have e:=(jfm l m).1 hs;have e1:=HP.o;rw[e,HQ.o]at e1;rw[<-bN e1,(jnc q q).2 rfl]at hpq;cases hpq)
     clear hpq;go_wp2_with fail
     go_ret
     exact⟨by rw[HF.o];rfl,a5.o⟩
   ·have b6:i=n:=vO
    have HF:=Hd (show jhn l m=true by
     rw[jfm]
     have:=O.o
     rw[b6,HN.o,cE,a1.o,cE]at this;exact this)
    go_wp2_with fail
    go_ret
    exact⟨by rw[HF.o];rfl,X.o⟩
 ·have Q:((l.length:Int) ==(m.length:Int))=false:=by simp;omega
  have a0:((l.length:Int) !=(m.length:Int))=true:=by simp;omega
  have b7:¬(l.length:Int)=(m.length:Int):=vO
  have HF:=Hd (show jhn l m=false by
   cases hs:jhn l m with
   | false=>rfl
   | true=>exact absurd (by rw[(jfm l m).1 hs]) hlen)
  go_enter Tryz.func21,Tryz.ntmps21;go_wp2_with fail
  go_ret
  exact⟨by rw[HF.o];rfl,ExtR w⟩
def jfO(l:vL):Prop:=l.Pairwise fun p q=>Lt p.k q.k
theorem jdj{k:vN}:∀ {m:vL},k ∉ m.map Pair.k->look m k=none
 | [],_=>rfl
 | q :: r,h=>by
  simp only[bT,bX,not_or]at h;rw[jaN,if_neg h.1,jdj h.2]
theorem jjJ:∀ (a b:vN),Lt a b\/a=b\/Lt b a
 | [],[]=>.inr (.inl rfl)
 | [],_ :: _=>.inl joM
 | _ :: _,[]=>.inr (.inr joM)
 | a :: x,b :: y=>by
  rcases Nat.lt_trichotomy a.toNat b.toNat with h | h | h
  ·exact .inl (jbw.2 (.inl (dA.2 h)))
  ·have e:=dM.1 h
   subst e;rcases jjJ x y with h | h | h
   ·exact .inl (jbw.2 (.inr ⟨rfl,h⟩))
   ·exact .inr (.inl (by rw[h]))
   ·exact .inr (.inr (jbw.2 (.inr ⟨rfl,h⟩)))
  ·exact .inr (.inr (jbw.2 (.inl (dA.2 h))))
theorem jh0{p q:Pair}(h1:p.k=q.k)(h2:p.2=q.2):p=q:=by
 obtain⟨⟨⟨a⟩⟩,b⟩:=p
 obtain⟨⟨⟨c⟩⟩,d⟩:=q
 simp only[Pair.k]at h1 h2;subst h1;subst h2;rfl
theorem jgC:∀ {a b:vL},jfO a->jfO b->(∀ k,look a k=look b k)->a=b
 | [],[],_,_,_=>rfl
 | [],q :: b,_,_,h=>by have:=h q.k;rw[jaN,if_pos rfl]at this;cases this
 | p :: a,[],_,_,h=>by have:=h p.k;rw[jaN,if_pos rfl]at this;cases this
 | p :: a,q :: b,h1,h2,h=>by
  have E:=dY.1 h1;have H:=dY.1 h2;have A:∀ (x:vN) (y:Pair) (m:vL),(∀ z∈m,Lt y.k z.k)->Lt x y.k->look (y :: m) x=none:=fun x y m J O=>by
   refine jdj fun o=>?_;rw[bT,bX]at o;rcases o with e | o
   ·exact lt_irrefl _ (e ▸ O)
   ·obtain⟨z,K,e⟩:=bI.1 o
    exact lt_irrefl _ (jdQ _ _ _ O (e ▸ J z K))
  have Q:p.k=q.k:=by
   rcases jjJ p.k q.k with e | e | e
   ·have:=h p.k
    rw[A p.k q b H.1 e,jaN,if_pos rfl]at this;cases this
   ·exact e
   ·have:=h q.k
    rw[A q.k p a E.1 e,jaN,if_pos rfl]at this;cases this
  have hv:p.2=q.2:=by
   have:=h p.k
   rw[jaN,if_pos rfl,jaN,if_pos Q]at this;exact bN this
  have e:=jh0 Q hv;subst e
  have:a=b:=jgC E.2 H.2 fun k=>by
   have X:=h k;rw[jaN,jaN]at X
   by_cases e:k=p.k
   ·have Z:∀ m:vL,(∀ z∈m,Lt p.k z.k)->look m k=none:=fun m J=>jdj fun o=>by
     obtain⟨z,K,e2⟩:=bI.1 o
     have:=J z K
     rw[e2,e]at this;exact lt_irrefl _ this
    rw[Z a E.1,Z b H.1]
   ·rwa [if_neg e,if_neg e]at X
  rw[this]
theorem jmL(m:vL)(k:vN):valM m k=(look m k).getD ⟨#[]⟩:=rfl
theorem jkA(p:Pair)(k:vN):∀ m:vL,look (putM m p) k=if k=p.k then some p.2 else look m k
 | []=>by rw[putM,jaN,jgp]
 | q :: r=>by
  rw[putM]
  by_cases h:p.k=q.k
  ·rw[if_pos h,jaN,jaN]
   by_cases h2:k=p.k
   ·rw[if_pos h2,if_pos h2]
   ·rw[if_neg h2,if_neg h2,if_neg (by rw[<-h];exact h2)]
  ·rw[if_neg h,jaN,jaN,jkA p k r]
   by_cases h2:k=q.k
   ·rw[if_pos h2,if_pos h2,if_neg (by rw[h2];exact fun e=>h e.symm)]
   ·rw[if_neg h2,if_neg h2]
theorem jiK{k:vN}:∀ {m:vL},k∈m.map Pair.k->∃ v,look m k=some v
 | [],h=>by cases h
 | q :: r,h=>by
  rw[jaN]
  by_cases e:k=q.k
  ·exact⟨_,if_pos e⟩
  ·rw[if_neg e]
   rcases bX.1 h with h | h
   ·exact absurd h e
   ·exact jiK h
theorem joG{k:vN}{v:vB}:∀ {m:vL},look m k=some v->∃ p∈m,p.k=k/\p.2=v
 | [],h=>by cases h
 | q :: r,h=>by
  rw[jaN]at h
  by_cases e:k=q.k
  ·rw[if_pos e]at h
   exact⟨q,bK,e.symm,bN h⟩
  ·rw[if_neg e]at h
   obtain⟨p,o,A⟩:=joG h
   exact⟨p,bH _ o,A⟩
theorem job(k:vB):∀ m:vL,(delM m k).map Pair.k=(m.map Pair.k).erase k.data.toList
 | []=>rfl
 | q :: r=>by
  rw[delM,bT,List.erase_cons]
  by_cases h:k.data.toList=q.k
  ·rw[if_pos h,if_pos (by simp[h])]
  ·rw[if_neg h,if_neg (by intro e;exact h (by simpa using (eq_of_beq e).symm)),bT,job k r]
theorem joE(key:vB)(k:vN):∀ m:vL,(m.map Pair.k).Nodup->look (delM m key) k=if k=key.data.toList then none else look m k
 | [],_=>by rw[delM,jgp];simp
 | q :: r,hn=>by
  rw[bT,fI]at hn;rw[delM]
  by_cases h:key.data.toList=q.k
  ·rw[if_pos h,jaN]
   by_cases h2:k=key.data.toList
   ·rw[if_pos h2];exact jdj (by rw[h2,h];exact hn.1)
   ·rw[if_neg h2,if_neg (by rw[<-h];exact h2)]
  ·rw[if_neg h,jaN,jaN,joE key k r hn.2]
   by_cases h2:k=q.k
   ·rw[if_pos h2,if_pos h2,if_neg (by rw[h2];exact fun e=>h e.symm)]
   ·rw[if_neg h2,if_neg h2]
theorem jmg(p:Pair):∀ m:vL,(putM m p).map Pair.k=if p.k∈m.map Pair.k then m.map Pair.k else m.map Pair.k++[p.k]
 | []=>rfl
 | q :: r=>by
  rw[putM]
  by_cases h:p.k=q.k
  ·rw[if_pos h,if_pos (by simp[h])];simp[h]
  ·rw[if_neg h,bT,jmg p r]
   by_cases h2:p.k∈r.map Pair.k
   ·rw[if_pos h2,if_pos (by rw[bT];exact bH _ h2)];rfl
   ·rw[if_neg h2,if_neg (by rw[bT,bX];exact fun e=>e.elim h h2)];rfl
theorem jmh(p:Pair){m:vL}(h:(m.map Pair.k).Nodup):((putM m p).map Pair.k).Nodup:=by
 rw[jmg];split
 ·exact h
 ·rename_i hn
  rw[fS]
  exact⟨h,by simp,fun a o b hb e=>by simp at hb;subst hb;subst e;exact hn o⟩
theorem jrD(k:vB){m:vL}(h:(m.map Pair.k).Nodup):((delM m k).map Pair.k).Nodup:=by
 rw[job];exact h.erase _
theorem jod(c:Chg){m:vL}(h:(m.map Pair.k).Nodup):((doM m c).map Pair.k).Nodup:=by
 unfold doM;split
 ·exact jrD _ h
 ·exact jmh _ h
theorem jlF:∀ (cs:List Chg) {m:vL},(m.map Pair.k).Nodup->((cs.foldl doM m).map Pair.k).Nodup
 | [],_,h=>h
 | c :: r,_,h=>jlF r (jod c h)
theorem jhk:∀ (l:vL) {m:vL},(m.map Pair.k).Nodup->((l.foldl putM m).map Pair.k).Nodup
 | [],_,h=>h
 | c :: r,_,h=>jhk r (jmh c h)
theorem jh7(l:vL)(cs:List Chg):((jbX l cs).map Pair.k).Nodup:=jlF cs (jhk l (by simp))
def jfb(k:vN)(o:Option vB)(c:Chg):Option vB:=if k=c.key.data.toList then (if c.gone then none else some c.value)else o
theorem jxk(c:Chg)(k:vN){m:vL}(h:(m.map Pair.k).Nodup):look (doM m c) k=jfb k (look m k) c:=by
 unfold doM jfb;cases hg:c.gone with
 | true=>rw[if_pos rfl,joE _ _ _ h];simp
 | false=>rw[if_neg (by simp),jkA];simp[Pair.k]
theorem joF(k:vN):∀ (cs:List Chg) {m:vL},(m.map Pair.k).Nodup->look (cs.foldl doM m) k=cs.foldl (jfb k) (look m k)
 | [],_,_=>rfl
 | c :: r,m,h=>by rw[cN,cN,joF k r (jod c h),jxk c k h]
theorem jl1(k:vN):∀ (l:vL) (m:vL),(l.map Pair.k).Nodup->look (l.foldl putM m) k=(look l k).or (look m k)
 | [],_,_=>by rw[jgp];simp
 | q :: r,m,h=>by
  rw[bT,fI]at h;rw[cN,jl1 k r _ h.2,jkA,jaN]
  by_cases e:k=q.k
  ·rw[if_pos e,if_pos e,jdj (by rw[e];exact h.1)];rfl
  ·rw[if_neg e,if_neg e]
theorem jp5(k:vN)(l:vL)(cs:List Chg)(h:(l.map Pair.k).Nodup):look (jbX l cs) k=cs.foldl (jfb k) (look l k):=by
 unfold jbX;rw[joF k cs (jhk l (by simp)),jl1 k l [] h,jgp];simp
theorem jsd:∀ (a b:vN),Lt a b↔a < b
 | a,[]=>⟨fun h=>absurd h (not_lt_nil _),fun h=>absurd h (List.not_lt_nil _)⟩
 | [],b :: y=>⟨fun _=>List.nil_lt_cons _ _,fun _=>joM⟩
 | a :: x,b :: y=>by rw[jbw,List.cons_lt_cons_iff,jsd x y]
theorem jfO.nodup{l:vL}(h:jfO l):(l.map Pair.k).Nodup:=by
 unfold List.Nodup;rw[List.pairwise_map];refine h.imp fun {p q} h=>?_;intro e;rw[e]at h;exact lt_irrefl _ h
theorem jho(ks:List (vN))(k:vN):k∈jea ks↔k∈ks:=(gE _ _).mem_iff
theorem jnL{ks:List (vN)}(h:ks.Nodup):(jea ks).Pairwise Lt:=by
 have A:∀ a b c:vN,decide (a<=b)=true->decide (b<=c)=true->decide (a<=c)=true:=fun a b c m o=>by simp only[decide_eq_true_eq]at *;exact List.le_trans m o
 have to:∀ a b:vN,(decide (a<=b) || decide (b<=a))=true:=fun a b=>by simp only[Bool.or_eq_true,decide_eq_true_eq];exact List.le_total a b
 have m:(jea ks).Pairwise (fun x y=>decide (x<=y)=true):=List.pairwise_mergeSort A to ks;have o:(jea ks).Nodup:=(gE _ _).nodup_iff.2 h;refine (m.and o).imp fun {a b} h=>?_;have E:a<=b:=by simpa using h.1
 rcases jjJ a b with e | e | e
 ·exact e
 ·exact absurd e h.2
 ·exact absurd ((jsd _ _).1 e) (List.not_lt.2 E)
theorem jqt(m:vL):(jb2 m).map Pair.k=jea (m.map Pair.k):=by
 unfold jb2;rw[dO]
 conv=>rhs;rw[<-List.map_id (jea (m.map Pair.k))]
 exact dV fun k _=>rfl
theorem jmD(m:vL):(jb2 m).length=m.length:=by
 unfold jb2;rw[bU,jfp,bU]
theorem jf6{m:vL}(h:(m.map Pair.k).Nodup):jfO (jb2 m):=by
 have e:=jnL h;rw[<-jqt,List.pairwise_map]at e;exact e
theorem jl0(f:vN->vB)(k:vN):∀ ks:List (vN),look (ks.map fun x=>((⟨x.toArray⟩,f x):Pair)) k=if k∈ks then some (f k)else none
 | []=>rfl
 | x :: r=>by
  rw[bT,jaN,jl0 f k r];have e:Pair.k ((⟨x.toArray⟩,f x):Pair)=x:=rfl;rw[e]
  by_cases h:k=x
  ·rw[if_pos h,if_pos (by simp[h])];simp[h]
  ·rw[if_neg h]
   by_cases h2:k∈r
   ·rw[if_pos h2,if_pos (bH _ h2)]
   ·rw[if_neg h2,if_neg (by rw[bX];exact fun e=>e.elim h h2)]
theorem jl2(m:vL)(k:vN):look (jb2 m) k=look m k:=by
 unfold jb2;rw[jl0]
 by_cases h:k∈m.map Pair.k
 ·rw[if_pos ((jho _ _).2 h)]
  obtain⟨v,o⟩:=jiK h
  rw[jmL,o];rfl
 ·rw[if_neg (fun e=>h ((jho _ _).1 e)),jdj h]
def okP(p:Pair):Prop:=jcg p.1=true/\jbR p.2=true
theorem jnA{p x:Pair}:∀ {m:vL},x∈putM m p->x=p\/x∈m
 | [],h=>.inl (by simpa [putM]using h)
 | q :: r,h=>by
  rw[putM]at h;split at h
  ·rcases bX.1 h with h | h
   ·exact .inl h
   ·exact .inr (bH _ h)
  ·rcases bX.1 h with h | h
   ·exact .inr (h ▸ bK)
   ·exact (jnA h).imp id (bH _)
theorem joa(k:vB):∀ m:vL,(delM m k).Sublist m
 | []=>List.Sublist.refl _
 | x :: r=>by
  unfold delM;split
  ·exact List.sublist_cons_self _ _
  ·exact (joa k r).cons_cons _
theorem jsW:∀ (l:vL) {m:vL},(∀ p∈l,okP p)->(∀ p∈m,okP p)->∀ p∈l.foldl putM m,okP p
 | [],_,_,h=>h
 | q :: r,m,h1,h2=>jsW r (fun p o=>h1 p (bH _ o)) fun p o=>(jnA o).elim (fun e=>e ▸ h1 q bK) (h2 p)
theorem jv1:∀ (cs:List Chg) {m:vL},cs.any Chg.bad=false->(∀ p∈m,okP p)->∀ p∈cs.foldl doM m,okP p
 | [],_,_,h=>h
 | c :: r,m,h1,h2=>by
  rw[List.any_cons,gM]at h1;refine jv1 r h1.2 fun p e=>?_;unfold doM at e;have hb:=h1.1;unfold Chg.bad at hb;cases hg:c.gone with
  | true=>rw[if_pos hg]at e;exact h2 p ((joa _ _).subset e)
  | false =>
   rw[if_neg (by rw[hg];simp)]at e;rcases jnA e with rfl | e
   ·simp[hg]at hb;exact hb
   ·exact h2 p e
theorem jsf{l:vL}(h:jaD l=0):∀ p∈l,okP p:=fun p e=>by
 obtain⟨m,o,A,E⟩:=(jaG h).size p e
 exact⟨decide_eq_true ⟨m,o⟩,decide_eq_true ⟨A,E⟩⟩
theorem jq1{l:vL}{cs:List Chg}(h:jaD l=0)(hc:cs.any Chg.bad=false):∀ p∈jbX l cs,okP p:=
 jv1 cs hc (jsW l (jsf h) (by simp))
theorem ju4{l:vL}(h1:∀ p∈l,okP p)(h2:jfO l)(h3:l.length<=40):jaD l=0:=by
 unfold jaD;rw[if_neg,if_neg vO];intro h
 obtain⟨i,e,hb⟩:=gO.1 h
 have e:=dZ.1 e;have g:∀ j (o:j < l.length),l.getD j (⟨#[]⟩,⟨#[]⟩)=l[j]:=fun j o=>by rw[bC,bA o];rfl
 unfold badN at hb;rw[g i e,(h1 _ (cY e)).1,(h1 _ (cY e)).2]at hb;simp only[iR,Bool.or_self,Bool.false_or,cJ,decide_eq_true_eq,gX]at hb;rw[g (i - 1) vO]at hb
 have:=gP.1 h2 (i - 1) i vO e vO
 have m:=hb.2;unfold jch at m;rw[bL,bL]at m;have A:Op.bytesLess (l[i - 1]).1.data.toList (l[i]).1.data.toList=true:=this;rw[A]at m;cases m
theorem jmW{l:vL}{cs:List Chg}(h:jaY l cs=0):jaD l=0/\cs.any Chg.bad=false/\(jbX l cs).length<=40:=by
 unfold jaY at h;split at h
 ·rename_i h1;exact absurd h h1
 rename_i h1
 split at h
 ·cases h
 rename_i h2
 split at h
 ·cases h
 rename_i h3
 exact⟨by simpa using h1,by simpa using h2,by omega⟩
theorem jqO{m:vL}(h:∀ p∈m,okP p):∀ p∈jb2 m,okP p:=fun p A=>by
 obtain⟨k,E,rfl⟩:=bI.1 A
 obtain⟨v,o⟩:=jiK ((jho _ _).1 E)
 obtain⟨q,H,J,K⟩:=joG o
 have:=h q H
 rw[jmL,o];have e:((⟨k.toArray⟩,(some v).getD ⟨#[]⟩):Pair)=q:=jh0 J.symm K.symm;rw[e];exact this
theorem jca{l:vL}{cs:List Chg}(h:jaY l cs=0):jaD (jb2 (jbX l cs))=0:=by
 obtain⟨e,m,o⟩:=jmW h
 exact ju4 (jqO (jq1 e m)) (jf6 (jh7 l cs)) (by rw[jmD];exact o)
theorem jp4{l:vL}(h:jaD l=0)(cs:List Chg)(k:vN):look (jb2 (jbX l cs)) k=cs.foldl (jfb k) (look l k):=by
 rw[jl2,jp5 k l cs (jfO.nodup (jaG h).rise)]
abbrev Chg.k(c:Chg):vN:=c.key.data.toList
def Chg.o(c:Chg):Option vB:=if c.gone then none else some c.value
theorem jhc{k:vN}:∀ {cs:List Chg},(∀ c∈cs,c.k≠k)->∀ o,cs.foldl (jfb k) o=o
 | [],_,_=>rfl
 | c :: r,h,o=>by
  have e:jfb k o c=o:=by unfold jfb;rw[if_neg (fun e=>h c bK e.symm)]
  rw[cN,e,jhc fun x m=>h x (bH _ m)]
theorem jlV{c:Chg}:∀ {cs:List Chg},c∈cs->(cs.map Chg.k).Nodup->∀ o,cs.foldl (jfb c.k) o=c.o
 | [],h,_,_=>by cases h
 | d :: r,h,hn,o=>by
  rw[bT,fI]at hn;rw[cN];rcases bX.1 h with rfl | h
  ·rw[jhc fun x m e=>hn.1 (by rw[<-e];exact jE m)]
   unfold jfb Chg.o;rw[if_pos rfl]
  ·exact jlV h hn.2 _
structure jle(l m:vL)(cs:List Chg):Prop where
 keys:(cs.map Chg.k).Nodup
 done:∀ c∈cs,look m c.k=c.o
 rest:∀ k,(∀ c∈cs,c.k≠k)->look l k=look m k
 fine:cs.any Chg.bad=false
theorem jle.looks{l m:vL}{cs:List Chg}(h:jle l m cs)(k:vN):cs.foldl (jfb k) (look l k)=look m k:=by
 by_cases hk:∃ c∈cs,c.k=k
 ·obtain⟨c,o,rfl⟩:=hk
  rw[jlV o h.keys,h.done c o]
 ·have A:∀ c∈cs,c.k≠k:=fun c o e=>hk ⟨c,o,e⟩
  rw[jhc A,h.rest k A]
def okL(l:vL):Prop:=(∀ p∈l,okP p)/\jfO l
theorem okL.tail{p:Pair}{l:vL}(h:okL (p :: l)):okL l:=⟨fun q e=>h.1 q (bH _ e),(dY.1 h.2).2⟩
theorem okL.head{p:Pair}{l:vL}(h:okL (p :: l)):okP p:=h.1 p bK
theorem okL.lt{p:Pair}{l:vL}(h:okL (p :: l)):∀ q∈l,Lt p.k q.k:=(dY.1 h.2).1
theorem jpM(l m:vL):∀ c∈jbz l m,c.k∈l.map Pair.k\/c.k∈m.map Pair.k:=by
 fun_induction jbz l m with
 | case1=>intro c e;cases e
 | case2 p l ih =>
  intro c e;rcases bX.1 e with rfl | e
  ·exact .inl (by simp[Chg.k,Pair.k])
  ·rcases ih c e with h | h
   ·exact .inl (bH _ h)
   ·exact .inr h
 | case3 q m ih =>
  intro c e;rcases bX.1 e with rfl | e
  ·exact .inr (by simp[Chg.k,Pair.k])
  ·rcases ih c e with h | h
   ·exact .inl h
   ·exact .inr (bH _ h)
 | case4 p l q m h ih =>
  intro c e;rcases bX.1 e with rfl | e
  ·exact .inl (by simp[Chg.k,Pair.k])
  ·rcases ih c e with h | h
   ·exact .inl (bH _ h)
   ·exact .inr h
 | case5 p l q m h h2 ih =>
  intro c e;rcases bX.1 e with rfl | e
  ·exact .inr (by simp[Chg.k,Pair.k])
  ·rcases ih c e with h | h
   ·exact .inl h
   ·exact .inr (bH _ h)
 | case6 p l q m h h2 h3 ih =>
  intro c e;rcases ih c e with h | h
  ·exact .inl (bH _ h)
  ·exact .inr (bH _ h)
 | case7 p l q m h h2 h3 ih =>
  intro c e;rcases bX.1 e with rfl | e
  ·exact .inr (by simp[Chg.k,Pair.k])
  ·rcases ih c e with h | h
   ·exact .inl (bH _ h)
   ·exact .inr (bH _ h)
theorem jp6{k:vN}{m:vL}(h:∀ q∈m,Lt k q.k):look m k=none:=jdj fun o=>by
 obtain⟨q,A,e⟩:=bI.1 o
 exact lt_irrefl _ (e ▸ h q A)
theorem jha{k:vN}{l m:vL}(h1:∀ q∈l,Lt k q.k)(h2:∀ q∈m,Lt k q.k):∀ c∈jbz l m,Lt k c.k:=fun c A=>by
 rcases jpM l m c A with h | h
 ·obtain⟨q,o,e⟩:=bI.1 h;rw[<-e];exact h1 q o
 ·obtain⟨q,o,e⟩:=bI.1 h;rw[<-e];exact h2 q o
theorem jle.cons{l m l' m':vL}{c:Chg}{cs:List Chg}(h:jle l m cs)(hk:∀ d∈cs,Lt c.k d.k)(hc:look m' c.k=c.o)(hb:c.bad=false)
  (hl:∀ k,k≠c.k->look l' k=look l k) (hm:∀ k,k≠c.k->look m' k=look m k):jle l' m' (c :: cs):=by
 refine⟨?_,?_,?_,?_⟩
 ·rw[bT,fI]
  refine⟨fun E=>?_,h.keys⟩
  obtain⟨d,A,e⟩:=bI.1 E
  exact lt_irrefl _ (e ▸ hk d A)
 ·intro d A
  rcases bX.1 A with rfl | A
  ·exact hc
  ·rw[hm _ (fun e=>lt_irrefl _ (e ▸ hk d A)),h.done d A]
 ·intro k E
  have H:k≠c.k:=fun e=>E c bK e.symm;rw[hl k H,hm k H,h.rest k fun d A=>E d (bH _ A)]
 ·rw[List.any_cons,hb,h.fine];rfl
theorem jrQ{p:Pair}(h:okP p):Chg.bad ⟨p.1,⟨#[]⟩,true⟩=false:=by
 unfold Chg.bad;rw[h.1];rfl
theorem jsV{p:Pair}(h:okP p):Chg.bad ⟨p.1,p.2,false⟩=false:=by
 unfold Chg.bad;rw[h.1,h.2];rfl
theorem jfc(q:Pair)(m:vL):look (q :: m) q.k=some q.2:=by rw[jaN,if_pos rfl]
theorem jcZ{q:Pair}{m:vL}{k:vN}(h:k≠q.k):look (q :: m) k=look m k:=by rw[jaN,if_neg h]
theorem jAK:∀ (l m:vL),okL l->okL m->jle l m (jbz l m):=by
 intro l m
 fun_induction jbz l m with
 | case1=>exact fun _ _=>⟨by simp,by simp,fun _ _=>rfl,rfl⟩
 | case2 p l ih =>
  intro A o;refine (ih A.tail o).cons (jha A.lt (by simp)) rfl (jrQ A.head) (fun k E=>jcZ E) (fun _ _=>rfl)
 | case3 q m ih =>
  intro A o;exact (ih A o.tail).cons (jha (by simp) o.lt) (jfc q m) (jsV o.head) (fun _ _=>rfl) (fun k E=>jcZ E)
 | case4 p l q m h ih =>
  intro A o;have K:=(jdP _ _).1 h;have Q:∀ x∈q :: m,Lt p.k x.k:=fun x H=>by
   rcases bX.1 H with rfl | H
   ·exact K
   ·exact jdQ _ _ _ K (o.lt x H)
  refine (ih A.tail o).cons (jha A.lt Q) (jp6 Q) (jrQ A.head) (fun k E=>jcZ E) (fun _ _=>rfl)
 | case5 p l q m h h' ih =>
  intro A o;have K:=(jdP _ _).1 h';have Z:∀ x∈p :: l,Lt q.k x.k:=fun x H=>by
   rcases bX.1 H with rfl | H
   ·exact K
   ·exact jdQ _ _ _ K (A.lt x H)
  exact (ih A o.tail).cons (jha Z o.lt) (jfc q m) (jsV o.head) (fun _ _=>rfl) (fun k E=>jcZ E)
 | case6 p l q m h h' h3 ih =>
  intro A o;have E:p.k=q.k:=by
   rcases jjJ p.k q.k with e | e | e
   ·exact absurd ((jdP _ _).2 e) h
   ·exact e
   ·exact absurd ((jdP _ _).2 e) h'
  have hv:p.2=q.2:=by
   rw[bL,bL]at h3
   obtain⟨⟨⟨a⟩⟩,⟨⟨b⟩⟩⟩:=p
   obtain⟨⟨⟨c⟩⟩,⟨⟨d⟩⟩⟩:=q
   simp at h3;simp[h3]
  have:=jh0 E hv
  subst this;have O:=ih A.tail o.tail;have J:=jha A.lt o.lt
  refine⟨O.keys,fun c X=>?_,fun k hh=>?_,O.fine⟩
  ·rw[jcZ (fun e=>lt_irrefl _ (e ▸ J c X)),O.done c X]
  ·by_cases e:k=p.k
   ·rw[e,jfc,jfc]
   ·rw[jcZ e,jcZ e,O.rest k hh]
 | case7 p l q m h h' h3 ih =>
  intro A o;have E:p.k=q.k:=by
   rcases jjJ p.k q.k with e | e | e
   ·exact absurd ((jdP _ _).2 e) h
   ·exact e
   ·exact absurd ((jdP _ _).2 e) h'
  have J:=jha (fun x H=>E ▸ A.lt x H) o.lt;exact (ih A.tail o.tail).cons J (jfc q m) (jsV o.head) (fun k e=>jcZ (by rw[E];exact e)) (fun k e=>jcZ e)
theorem jge{l:vL}(h:jaD l=0):okL l:=⟨jsf h,(jaG h).rise⟩
theorem jpO{l m:vL}(h1:jaD l=0)(h2:jaD m=0):jle l m (jgZ l m):=by
 unfold jgZ;rw[if_pos ⟨h1,h2⟩];exact jAK l m (jge h1) (jge h2)
def jjo(l:List Chg):Prop:=∀ p∈l,p.key.size<=9223372036854775807/\p.value.size<=9223372036854775807
theorem juw{l:List Chg}(h:fewC l=true):l.length<=45:=by
 unfold fewC at h;simp only[cJ,decide_eq_true_eq]at h;exact h.2
theorem jqq(l:vL):jhn l l=true:=(jfm l l).2 rfl
theorem jiJ:∀ (i:Nat) (a b:vN),a.take i=b.take i->i<=a.length->i<=b.length->Op.bytesLess a b=Op.bytesLess (a.drop i) (b.drop i)
 | 0,_,_,_,_,_=>rfl
 | i+1,[],_,_,h,_=>by simp at h
 | i+1,_ :: _,[],_,_,h=>by simp at h
 | i+1,x :: a,y :: b,h,h1,h2=>by
  simp only[dU,List.cons.injEq]at h
  obtain⟨rfl,h⟩:=h
  rw[Op.bytesLess,iH,iH, <-jiJ i a b h (by simpa using h1) (by simpa using h2)]
  simp
theorem jxi{i:Nat}{a b:vN}{x y:vU}(h:a.take i=b.take i)(hx:a[i]?=some x)(hy:b[i]?=some y)(hne:x≠y):Op.bytesLess a b=decide (x < y):=by
 obtain⟨e,m⟩:=bO.1 hx
 obtain⟨o,A⟩:=bO.1 hy
 rw[jiJ i a b h vO vO,fP e,fP o,m,A,Op.bytesLess]
 by_cases hl:x < y
 ·simp[hl]
 ·simp[hl,hne]
theorem joC{i:Nat}{a b:vN}(h:a.take i=b.take i)(h1:i<=a.length)(h2:i<=b.length)(he:i=a.length\/i=b.length):Op.bytesLess a b=decide (a.length < b.length):=by
 rw[jiJ i a b h h1 h2];rcases he with he | he
 ·rw[he,gF]
  cases hb:b.drop a.length with
  | nil =>
   have:=congrArg List.length hb
   rw[fY,dD]at this;simp[Op.bytesLess];omega
  | cons y r =>
   have:=congrArg List.length hb
   rw[fY,bP]at this;simp[Op.bytesLess];omega
 ·rw[he,gF]
  cases ha:a.drop b.length with
  | nil =>
   have:=congrArg List.length ha
   rw[fY,dD]at this;simp[Op.bytesLess];omega
  | cons y r =>
   have:=congrArg List.length ha
   rw[fY,bP]at this;simp[Op.bytesLess];omega
def jz4(w:vW)(a b:vB)(iv:vV)(wr:vW):Prop:=∃ i:Nat,i<=a.size/\i<=b.size/\iv=.int .i64 i/\Ext w wr/\a.data.toList.take i=b.data.toList.take i
theorem jqP(w:vW)(a b:vB)(ha:a.size<=9223372036854775807)(hb:b.size<=9223372036854775807):vR 75 #[.string a,.string b] w (.bool (jch a b)):=by
 obtain⟨R,X⟩:=vE (jch a b)
 have Z:=Hd (show R=Op.bytesLess a.data.toList b.data.toList by rw[X];unfold jch;rw[bL,bL]);rw[<-X];clear X;go_enter Tryz.func75,Tryz.ntmps75;go_wp2_with fail
 go_loopw [5] (fun iv wr=>jz4 w a b iv wr) (fun iv _=>a.size - (intOf iv).toNat)
 case atStart=>exact⟨0,by omega,by omega,rfl,ExtR w,rfl⟩
 case round =>
  obtain⟨i,a4,a5,rfl,hE,Q⟩:=hrel
  have O:=Hd hE;have E:=Hd Q;clear hE Q;have a0:a.data.toList.length=a.size:=rfl;have a1:b.data.toList.length=b.size:=rfl
  by_cases h1:i < a.size
  ·have b1:(i:Int) < (a.size:Int):=vO
   by_cases h2:i < b.size
   ·have b2:(i:Int) < (b.size:Int):=vO
    obtain⟨x,hx⟩:=vE (a[i])
    obtain⟨y,hy⟩:=vE (b[i])
    have HX:=Hd (show a.data.toList[i]?=some x by rw[hx,bA vO];rfl);have HY:=Hd (show b.data.toList[i]?=some y by rw[hy,bA vO];rfl);have a6:a[i].toNat=x.toNat:=by rw[hx]
    have a7:b[i].toNat=y.toNat:=by rw[hy]
    clear a0 a1
    by_cases hxy:x=y
    ·have hn:((x.toNat:Int) !=(y.toNat:Int))=false:=by rw[hxy];simp
     have a2:=Hd (show a.data.toList.take (i+1)=b.data.toList.take (i+1) by rw[bS,bS,HX.o,HY.o,E.o,hxy]);clear hxy;go_wp2_with fail
     refine jah [0,1,2,3,4,5,6] Ext ExtR ExtT vY vY vY ?_;iterate 7 refine vK ?_
     refine qKE (fun w3 J=>?_);have m:=Hd (O.o.trans ((jai _).trans J));clear J;go_wp2_with fail
     go_roundw
     case rel=>exact⟨i+1,by omega,by omega,by go_num,m.o,a2.o⟩
     case measure=>exact vJ
    ·have hn:((x.toNat:Int) !=(y.toNat:Int))=true:=by
      simp only[bne_iff_ne,ne_eq];intro e;exact hxy (dM.1 vO)
     have K:=Hd (show R=decide (x < y) by rw[Z.o];exact jxi E.o HX.o HY.o hxy)
     by_cases hl:x < y
     ·have a3:(x.toNat:Int) < (y.toNat:Int):=by have:=dA.1 hl;omega
      have H:=Hd (show R=true by rw[K.o];exact decide_eq_true hl);clear hl hxy;go_wp2_with fail
      refine jah [0,1,2,3,4,5,6] Ext ExtR ExtT vY vY vY ?_;iterate 7 refine vK ?_
      refine qKE (fun w3 J=>?_);go_wp2_with fail
      refine jah [0,1,2,3,4,5,6,7] Ext ExtR ExtT vY vY vY ?_;iterate 8 refine vK ?_
      refine qKE (fun w4 A=>?_);have m:=Hd ((O.o.trans ((jai _).trans J)).trans ((jai _).trans A));clear J A;go_wp2_with fail
      go_ret
      exact⟨by rw[H.o];rfl,m.o⟩
     ·have a3:¬(x.toNat:Int) < (y.toNat:Int):=by
       intro e;exact hl (dA.2 vO)
      have H:=Hd (show R=decide (x.toNat < y.toNat) by rw[K.o,decide_eq_false hl,decide_eq_false (fun e=>hl (dA.2 e))]);clear hl hxy;go_wp2_with fail
      refine jah [0,1,2,3,4,5,6] Ext ExtR ExtT vY vY vY ?_;iterate 7 refine vK ?_
      refine qKE (fun w3 J=>?_);go_wp2_with fail
      refine jah [0,1,2,3,4,5,6,7] Ext ExtR ExtT vY vY vY ?_;iterate 8 refine vK ?_
      refine qKE (fun w4 A=>?_);have m:=Hd ((O.o.trans ((jai _).trans J)).trans ((jai _).trans A));clear J A;go_wp2_with fail
      go_ret
      exact⟨by rw[H.o];rfl,m.o⟩
   ·have b2:¬(i:Int) < (b.size:Int):=vO
    have K:=Hd (show R=decide (a.size < b.size) by rw[Z.o];exact joC E.o vO vO (.inr vO));have b3:¬(a.size:Int) < (b.size:Int):=vO
    have H:=Hd (show R=false by rw[K.o];exact decide_eq_false vO);go_wp2_with fail
    go_ret
    exact⟨by rw[H.o];rfl,O.o⟩
  ·have b1:¬(i:Int) < (a.size:Int):=vO
   have K:=Hd (show R=decide (a.size < b.size) by rw[Z.o];exact joC E.o vO vO (.inl vO))
   by_cases hl:a.size < b.size
   ·have b3:(a.size:Int) < (b.size:Int):=vO
    have H:=Hd (show R=true by rw[K.o];exact decide_eq_true hl);clear hl;go_wp2_with fail
    go_ret
    exact⟨by rw[H.o];rfl,O.o⟩
   ·have b3:¬(a.size:Int) < (b.size:Int):=vO
    have H:=Hd (show R=false by rw[K.o];exact decide_eq_false hl);clear hl;go_wp2_with fail
    go_ret
    exact⟨by rw[H.o];rfl,O.o⟩
theorem jwd(w:vW)(k:vB)(hs:k.size<=9223372036854775807):vR 73 #[.string k] w (.bool (jcg k)):=by
 by_cases h0:1<=k.size
 ·have e:(1:Int)<=(k.size:Int):=vO
  by_cases h6:k.size<=6
  ·have c:(k.size:Int)<=6:=vO
   have E:=Hd (show jcg k=true by unfold jcg;simp;omega);go_enter Tryz.func73,Tryz.ntmps73;go_wp2_with fail
   go_ret
   exact⟨by rw[E.o];rfl,ExtR w⟩
  ·have c:¬(k.size:Int)<=6:=vO
   have E:=Hd (show jcg k=false by unfold jcg;simp;omega);go_enter Tryz.func73,Tryz.ntmps73;go_wp2_with fail
   go_ret
   exact⟨by rw[E.o];rfl,ExtR w⟩
 ·have e:¬(1:Int)<=(k.size:Int):=vO
  have E:=Hd (show jcg k=false by unfold jcg;simp;omega);go_enter Tryz.func73,Tryz.ntmps73;go_wp2_with fail
  go_ret
  exact⟨by rw[E.o];rfl,ExtR w⟩
theorem jpa(w:vW)(k:vB)(hs:k.size<=9223372036854775807):vR 74 #[.string k] w (.bool (jbR k)):=by
 by_cases h0:1<=k.size
 ·have e:(1:Int)<=(k.size:Int):=vO
  by_cases h6:k.size<=80
  ·have c:(k.size:Int)<=80:=vO
   have E:=Hd (show jbR k=true by unfold jbR;simp;omega);go_enter Tryz.func74,Tryz.ntmps74;go_wp2_with fail
   go_ret
   exact⟨by rw[E.o];rfl,ExtR w⟩
  ·have c:¬(k.size:Int)<=80:=vO
   have E:=Hd (show jbR k=false by unfold jbR;simp;omega);go_enter Tryz.func74,Tryz.ntmps74;go_wp2_with fail
   go_ret
   exact⟨by rw[E.o];rfl,ExtR w⟩
 ·have e:¬(1:Int)<=(k.size:Int):=vO
  have E:=Hd (show jbR k=false by unfold jbR;simp;omega);go_enter Tryz.func74,Tryz.ntmps74;go_wp2_with fail
  go_ret
  exact⟨by rw[E.o];rfl,ExtR w⟩
end Go.Proofs.YtegloohdmjadoaaGreatDoor
