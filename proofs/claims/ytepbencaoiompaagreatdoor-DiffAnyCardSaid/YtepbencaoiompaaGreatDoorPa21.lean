/- Lemmas; each is under no condition but those that it states. -/
import Derived.Test.YtepbencaoiompaaGreatDoorPa20
namespace Go.Proofs.YtepbencaoiompaaGreatDoor
set_option linter.unusedSimpArgs false
set_option linter.unusedVariables false
set_option maxRecDepth 100000
set_option maxHeartbeats 16000000
open Go Go.RowKit
def RdC(w:vW)(v:vV)(xs:List Chg):Prop:=
 (∃ a c,v=.slice a 0 c/\xs=[])\/∃ b o c,v=.slice (some ⟨b,o,none⟩) xs.length c/\b < w.heap.size/\xs.length<=c/\∀ (j:Nat) x,xs[j]?=some x->w.cell? ⟨b,o+j * 3,none⟩=some (.string x.key)/\w.cell? ⟨b,o+j * 3+1,none⟩=some (.string x.value)/\w.cell? ⟨b,o+j * 3+2,none⟩=some (.bool x.gone)
theorem RdC.ext{w w':vW}{v:vV}{xs:List Chg}(h:RdC w v xs)(k:Ext w w'):RdC w' v xs:=by
 rcases h with h |⟨b,o,c,h1,h2,h3,h4⟩
 ·exact .inl h
 ·exact .inr ⟨b,o,c,h1,bR h2 k.size,h3,fun j x e=>⟨jaa (h4 j x e).1 k,jaa (h4 j x e).2.1 k,jaa (h4 j x e).2.2 k⟩⟩
theorem RdC.sl{w:vW}{v:vV}{xs:List Chg}(h:RdC w v xs):∃ a c,v=.slice a xs.length c:=by
 rcases h with⟨a,c,h1,h2⟩ |⟨b,o,c,h1,_⟩
 ·exact⟨a,c,by rw[h1,h2];rfl⟩
 ·exact⟨_,c,h1⟩
theorem Tryz.makeMapSE(W:vW):(Instr.makeMap 116 none).run Tryz.prog W=.ok (.map (some W.heap.size)) (W.alloc (.map #[] 0)):=vY
theorem Tryz.zeroE(w:vW):(zeroValue 53).run Tryz.prog w=.ok (.agg #[.string ⟨#[]⟩,.string ⟨#[]⟩]) w:=vY
def jea(w:vW)(l:vL)(cs:List Chg)(e:Ending)(w':vW):Prop:=
 if ja8 l cs=0 then ∃ r,e=.returned (.tuple #[r,.int .i64 0])/\ERow w w' r (jc8 (jdC l cs)).length (jc8 (jdC l cs))else e=.returned (.tuple #[.slice none 0 0,.int .i64 (ja8 l cs)])/\Ext w w'
theorem jea.bad{w w':vW}{l:vL}{cs:List Chg}{x:Int}(h:ja8 l cs=x)(h0:x≠0)(he:Ext w w'):jea w l cs (.returned (.tuple #[.slice none 0 0,.int .i64 x])) w':=by
 unfold jea;rw[h,if_neg h0];exact⟨rfl,he⟩
def jzp(w:vW)(cs:List Chg)(i:vV)(wr:vW):Prop:=∃ k:Nat,k<=cs.length/\i=.int .i64 k/\Ext w wr/\(cs.take k).any Chg.bad=false
def jzq(w:vW)(bm:Nat)(l:vL)(i:vV)(wr:vW):Prop:=∃ k:Nat,k<=l.length/\i=.int .i64 k/\Ext w wr/\∃ es ck,Blk wr bm (.map (Tryz.ES.arr es) ck)/\MapR es ck ((l.take k).foldl putM [])
def jzr(w:vW)(bm:Nat)(l:vL)(cs:List Chg)(i:vV)(wr:vW):Prop:=∃ k:Nat,k<=cs.length/\i=.int .i64 k/\Ext w wr/\∃ es ck,Blk wr bm (.map (Tryz.ES.arr es) ck)/\MapR es ck ((cs.take k).foldl doM (l.foldl putM []))
def jzs(w5:vW)(M:vL)(v i:vV)(wr:vW):Prop:=∃ k:Nat,k<=M.length/\i=.int .i64 k/\ERow w5 wr v k ((jc8 M).take k)
theorem juZ{cs:List Chg}{k:Nat}{c:Chg}(h:cs[k]?=some c):(cs.take (k+1)).any Chg.bad=((cs.take k).any Chg.bad || c.bad):=by
 rw[cE,h,List.any_append];simp
theorem jrU{cs:List Chg}{k:Nat}{c:Chg}(h:cs[k]?=some c)(hb:c.bad=true):cs.any Chg.bad=true:=fQ.2 ⟨c,bJ h,hb⟩
theorem jky(w:vW)(v u:vV)(l:vL)(cs:List Chg)(hv:RdP w v l)(hu:RdC w u cs)(hn:l.length<=9223372036854775807)(hnc:cs.length<=9223372036854775807)(hs:∀ p∈l,p.1.size<=9223372036854775807/\p.2.size<=9223372036854775807)(hsc:∀ c∈cs,c.key.size<=9223372036854775807/\c.value.size<=9223372036854775807) :
  vQ 31 #[v,u] w (jea w l cs):=by
 have a5:=Hd (jhi w v l hv hn hs);have HV:=Hd hv;have HU:=Hd hu;have d7:=Hd hsc
 obtain⟨a,c,rfl⟩:=hv.sl
 obtain⟨a',c',d5⟩:=hu.sl
 subst d5;clear hv hu hs hsc
 by_cases hck:jaD l=0
 case neg =>
  obtain⟨x,hx⟩:=vE (jaD l)
  have HB:=Hd (show ja8 l cs=x by unfold ja8;rw[if_pos hck,hx]);rw[<-hx]at hck a5;have f8:(x == 0)=false:=by simpa using hck
  have HX:=Hd hck;clear hck hx HV HU d7;go_enter Tryz.func31,Tryz.ntmps31;go_wp2_with fail
  refine a5.o.mono ?_;rintro e w1 ⟨rfl,Q⟩;have H:=Hd Q;clear Q a5;go_wp2_with fail
  go_ret2;exact jea.bad HB.o HX.o H.o
 rw[hck]at a5;have g7:=Hd (jaE hck).len;have a2:=Hd hck;clear hck;go_enter Tryz.func31,Tryz.ntmps31;go_wp2_with fail
 refine a5.o.mono ?_;rintro e w1 ⟨rfl,Q⟩;have d8:=Hd Q;clear Q a5;go_wp2_with fail
 go_loopw [24] (fun i wr=>jzp w cs i wr) (fun i _=>cs.length - (intOf i).toNat)
 case atStart=>exact⟨0,by omega,rfl,d8.o,rfl⟩
 case round =>
  obtain⟨k,hk,rfl,Q,b5⟩:=hrel
  have H:=Hd Q;have a0:=Hd b5;clear Q b5
  by_cases hlt:k < cs.length
  ·rcases HU.o with⟨_,_,_,h0⟩ |⟨b,o,c1,hh,hb,hc,z⟩
   ·rw[h0]at hlt;cases hlt
   cases hh
   obtain⟨p,hp⟩:∃ p,cs[k]?=some p:=⟨_,bA hlt⟩
   obtain⟨q1,q2,q3⟩:=z k p hp
   have q1:=jaa q1 H.o;have q2:=jaa q2 H.o;have q3:=jaa q3 H.o;have c3:=d7.o p (bJ hp);have b1:(k:Int) < (cs.length:Int):=vO
   have HP:=Hd hp
   obtain⟨ky,vl,gn⟩:=p
   simp only at q1 q2 q3 c3;clear z hp hb hc;have a3:=Hd (fun(h:Chg.bad ⟨ky,vl,gn⟩=true)=>(show ja8 l cs=1 by
    unfold ja8;rw[if_neg (by rw[a2.o];simp),if_pos (jrU HP.o h)]))
   have d9:=Hd (fun(h:Chg.bad ⟨ky,vl,gn⟩=false)=>(show (cs.take (k+1)).any Chg.bad=false by rw[juZ HP.o,a0.o,h];rfl));have b2:=Hd (H.o.alloc (.cells #[.string ky,.string vl,.bool gn] 50));clear HP a0;go_wp2_with fail
   refine (jhs _ ky c3.1).mono ?_;rintro e w3 ⟨rfl,rfl⟩;clear q1 q2 q3;cases hky:jei ky with
   | false =>
    have HB:=Hd (a3.o (by unfold Chg.bad;simp[hky]));clear hky;go_wp2_with fail
    go_ret2;exact jea.bad HB.o vI b2.o
   | true =>
    cases gn with
    | true =>
     by_cases hz:vl.size=0
     ·have:=ja1 hz
      subst this;have HG:=Hd (d9.o (by unfold Chg.bad;simp[hky];rfl));clear hky hz;go_wp2_with fail
      go_roundw
      case rel=>exact⟨k+1,by omega,by go_num,b2.o,HG.o⟩
      case measure=>exact vJ
     ·have f8:=ja4 (s:=vl) vO
      have HB:=Hd (a3.o (by unfold Chg.bad;simp[hky,hz]));clear hky hz;go_wp2_with fail
      go_ret2;exact jea.bad HB.o vI b2.o
    | false =>
     go_wp2_with fail
     refine (jg5 _ vl c3.2).mono ?_;rintro e w3 ⟨rfl,rfl⟩;cases hvl:jcT vl with
     | true =>
      have HG:=Hd (d9.o (by unfold Chg.bad;simp[hky,hvl]));clear hky hvl;go_wp2_with fail
      go_roundw
      case rel=>exact⟨k+1,by omega,by go_num,b2.o,HG.o⟩
      case measure=>exact vJ
     | false =>
      have HB:=Hd (a3.o (by unfold Chg.bad;simp[hky,hvl]));clear hky hvl;go_wp2_with fail
      go_ret2;exact jea.bad HB.o vI b2.o
  ·have e0:k=cs.length:=vO
   have HB:=Hd (show cs.any Chg.bad=false by have h:=a0.o;rwa [e0,cF]at h);clear e0 a0;have f9:=Tryz.makeMapSE wr;go_wp2_with fail
   obtain⟨bm,b7⟩:=vE wr.heap.size
   have e4:=Hd (show Blk (wr.alloc (.map #[] 0)) bm (.map #[] 0) by rw[b7];exact Blk.new wr _);have c4:w.heap.size<=bm:=by rw[b7];exact H.o.size
   have e5:=Hd (H.o.alloc (.map #[] 0));rw[<-b7];clear f9 b7;go_loopw [56] (fun i w2=>jzq w bm l i w2) (fun i _=>l.length - (intOf i).toNat)
   case atStart=>exact⟨0,by omega,rfl,e5.o,[],0,e4.o,MapR.nil 0⟩
   case round =>
    clear H e5 e4 d8
    obtain⟨j,hj,rfl,Q,es,ck,hM,hR⟩:=hrel
    have H:=Hd Q;have X:=Hd hR
    by_cases hlt2:j < l.length
    ·rcases HV.o with⟨_,_,_,h0⟩ |⟨b,o,c1,hh,hb,hc,z⟩
     ·rw[h0]at hlt2;cases hlt2
     cases hh
     obtain⟨p,hp⟩:∃ p,l[j]?=some p:=⟨_,bA hlt2⟩
     obtain⟨q1,q2⟩:=z j p hp
     have q1:=jaa q1 H.o;have q2:=jaa q2 H.o;have b1:(j:Int) < (l.length:Int):=vO
     have HP:=Hd hp
     obtain⟨x,y⟩:=p
     simp only at q1 q2;have O:=hM.alloc (.cells #[.string x,.string y] 53)
     obtain⟨A,E⟩:=vE (jbo es x.data.toList (Pair.V (x,y)) ck)
     obtain⟨J,K⟩:=vE (if (jaS es x.data.toList).isSome then ck else ck+1)
     have g0:(Instr.mapUpdate 116 (.map (some bm)) (.string x) (.agg #[.string x,.string y])).run Tryz.prog (wr.alloc (.cells #[.string x,.string y] 53))=.ok () ((wr.alloc (.cells #[.string x,.string y] 53)).putObj bm (.map (Tryz.ES.arr A) J)):=by
      have:=jb5 Tryz.ES Tryz.uMapSE O x.data.toList (Pair.V (x,y))
      rw[<-E, <-K]at this;exact this
     have Z:=Hd (show MapR A J ((l.take (j+1)).foldl putM []) by
      rw[cE,HP.o,fM,E,K];exact X.o.put (x,y))
     have b3:=Hd (O.put_same (.map (Tryz.ES.arr A) J));have b4:=Hd ((H.o.alloc (.cells #[.string x,.string y] 53)).putObj (.inr c4) (.map (Tryz.ES.arr A) J));clear z hp hb hc hM hR O E K Q X H;go_wp2_with fail
     go_roundw
     case rel=>exact⟨j+1,by omega,by go_num,b4.o,A,J,b3.o,Z.o⟩
     case measure=>exact vJ
    ·have e6:j=l.length:=vO
     have Z:=Hd (show MapR es ck (l.foldl putM []) by have h:=X.o;rwa [e6,cF]at h);have e7:=Hd hM;have e8:=Hd Q;clear e6 hM hR Q X H;go_wp2_with fail
     go_loopw [67] (fun i w2=>jzr w bm l cs i w2) (fun i _=>cs.length - (intOf i).toNat)
     case atStart=>exact⟨0,by omega,rfl,e8.o,es,ck,e7.o,Z.o⟩
     case round =>
      clear e8 e7 Z
      obtain⟨q,hq,rfl,Q,es,ck,hM,hR⟩:=hrel
      have H:=Hd Q;have X:=Hd hR
      by_cases hlt3:q < cs.length
      ·rcases HU.o with⟨_,_,_,h0⟩ |⟨b,o,c1,hh,hb,hc,z⟩
       ·rw[h0]at hlt3;cases hlt3
       cases hh
       obtain⟨p,hp⟩:∃ p,cs[q]?=some p:=⟨_,bA hlt3⟩
       obtain⟨q1,q2,q3⟩:=z q p hp
       have q1:=jaa q1 H.o;have q2:=jaa q2 H.o;have q3:=jaa q3 H.o;have b1:(q:Int) < (cs.length:Int):=vO
       have HP:=Hd hp
       obtain⟨x,y,gn⟩:=p
       simp only at q1 q2 q3;have O:=hM.alloc (.cells #[.string x,.string y,.bool gn] 50);have a9:(cs.take (q+1)).foldl doM (l.foldl putM [])=doM ((cs.take q).foldl doM (l.foldl putM [])) ⟨x,y,gn⟩:=by
        rw[cE,HP.o,fM];rfl
       have b0:=Hd a9;cases gn with
       | true =>
        obtain⟨A,E⟩:=vE (jef es x.data.toList)
        have g9:(Builtin.delete_ #[116,9] 0 #[.map (some bm),.string x]).run Tryz.prog (wr.alloc (.cells #[.string x,.string y,.bool true] 50))=.ok (.tuple #[]) ((wr.alloc (.cells #[.string x,.string y,.bool true] 50)).putObj bm (.map (Tryz.ES.arr A) ck)):=by
         have:=jrl Tryz.ES Tryz.uMapSE O x.data.toList 9 0
         rw[<-E]at this;exact this
        have Z:=Hd (show MapR A ck ((cs.take (q+1)).foldl doM (l.foldl putM [])) by
         rw[b0.o,E];exact X.o.del x)
        have b3:=Hd (O.put_same (.map (Tryz.ES.arr A) ck));have b4:=Hd ((H.o.alloc (.cells #[.string x,.string y,.bool true] 50)).putObj (.inr c4) (.map (Tryz.ES.arr A) ck));clear z hp hb hc hM hR O E Q X H a9 b0;go_wp2_with fail
        go_roundw
        case rel=>exact⟨q+1,by omega,by go_num,b4.o,A,ck,b3.o,Z.o⟩
        case measure=>exact vJ
       | false =>
        obtain⟨A,E⟩:=vE (jbo es x.data.toList (Pair.V (x,y)) ck)
        obtain⟨J,K⟩:=vE (if (jaS es x.data.toList).isSome then ck else ck+1)
        have g0:(Instr.mapUpdate 116 (.map (some bm)) (.string x) (.agg #[.string x,.string y])).run Tryz.prog (wr.alloc (.cells #[.string x,.string y,.bool false] 50))=.ok () ((wr.alloc (.cells #[.string x,.string y,.bool false] 50)).putObj bm (.map (Tryz.ES.arr A) J)):=by
         have:=jb5 Tryz.ES Tryz.uMapSE O x.data.toList (Pair.V (x,y))
         rw[<-E, <-K]at this;exact this
        have Z:=Hd (show MapR A J ((cs.take (q+1)).foldl doM (l.foldl putM [])) by
         rw[b0.o,E,K];exact X.o.put (x,y))
        have b3:=Hd (O.put_same (.map (Tryz.ES.arr A) J));have b4:=Hd ((H.o.alloc (.cells #[.string x,.string y,.bool false] 50)).putObj (.inr c4) (.map (Tryz.ES.arr A) J));clear z hp hb hc hM hR O E K Q X H a9 b0;go_wp2_with fail
        go_roundw
        case rel=>exact⟨q+1,by omega,by go_num,b4.o,A,J,b3.o,Z.o⟩
        case measure=>exact vJ
      ·have e9:q=cs.length:=vO
       obtain⟨M,c5⟩:=vE (jdC l cs)
       have a1:=Hd (show MapR es ck M by have h:=X.o;rw[e9,cF]at h;rw[c5];exact h);have c9:=Hd c5;have f0:=ji8 Tryz.ES Tryz.uMapSE hM;rw[a1.o.len]at f0;have f1:=Hd hM;have d0:=Hd Q;clear e9 hM hR Q X H c5
       by_cases h40:40 < M.length
       ·have g1:(40:Int) < (M.length:Int):=vO
        have d1:=Hd (show ja8 l cs=12 by unfold ja8;rw[if_neg (by rw[a2.o];simp),HB.o, <-c9.o];simp[h40]);clear h40;go_wp2_with fail
        go_ret2;exact jea.bad d1.o vI d0.o
       ·have g1:¬(40:Int) < (M.length:Int):=vO
        have d1:=Hd (show ja8 l cs=0 by unfold ja8;rw[if_neg (by rw[a2.o];simp),HB.o, <-c9.o];simp[h40]);have g8:M.length<=40:=vO
        clear h40;go_wp2_with fail
        refine (jtg wr bm).mono ?_;rintro e w4 ⟨rfl,f2,d2⟩;have f3:=Hd f2;have a4:=Hd (f1.o.keeps d2 (fun h=>h));have f4:=Hd (d0.o.trans d2);clear f2 d2 f0;go_wp2_with fail
        refine (jwK w4 wr.heap.size bm ck es ⟨f3.o,a4.o⟩ a1.o.born a1.o.keys a1.o.lt (by have:=a1.o.len;omega)).mono ?_;rintro e w5 ⟨u,rfl,hS⟩;rw[a1.o.keysEq,a1.o.len]at hS
        obtain⟨KS,b8⟩:=vE (jeI (M.map Pair.k))
        rw[<-b8]at hS;have f5:KS.length=M.length:=by rw[b8,jg0,cB]
        have HK:=Hd b8;have g2:=Hd f5
        obtain⟨a6,c6,rfl⟩:=hS.sl
        have g3:=Hd hS.rd;have f6:=Hd (f4.o.trans hS.ext);have d6:=Hd (a4.o.keeps hS.ext (fun h=>h));have d3:=Hd (show (jc8 M).length=M.length by unfold jc8;rw[cB,jg0,cB]);clear hS b8 f5 a4 f4 f3 d0 f1;go_wp2_with fail
        go_loopw [14,92] (fun v i wr=>jzs w5 M v i wr) (fun _ i _=>M.length - (intOf i).toNat)
        case atStart=>exact⟨0,by omega,rfl,ORow.nil _ _ (ExtR w5)⟩
        case round =>
         obtain⟨t,ht,rfl,hR⟩:=hrel
         obtain⟨a7,c7,rfl⟩:=hR.sl
         have X:=Hd hR;clear hR
         by_cases hlt4:t < M.length
         ·obtain⟨kk,b9⟩:∃ kk,KS[t]?=some kk:=⟨_,bA (by rw[g2.o];exact hlt4)⟩
          obtain⟨x,hx⟩:∃ x:vB,x=⟨kk.toArray⟩:=⟨_,rfl⟩
          obtain⟨y,hy⟩:=vE (valM M kk)
          obtain⟨_,_,hh,z⟩:=g3.o.slice
          obtain⟨b,o,g4,f7⟩:=z t x (by unfold baL;rw[cA,b9,hx];rfl)
          obtain⟨e1,e2,e3⟩:=fY hh
          subst e1;subst e3;subst g4;clear hh e2;have q1:=jaa f7 X.o.ext;have b6:kk∈M.map Pair.k:=by
           have h1:=bJ b9;rw[HK.o]at h1;exact (iJ _ _).mem_iff.1 h1
          have h3:(Instr.lookup 116 (.map (some bm)) (.string x) false).run Tryz.prog wr=.ok (.agg #[.string x,.string y]) wr:=by
           have:=jcg Tryz.ES Tryz.uMapSE (d6.o.keeps X.o.ext (fun h=>h)) (Tryz.zeroE wr) kk false
           rw[a1.o.get b6, <-hx, <-hy]at this;rw[hx];rw[hx]at this;exact this
          have a9:(jc8 M).take (t+1)=(jc8 M).take t++[(x,y)]:=by
           rw[cE]
           have:(jc8 M)[t]?=some (x,y):=by
            unfold jc8;rw[<-HK.o,cA,b9,hx,hy];rfl
           rw[this];rfl
          have b0:=Hd a9;have b1:(t:Int) < (M.length:Int):=vO
          clear z f7 b6 a9 b9 hx hy;go_wp2_with (at_builtin;refine jba Tryz.sEnts (X.o.mono ((ExtR wr).alloc _)) (.tmp 96) (.tmp 100) rfl rfl rfl (ja3 (Blk.new wr _)) (news:=[.string x,.string y]) (by intro u hu;simp at hu;rcases hu with rfl | rfl <;> rfl) rfl rfl ?c1 ?c2 (fun v' w' r1 r2 r3=>?_))
          case c1=>unfold maxLen;omega
          case c2=>omega
          have d4:ERow w5 w' v' (t+1) ((jc8 M).take (t+1)):=by unfold ERow;rw[b0.o,jbk];exact r1
          obtain⟨a8,c8,rfl⟩:=d4.sl
          have g5:=Hd d4;clear r1 r2 r3 d4 X;go_wp2_with fail
          go_roundw
          case rel=>exact⟨t+1,by omega,by go_num,g5.o⟩
          case measure=>exact vJ
         ·have c0:t=M.length:=vO
          have g6:=Hd (show ERow w wr (.slice a7 t c7) (jc8 M).length (jc8 M) by
           have h:=X.o;rw[show (jc8 M).take t=jc8 M from by rw[c0, <-d3.o,cF]]at h;have h2:ERow w5 wr (.slice a7 t c7) (jc8 M).length (jc8 M):=by rw[d3.o, <-c0];exact h
           exact⟨by rw[d3.o, <-c0];exact⟨_,_,rfl⟩,h2.own,f6.o.trans h2.ext,fun b hb=>bH f6.o.size (h2.new b hb)⟩)
          clear c0 X;go_wp2_with fail
          go_ret2;unfold jea;rw[if_pos d1.o, <-c9.o]
          exact⟨_,rfl,g6.o⟩
end Go.Proofs.YtepbencaoiompaaGreatDoor
