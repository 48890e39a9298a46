/- Lemmas; each is under no condition but those that it states. -/
import Derived.Test.YtnkdaacmpceghaaGreatDoorPa17
namespace Go.Proofs.YtnkdaacmpceghaaGreatDoor
set_option linter.unusedSimpArgs false
set_option linter.unusedVariables false
set_option maxRecDepth 100000
set_option maxHeartbeats 16000000
open Go Go.RowKit
variable {F:BSet}{c:Chg}{cs xs:List Chg}{b n ck bm i j win next sz by' d B r bg f:Nat}{D E D':Nat->Prop}{p q:Pair}{a x y pa va z s:vB}{l m l' m':vL}{M L rs T:vM}{t:vN}{v pv:vV}{W w w0 w' w2 w3 W':vW}
def RdC(w:vW)(v:vV)(xs:List Chg):Prop:=
 (∃ a c,v=.slice a 0 c/\xs=[])\/∃ b o c,v=.slice (some ⟨b,o,none⟩) xs.length c/\b < w.heap.size/\xs.length<=c/\∀ (j:Nat) x,xs[j]?=some x->w.cell? ⟨b,o+j * 3,none⟩=some (.string x.key)/\w.cell? ⟨b,o+j * 3+1,none⟩=some (.string x.value)/\w.cell? ⟨b,o+j * 3+2,none⟩=some (.bool x.gone)
theorem RdC.ext(h:RdC w v xs)(k:Ext w w'):RdC w' v xs:=by
 rcases h with h |⟨b,o,c,h1,h2,h3,h4⟩
 ·exact .inl h
 ·exact .inr ⟨b,o,c,h1,bC h2 k.size,h3,fun j x e=>⟨jaa (h4 j x e).1 k,jaa (h4 j x e).2.1 k,jaa (h4 j x e).2.2 k⟩⟩
theorem RdC.sl(h:RdC w v xs):∃ a c,v=.slice a xs.length c:=by
 rcases h with⟨a,c,h1,h2⟩ |⟨b,o,c,h1,_⟩
 ·exact⟨a,c,by rw[h1,h2];rfl⟩
 ·exact⟨_,c,h1⟩
theorem Tryz.makeMapSE(W:vW):(Instr.makeMap 233 none).run Tryz.prog W=.ok (.map (some W.heap.size)) (W.alloc (.map #[] 0)):=vY
theorem Tryz.zeroE(w:vW):(zeroValue 52).run Tryz.prog w=.ok (.agg #[.string ⟨#[]⟩,.string ⟨#[]⟩]) w:=vY
def jd8(w:vW)(l:vL)(cs:List Chg)(e:Ending)(w':vW):Prop:=
 if jbL l cs=0 then ∃ r,e=.returned (.tuple #[r,.int .i64 0])/\ERow w w' r (jbV (jca l cs)).length (jbV (jca l cs))else e=.returned (.tuple #[.slice none 0 0,.int .i64 (jbL l cs)])/\Ext w w'
theorem jd8.bad{x:Int}(h:jbL l cs=x)(h0:x≠0)(he:Ext w w'):jd8 w l cs (.returned (.tuple #[.slice none 0 0,.int .i64 x])) w':=by
 unfold jd8;rw[h,if_neg h0];exact⟨rfl,he⟩
def jwN(w:vW)(cs:List Chg)(i:vV)(wr:vW):Prop:=∃ k:Nat,k<=cs.length/\i=.int .i64 k/\Ext w wr/\(cs.take k).any Chg.bad=false
def jwO(w:vW)(bm:Nat)(l:vL)(i:vV)(wr:vW):Prop:=∃ k:Nat,k<=l.length/\i=.int .i64 k/\Ext w wr/\∃ es ck,Blk wr bm (.map (Tryz.ES.arr es) ck)/\MapR es ck ((l.take k).foldl putM [])
def jwP(w:vW)(bm:Nat)(l:vL)(cs:List Chg)(i:vV)(wr:vW):Prop:=∃ k:Nat,k<=cs.length/\i=.int .i64 k/\Ext w wr/\∃ es ck,Blk wr bm (.map (Tryz.ES.arr es) ck)/\MapR es ck ((cs.take k).foldl doM (l.foldl putM []))
def jwQ(w5:vW)(M:vL)(v i:vV)(wr:vW):Prop:=∃ k:Nat,k<=M.length/\i=.int .i64 k/\ERow w5 wr v k ((jbV M).take k)
theorem jse{k:Nat}(h:cs[k]?=some c):(cs.take (k+1)).any Chg.bad=((cs.take k).any Chg.bad || c.bad):=by
 rw[bX,h,List.any_append];simp
theorem jut{k:Nat}(h:cs[k]?=some c)(hb:c.bad=true):cs.any Chg.bad=true:=gY.2 ⟨c,bG h,hb⟩
theorem jo3(w:vW)(v u:vV)(l:vL)(cs:List Chg)(hv:RdP w v l)(hu:RdC w u cs)(hn:l.length<=9223372036854775807)(hnc:cs.length<=9223372036854775807)(hs:∀ p∈l,p.1.size<=9223372036854775807/\p.2.size<=9223372036854775807)(hsc:∀ c∈cs,c.key.size<=9223372036854775807/\c.value.size<=9223372036854775807) :
  vQ 78 #[v,u] w (jd8 w l cs):=by
 have a9:=Hd (jhe w v l hv hn hs);have HV:=Hd hv;have HU:=Hd hu;have d8:=Hd hsc
 obtain⟨a,c,rfl⟩:=hv.sl
 obtain⟨a',c',d6⟩:=hu.sl
 subst d6;clear hv hu hs hsc
 by_cases hck:jbf l=0
 case neg =>
  obtain⟨x,hx⟩:=vE (jbf l)
  have HB:=Hd (show jbL l cs=x by unfold jbL;rw[if_pos hck,hx]);rw[<-hx]at hck a9;have f9:(x == 0)=false:=by simpa using hck
  have HX:=Hd hck;clear hck hx HV HU d8;go_enter Tryz.func78,Tryz.ntmps78;go_wp2_with fail
  refine a9.o.mono ?_;rintro e w1 ⟨rfl,Z⟩;have J:=Hd Z;clear Z a9;go_wp2_with fail
  go_ret2;exact jd8.bad HB.o HX.o J.o
 rw[hck]at a9;have g9:=Hd (ja1 hck).len;have a3:=Hd hck;clear hck;go_enter Tryz.func78,Tryz.ntmps78;go_wp2_with fail
 refine a9.o.mono ?_;rintro e w1 ⟨rfl,Z⟩;have d9:=Hd Z;clear Z a9;go_wp2_with fail
 go_loopw [24] (fun i wr=>jwN w cs i wr) (fun i _=>cs.length - (intOf i).toNat)
 case atStart=>exact⟨0,by omega,rfl,d9.o,rfl⟩
 case round =>
  obtain⟨k,hk,rfl,Z,b6⟩:=hrel
  have J:=Hd Z;have a0:=Hd b6;clear Z b6
  by_cases hlt:k < cs.length
  ·rcases HU.o with⟨_,_,_,h0⟩ |⟨b,o,c1,hh,hb,hc,A⟩
   ·rw[h0]at hlt;cases hlt
   cases hh
   obtain⟨p,hp⟩:∃ p,cs[k]?=some p:=⟨_,bB hlt⟩
   obtain⟨q1,q2,q3⟩:=A k p hp
   have q1:=jaa q1 J.o;have q2:=jaa q2 J.o;have q3:=jaa q3 J.o;have c4:=d8.o p (bG hp);have b1:(k:Int) < (cs.length:Int):=vO
   have HP:=Hd hp
   obtain⟨ky,vl,gn⟩:=p
   simp only at q1 q2 q3 c4;clear A hp hb hc;have a4:=Hd (fun(h:Chg.bad ⟨ky,vl,gn⟩=true)=>(show jbL l cs=1 by
    unfold jbL;rw[if_neg (by rw[a3.o];simp),if_pos (jut HP.o h)]))
   have e0:=Hd (fun(h:Chg.bad ⟨ky,vl,gn⟩=false)=>(show (cs.take (k+1)).any Chg.bad=false by rw[jse HP.o,a0.o,h];rfl));have b3:=Hd (J.o.alloc (.cells #[.string ky,.string vl,.bool gn] 49));clear HP a0;go_wp2_with fail
   refine (jgl _ ky c4.1).mono ?_;rintro e w3 ⟨rfl,rfl⟩;clear q1 q2 q3;cases hky:jds ky with
   | false =>
    have HB:=Hd (a4.o (by unfold Chg.bad;simp[hky]));clear hky;go_wp2_with fail
    go_ret2;exact jd8.bad HB.o vI b3.o
   | true =>
    cases gn with
    | true =>
     by_cases hz:vl.size=0
     ·have:=ja5 hz
      subst this;have HG:=Hd (e0.o (by unfold Chg.bad;simp[hky];rfl));clear hky hz;go_wp2_with fail
      go_roundw
      case rel=>exact⟨k+1,by omega,by go_num,b3.o,HG.o⟩
      case measure=>exact vJ
     ·have f9:=jbq (s:=vl) vO
      have HB:=Hd (a4.o (by unfold Chg.bad;simp[hky,hz]));clear hky hz;go_wp2_with fail
      go_ret2;exact jd8.bad HB.o vI b3.o
    | false =>
     go_wp2_with fail
     refine (jfU _ vl c4.2).mono ?_;rintro e w3 ⟨rfl,rfl⟩;cases hvl:jcu vl with
     | true =>
      have HG:=Hd (e0.o (by unfold Chg.bad;simp[hky,hvl]));clear hky hvl;go_wp2_with fail
      go_roundw
      case rel=>exact⟨k+1,by omega,by go_num,b3.o,HG.o⟩
      case measure=>exact vJ
     | false =>
      have HB:=Hd (a4.o (by unfold Chg.bad;simp[hky,hvl]));clear hky hvl;go_wp2_with fail
      go_ret2;exact jd8.bad HB.o vI b3.o
  ·have e4:k=cs.length:=vO
   have HB:=Hd (show cs.any Chg.bad=false by have h:=a0.o;rwa [e4,cG]at h);clear e4 a0;have g0:=Tryz.makeMapSE wr;go_wp2_with fail
   obtain⟨bm,b8⟩:=vE wr.heap.size
   have e5:=Hd (show Blk (wr.alloc (.map #[] 0)) bm (.map #[] 0) by rw[b8];exact Blk.new wr _);have c5:w.heap.size<=bm:=by rw[b8];exact J.o.size
   have e6:=Hd (J.o.alloc (.map #[] 0));rw[<-b8];clear g0 b8;go_loopw [56] (fun i w2=>jwO w bm l i w2) (fun i _=>l.length - (intOf i).toNat)
   case atStart=>exact⟨0,by omega,rfl,e6.o,[],0,e5.o,MapR.nil 0⟩
   case round =>
    clear J e6 e5 d9
    obtain⟨j,hj,rfl,Z,es,ck,hM,hR⟩:=hrel
    have J:=Hd Z;have HR:=Hd hR
    by_cases hlt2:j < l.length
    ·rcases HV.o with⟨_,_,_,h0⟩ |⟨b,o,c1,hh,hb,hc,A⟩
     ·rw[h0]at hlt2;cases hlt2
     cases hh
     obtain⟨p,hp⟩:∃ p,l[j]?=some p:=⟨_,bB hlt2⟩
     obtain⟨q1,q2⟩:=A j p hp
     have q1:=jaa q1 J.o;have q2:=jaa q2 J.o;have b1:(j:Int) < (l.length:Int):=vO
     have HP:=Hd hp
     obtain⟨x,y⟩:=p
     simp only at q1 q2;have X:=hM.alloc (.cells #[.string x,.string y] 52)
     obtain⟨es2,H⟩:=vE (jba es x.data.toList (Pair.V (x,y)) ck)
     obtain⟨K,O⟩:=vE (if (jay es x.data.toList).isSome then ck else ck+1)
     have g2:(Instr.mapUpdate 233 (.map (some bm)) (.string x) (.agg #[.string x,.string y])).run Tryz.prog (wr.alloc (.cells #[.string x,.string y] 52))=.ok () ((wr.alloc (.cells #[.string x,.string y] 52)).putObj bm (.map (Tryz.ES.arr es2) K)):=by
      have:=jbj Tryz.ES Tryz.uMapSE X x.data.toList (Pair.V (x,y))
      rw[<-H, <-O]at this;exact this
     have a1:=Hd (show MapR es2 K ((l.take (j+1)).foldl putM []) by
      rw[bX,HP.o,dX,H,O];exact HR.o.put (x,y))
     have b4:=Hd (X.put_same (.map (Tryz.ES.arr es2) K));have b5:=Hd ((J.o.alloc (.cells #[.string x,.string y] 52)).putObj (.inr c5) (.map (Tryz.ES.arr es2) K));clear A hp hb hc hM hR X H O Z HR J;go_wp2_with fail
     go_roundw
     case rel=>exact⟨j+1,by omega,by go_num,b5.o,es2,K,b4.o,a1.o⟩
     case measure=>exact vJ
    ·have e7:j=l.length:=vO
     have a1:=Hd (show MapR es ck (l.foldl putM []) by have h:=HR.o;rwa [e7,cG]at h);have e8:=Hd hM;have e9:=Hd Z;clear e7 hM hR Z HR J;go_wp2_with fail
     go_loopw [67] (fun i w2=>jwP w bm l cs i w2) (fun i _=>cs.length - (intOf i).toNat)
     case atStart=>exact⟨0,by omega,rfl,e9.o,es,ck,e8.o,a1.o⟩
     case round =>
      clear e9 e8 a1
      obtain⟨q,hq,rfl,Z,es,ck,hM,hR⟩:=hrel
      have J:=Hd Z;have HR:=Hd hR
      by_cases hlt3:q < cs.length
      ·rcases HU.o with⟨_,_,_,h0⟩ |⟨b,o,c1,hh,hb,hc,A⟩
       ·rw[h0]at hlt3;cases hlt3
       cases hh
       obtain⟨p,hp⟩:∃ p,cs[q]?=some p:=⟨_,bB hlt3⟩
       obtain⟨q1,q2,q3⟩:=A q p hp
       have q1:=jaa q1 J.o;have q2:=jaa q2 J.o;have q3:=jaa q3 J.o;have b1:(q:Int) < (cs.length:Int):=vO
       have HP:=Hd hp
       obtain⟨x,y,gn⟩:=p
       simp only at q1 q2 q3;have X:=hM.alloc (.cells #[.string x,.string y,.bool gn] 49);have b0:(cs.take (q+1)).foldl doM (l.foldl putM [])=doM ((cs.take q).foldl doM (l.foldl putM [])) ⟨x,y,gn⟩:=by
        rw[bX,HP.o,dX];rfl
       have b2:=Hd b0;cases gn with
       | true =>
        obtain⟨es2,H⟩:=vE (jbS es x.data.toList)
        have h4:(Builtin.delete_ #[233,9] 0 #[.map (some bm),.string x]).run Tryz.prog (wr.alloc (.cells #[.string x,.string y,.bool true] 49))=.ok (.tuple #[]) ((wr.alloc (.cells #[.string x,.string y,.bool true] 49)).putObj bm (.map (Tryz.ES.arr es2) ck)):=by
         have:=jgu Tryz.ES Tryz.uMapSE X x.data.toList 9 0
         rw[<-H]at this;exact this
        have a1:=Hd (show MapR es2 ck ((cs.take (q+1)).foldl doM (l.foldl putM [])) by
         rw[b2.o,H];exact HR.o.del x)
        have b4:=Hd (X.put_same (.map (Tryz.ES.arr es2) ck));have b5:=Hd ((J.o.alloc (.cells #[.string x,.string y,.bool true] 49)).putObj (.inr c5) (.map (Tryz.ES.arr es2) ck));clear A hp hb hc hM hR X H Z HR J b0 b2;go_wp2_with fail
        go_roundw
        case rel=>exact⟨q+1,by omega,by go_num,b5.o,es2,ck,b4.o,a1.o⟩
        case measure=>exact vJ
       | false =>
        obtain⟨es2,H⟩:=vE (jba es x.data.toList (Pair.V (x,y)) ck)
        obtain⟨K,O⟩:=vE (if (jay es x.data.toList).isSome then ck else ck+1)
        have g2:(Instr.mapUpdate 233 (.map (some bm)) (.string x) (.agg #[.string x,.string y])).run Tryz.prog (wr.alloc (.cells #[.string x,.string y,.bool false] 49))=.ok () ((wr.alloc (.cells #[.string x,.string y,.bool false] 49)).putObj bm (.map (Tryz.ES.arr es2) K)):=by
         have:=jbj Tryz.ES Tryz.uMapSE X x.data.toList (Pair.V (x,y))
         rw[<-H, <-O]at this;exact this
        have a1:=Hd (show MapR es2 K ((cs.take (q+1)).foldl doM (l.foldl putM [])) by
         rw[b2.o,H,O];exact HR.o.put (x,y))
        have b4:=Hd (X.put_same (.map (Tryz.ES.arr es2) K));have b5:=Hd ((J.o.alloc (.cells #[.string x,.string y,.bool false] 49)).putObj (.inr c5) (.map (Tryz.ES.arr es2) K));clear A hp hb hc hM hR X H O Z HR J b0 b2;go_wp2_with fail
        go_roundw
        case rel=>exact⟨q+1,by omega,by go_num,b5.o,es2,K,b4.o,a1.o⟩
        case measure=>exact vJ
      ·have f0:q=cs.length:=vO
       obtain⟨M,c9⟩:=vE (jca l cs)
       have a2:=Hd (show MapR es ck M by have h:=HR.o;rw[f0,cG]at h;rw[c9];exact h);have d0:=Hd c9;have f1:=jfl Tryz.ES Tryz.uMapSE hM;rw[a2.o.len]at f1;have f2:=Hd hM;have d1:=Hd Z;clear f0 hM hR Z HR J c9
       by_cases h40:40 < M.length
       ·have g3:(40:Int) < (M.length:Int):=vO
        have d2:=Hd (show jbL l cs=12 by unfold jbL;rw[if_neg (by rw[a3.o];simp),HB.o, <-d0.o];simp[h40]);clear h40;go_wp2_with fail
        go_ret2;exact jd8.bad d2.o vI d1.o
       ·have g3:¬(40:Int) < (M.length:Int):=vO
        have d2:=Hd (show jbL l cs=0 by unfold jbL;rw[if_neg (by rw[a3.o];simp),HB.o, <-d0.o];simp[h40]);have h3:M.length<=40:=vO
        clear h40;go_wp2_with fail
        refine (jqK wr bm).mono ?_;rintro e w4 ⟨rfl,f3,d3⟩;have f4:=Hd f3;have a5:=Hd (f2.o.keeps d3 (fun h=>h));have f5:=Hd (d1.o.trans d3);clear f3 d3 f1;go_wp2_with fail
        refine (jue w4 wr.heap.size bm ck es ⟨f4.o,a5.o⟩ a2.o.born a2.o.keys a2.o.lt (by have:=a2.o.len;omega)).mono ?_;rintro e w5 ⟨u,rfl,hS⟩;rw[a2.o.keysEq,a2.o.len]at hS
        obtain⟨KS,b9⟩:=vE (jdo (M.map Pair.k))
        rw[<-b9]at hS;have f6:KS.length=M.length:=by rw[b9,jfS,bS]
        have HK:=Hd b9;have g4:=Hd f6
        obtain⟨a6,c6,rfl⟩:=hS.sl
        have g5:=Hd hS.rd;have f7:=Hd (f5.o.trans hS.ext);have d7:=Hd (a5.o.keeps hS.ext (fun h=>h));have d4:=Hd (show (jbV M).length=M.length by unfold jbV;rw[bS,jfS,bS]);clear hS b9 f6 a5 f5 f4 d1 f2;go_wp2_with fail
        go_loopw [14,92] (fun v i wr=>jwQ w5 M v i wr) (fun _ i _=>M.length - (intOf i).toNat)
        case atStart=>exact⟨0,by omega,rfl,ORow.nil _ _ (ExtR w5)⟩
        case round =>
         obtain⟨t,ht,rfl,hR⟩:=hrel
         obtain⟨a7,c7,rfl⟩:=hR.sl
         have HR:=Hd hR;clear hR
         by_cases hlt4:t < M.length
         ·obtain⟨kk,c0⟩:∃ kk,KS[t]?=some kk:=⟨_,bB (by rw[g4.o];exact hlt4)⟩
          obtain⟨x,hx⟩:∃ x:vB,x=⟨kk.toArray⟩:=⟨_,rfl⟩
          obtain⟨y,hy⟩:=vE (valM M kk)
          obtain⟨_,_,hh,A⟩:=g5.o.slice
          obtain⟨b,o,g6,f8⟩:=A t x (by unfold baL;rw[bV,c0,hx];rfl)
          obtain⟨e1,e2,e3⟩:=dC hh
          subst e1;subst e3;subst g6;clear hh e2;have q1:=jaa f8 HR.o.ext;have b7:kk∈M.map Pair.k:=by
           have h1:=bG c0;rw[HK.o]at h1;exact (iE _ _).mem_iff.1 h1
          have h5:(Instr.lookup 233 (.map (some bm)) (.string x) false).run Tryz.prog wr=.ok (.agg #[.string x,.string y]) wr:=by
           have:=jbQ Tryz.ES Tryz.uMapSE (d7.o.keeps HR.o.ext (fun h=>h)) (Tryz.zeroE wr) kk false
           rw[a2.o.get b7, <-hx, <-hy]at this;rw[hx];rw[hx]at this;exact this
          have b0:(jbV M).take (t+1)=(jbV M).take t++[(x,y)]:=by
           rw[bX]
           have:(jbV M)[t]?=some (x,y):=by
            unfold jbV;rw[<-HK.o,bV,c0,hx,hy];rfl
           rw[this];rfl
          have b2:=Hd b0;have b1:(t:Int) < (M.length:Int):=vO
          clear A f8 b7 b0 c0 hx hy;go_wp2_with (at_builtin;refine ja0 Tryz.sEnts (HR.o.mono ((ExtR wr).alloc _)) (.tmp 96) (.tmp 100) rfl rfl rfl (jaN (Blk.new wr _)) (news:=[.string x,.string y]) (by intro u hu;simp at hu;rcases hu with rfl | rfl <;> rfl) rfl rfl ?c1 ?c2 (fun v' w' r1 r2 r3=>?_))
          case c1=>unfold maxLen;omega
          case c2=>omega
          have d5:ERow w5 w' v' (t+1) ((jbV M).take (t+1)):=by unfold ERow;rw[b2.o,jb0];exact r1
          obtain⟨a8,c8,rfl⟩:=d5.sl
          have g7:=Hd d5;clear r1 r2 r3 d5 HR;go_wp2_with fail
          go_roundw
          case rel=>exact⟨t+1,by omega,by go_num,g7.o⟩
          case measure=>exact vJ
         ·have c3:t=M.length:=vO
          have g8:=Hd (show ERow w wr (.slice a7 t c7) (jbV M).length (jbV M) by
           have h:=HR.o;rw[show (jbV M).take t=jbV M from by rw[c3, <-d4.o,cG]]at h;have h2:ERow w5 wr (.slice a7 t c7) (jbV M).length (jbV M):=by rw[d4.o, <-c3];exact h
           exact⟨by rw[d4.o, <-c3];exact⟨_,_,rfl⟩,h2.own,f7.o.trans h2.ext,fun b hb=>bE f7.o.size (h2.new b hb)⟩)
          clear c3 HR;go_wp2_with fail
          go_ret2;unfold jd8;rw[if_pos d2.o, <-d0.o]
          exact⟨_,rfl,g8.o⟩
def ju2(l:vL):Prop:=l.Pairwise fun p q=>Lt p.k q.k
theorem jkz{k:vN}:∀ {m:vL},k ∉ m.map Pair.k->look m k=none
 | [],_=>rfl
 | q :: r,h=>by
  simp only[bN,bZ,not_or]at h;rw[jew,if_neg h.1,jkz h.2]
theorem jmR:∀ (a b:vN),Lt a b\/a=b\/Lt b a
 | [],[]=>.inr (.inl rfl)
 | [],_ :: _=>.inl jqY
 | _ :: _,[]=>.inr (.inr jqY)
 | a :: x,b :: y=>by
  rcases Nat.lt_trichotomy a.toNat b.toNat with h | h | h
  ·exact .inl (jbi.2 (.inl (dS.2 h)))
  ·have e:=fV.1 h
   subst e;rcases jmR x y with h | h | h
   ·exact .inl (jbi.2 (.inr ⟨rfl,h⟩))
   ·exact .inr (.inl (by rw[h]))
   ·exact .inr (.inr (jbi.2 (.inr ⟨rfl,h⟩)))
  ·exact .inr (.inr (jbi.2 (.inl (dS.2 h))))
theorem jm2(h1:p.k=q.k)(h2:p.2=q.2):p=q:=by
 obtain⟨⟨⟨a⟩⟩,b⟩:=p
 obtain⟨⟨⟨c⟩⟩,d⟩:=q
 simp only[Pair.k]at h1 h2;subst h1;subst h2;rfl
theorem jrS(m:vL)(k:vN):valM m k=(look m k).getD ⟨#[]⟩:=rfl
theorem jkA{k:vN}:∀ {m:vL},k∈m.map Pair.k->∃ v,look m k=some v
 | [],h=>by cases h
 | q :: r,h=>by
  rw[jew]
  by_cases e:k=q.k
  ·exact⟨_,if_pos e⟩
  ·rw[if_neg e]
   rcases bZ.1 h with h | h
   ·exact absurd h e
   ·exact jkA h
theorem jmQ{k:vN}{v:vB}:∀ {m:vL},look m k=some v->∃ p∈m,p.k=k/\p.2=v
 | [],h=>by cases h
 | q :: r,h=>by
  rw[jew]at h
  by_cases e:k=q.k
  ·rw[if_pos e]at h
   exact⟨q,cJ,e.symm,bP h⟩
  ·rw[if_neg e]at h
   obtain⟨p,A,H⟩:=jmQ h
   exact⟨p,bW _ A,H⟩
theorem jmn(k:vB):∀ m:vL,(delM m k).map Pair.k=(m.map Pair.k).erase k.data.toList
 | []=>rfl
 | q :: r=>by
  rw[delM,bN,List.erase_cons]
  by_cases h:k.data.toList=q.k
  ·rw[if_pos h,if_pos (by simp[h])]
  ·rw[if_neg h,if_neg (by intro e;exact h (by simpa using (eq_of_beq e).symm)),bN,jmn k r]
theorem jkM(p:Pair):∀ m:vL,(putM m p).map Pair.k=if p.k∈m.map Pair.k then m.map Pair.k else m.map Pair.k++[p.k]
 | []=>rfl
 | q :: r=>by
  rw[putM]
  by_cases h:p.k=q.k
  ·rw[if_pos h,if_pos (by simp[h])];simp[h]
  ·rw[if_neg h,bN,jkM p r]
   by_cases h2:p.k∈r.map Pair.k
   ·rw[if_pos h2,if_pos (by rw[bN];exact bW _ h2)];rfl
   ·rw[if_neg h2,if_neg (by rw[bN,bZ];exact fun e=>e.elim h h2)];rfl
theorem jkN(p:Pair)(h:(m.map Pair.k).Nodup):((putM m p).map Pair.k).Nodup:=by
 rw[jkM];split
 ·exact h
 ·rename_i hn
  rw[dR]
  exact⟨h,by simp,fun a q b hb e=>by simp at hb;subst hb;subst e;exact hn q⟩
theorem jpV(k:vB)(h:(m.map Pair.k).Nodup):((delM m k).map Pair.k).Nodup:=by
 rw[jmn];exact h.erase _
theorem jsN(c:Chg)(h:(m.map Pair.k).Nodup):((doM m c).map Pair.k).Nodup:=by
 unfold doM;split
 ·exact jpV _ h
 ·exact jkN _ h
theorem jke:∀ (cs:List Chg) {m:vL},(m.map Pair.k).Nodup->((cs.foldl doM m).map Pair.k).Nodup
 | [],_,h=>h
 | c :: r,_,h=>jke r (jsN c h)
theorem jiN:∀ (l:vL) {m:vL},(m.map Pair.k).Nodup->((l.foldl putM m).map Pair.k).Nodup
 | [],_,h=>h
 | c :: r,_,h=>jiN r (jkN c h)
theorem jle(l:vL)(cs:List Chg):((jca l cs).map Pair.k).Nodup:=jke cs (jiN l (by simp))
theorem jqH:∀ (a b:vN),Lt a b↔a < b
 | a,[]=>⟨fun h=>absurd h (not_lt_nil _),fun h=>absurd h (List.not_lt_nil _)⟩
 | [],b :: y=>⟨fun _=>List.nil_lt_cons _ _,fun _=>jqY⟩
 | a :: x,b :: y=>by rw[jbi,List.cons_lt_cons_iff,jqH x y]
theorem joA(ks:List (vN))(k:vN):k∈jdo ks↔k∈ks:=(iE _ _).mem_iff
theorem jlP{ks:List (vN)}(h:ks.Nodup):(jdo ks).Pairwise Lt:=by
 have H:∀ a b c:vN,decide (a<=b)=true->decide (b<=c)=true->decide (a<=c)=true:=fun a b c q A=>by simp only[decide_eq_true_eq]at *;exact List.le_trans q A
 have to:∀ a b:vN,(decide (a<=b) || decide (b<=a))=true:=fun a b=>by simp only[Bool.or_eq_true,decide_eq_true_eq];exact List.le_total a b
 have q:(jdo ks).Pairwise (fun x y=>decide (x<=y)=true):=List.pairwise_mergeSort H to ks;have A:(jdo ks).Nodup:=(iE _ _).nodup_iff.2 h;refine (q.and A).imp fun {a b} h=>?_;have J:a<=b:=by simpa using h.1
 rcases jmR a b with e | e | e
 ·exact e
 ·exact absurd e h.2
 ·exact absurd ((jqH _ _).1 e) (List.not_lt.2 J)
theorem joz(m:vL):(jbV m).map Pair.k=jdo (m.map Pair.k):=by
 unfold jbV;rw[cW]
 conv=>rhs;rw[<-List.map_id (jdo (m.map Pair.k))]
 exact dF fun k _=>rfl
theorem jrG(m:vL):(jbV m).length=m.length:=by
 unfold jbV;rw[bS,jfS,bS]
theorem jlO(h:(m.map Pair.k).Nodup):ju2 (jbV m):=by
 have e:=jlP h;rw[<-joz,iG]at e;exact e
def okP(p:Pair):Prop:=jds p.1=true/\jcu p.2=true
theorem jlF{p x:Pair}:∀ {m:vL},x∈putM m p->x=p\/x∈m
 | [],h=>.inl (by simpa [putM]using h)
 | q :: r,h=>by
  rw[putM]at h;split at h
  ·rcases bZ.1 h with h | h
   ·exact .inl h
   ·exact .inr (bW _ h)
  ·rcases bZ.1 h with h | h
   ·exact .inr (h ▸ cJ)
   ·exact (jlF h).imp id (bW _)
theorem jml(k:vB):∀ m:vL,(delM m k).Sublist m
 | []=>List.Sublist.refl _
 | x :: r=>by
  unfold delM;split
  ·exact iM _ _
  ·exact (jml k r).cons_cons _
theorem jrj:∀ (l:vL) {m:vL},(∀ p∈l,okP p)->(∀ p∈m,okP p)->∀ p∈l.foldl putM m,okP p
 | [],_,_,h=>h
 | q :: r,m,h1,h2=>jrj r (fun p A=>h1 p (bW _ A)) fun p A=>(jlF A).elim (fun e=>e ▸ h1 q cJ) (h2 p)
theorem juz:∀ (cs:List Chg) {m:vL},cs.any Chg.bad=false->(∀ p∈m,okP p)->∀ p∈cs.foldl doM m,okP p
 | [],_,_,h=>h
 | c :: r,m,h1,h2=>by
  rw[List.any_cons,iQ]at h1;refine juz r h1.2 fun p e=>?_;unfold doM at e;have hb:=h1.1;unfold Chg.bad at hb;cases hg:c.gone with
  | true=>rw[if_pos hg]at e;exact h2 p ((jml _ _).subset e)
  | false =>
   rw[if_neg (by rw[hg];simp)]at e;rcases jlF e with rfl | e
   ·simp[hg]at hb;exact hb
   ·exact h2 p e
theorem jqJ(h:jbf l=0):∀ p∈l,okP p:=fun p e=>by
 obtain⟨q,A,H,J⟩:=(ja1 h).size p e
 exact⟨decide_eq_true ⟨q,A⟩,decide_eq_true ⟨H,J⟩⟩
theorem jo4(h:jbf l=0)(hc:cs.any Chg.bad=false):∀ p∈jca l cs,okP p:=
 juz cs hc (jrj l (jqJ h) (by simp))
theorem jtM(h1:∀ p∈l,okP p)(h2:ju2 l)(h3:l.length<=40):jbf l=0:=by
 unfold jbf;rw[if_neg,if_neg vO];intro h
 obtain⟨i,hi,hb⟩:=gY.1 h
 have hi:=fZ.1 hi;have g:∀ j (q:j < l.length),l.getD j (⟨#[]⟩,⟨#[]⟩)=l[j]:=fun j q=>by rw[bJ,bB q];rfl
 unfold badN at hb;rw[g i hi,(h1 _ (dW hi)).1,(h1 _ (dW hi)).2]at hb;simp only[Bool.not_true,Bool.or_self,Bool.false_or,cC,decide_eq_true_eq,gR]at hb;rw[g (i - 1) vO]at hb
 have:=gD.1 h2 (i - 1) i vO hi vO
 have e:=hb.2;unfold jdv at e;rw[bR,bR]at e;have A:Op.bytesLess (l[i - 1]).1.data.toList (l[i]).1.data.toList=true:=this;rw[A]at e;cases e
theorem jg8(h:jbL l cs=0):jbf l=0/\cs.any Chg.bad=false/\(jca l cs).length<=40:=by
 unfold jbL at h;split at h
 ·rename_i h1;exact absurd h h1
 rename_i h1
 split at h
 ·cases h
 rename_i h2
 split at h
 ·cases h
 rename_i h3
 exact⟨by simpa using h1,by simpa using h2,by omega⟩
theorem joU(h:∀ p∈m,okP p):∀ p∈jbV m,okP p:=fun p H=>by
 obtain⟨k,J,rfl⟩:=bD.1 H
 obtain⟨v,A⟩:=jkA ((joA _ _).1 J)
 obtain⟨q,K,O,X⟩:=jmQ A
 have:=h q K
 rw[jrS,A];have e:((⟨k.toArray⟩,(some v).getD ⟨#[]⟩):Pair)=q:=jm2 O.symm X.symm;rw[e];exact this
theorem je7(h:jbL l cs=0):jbf (jbV (jca l cs))=0:=by
 obtain⟨e,q,A⟩:=jg8 h
 exact jtM (joU (jo4 e q)) (jlO (jle l cs)) (by rw[jrG];exact A)
def jb5(xs:List Chg):List vV:=xs.flatMap fun c=>[.string c.key,.string c.value,.bool c.gone]
theorem jcl(xs:List Chg)(c:Chg):jb5 (xs++[c])=jb5 xs++[.string c.key,.string c.value,.bool c.gone]:=by simp[jb5]
theorem jf7(xs:List Chg):(jb5 xs).length=xs.length * 3:=by
 induction xs with
 | nil=>rfl
 | cons x r ih=>unfold jb5 at *;rw[dY,bI,ih];simp;omega
theorem Tryz.infoChg:(Tryz.prog.info? 49).map (fun i=>(i.zero,i.size,i.bytes))=some (some (.agg #[.string ⟨#[]⟩,.string ⟨#[]⟩,.bool false]),3,40):=vY
theorem Tryz.uChgs:Tryz.prog.underlying 41=some (.slice 49):=vY
theorem Tryz.sChgs:jcw Tryz.prog 41 49 3 40:=jcw.mk' Tryz.uChgs Tryz.infoChg rfl vI
abbrev CRow(w0 w:vW)(v:vV)(n:Nat)(xs:List Chg):Prop:=ORow 49 3 w0 w v n (jb5 xs)
def ja8:vL->vL->List Chg
 | [],[]=>[]
 | p :: l,[]=>⟨p.1,⟨#[]⟩,true⟩ :: ja8 l []
 | [],q :: m=>⟨q.1,q.2,false⟩ :: ja8 [] m
 | p :: l,q :: m =>
  if jdv p.1 q.1=true then ⟨p.1,⟨#[]⟩,true⟩ :: ja8 l (q :: m)
  else if jdv q.1 p.1=true then ⟨q.1,q.2,false⟩ :: ja8 (p :: l) m
  else if (p.2.toList == q.2.toList)=true then ja8 l m else ⟨q.1,q.2,false⟩ :: ja8 l m
termination_by l m=>l.length+m.length
def jdd(l m:vL):List Chg:=if jbf l=0/\jbf m=0 then ja8 l m else []
theorem jcB{α:Type}{l:List α}{x:α}(h:l[i]?=some x):l.drop i=x :: l.drop (i+1):=by
 obtain⟨q,e⟩:=bH.1 h
 rw[<-e];exact gF q
structure DfR(w:World)(l m:vL)(c:Value)(i j:Nat)(wr:World)(n:Nat)(acc:List Chg):Prop where
 hi:i<=l.length
 hj:j<=m.length
 hn:n<=i+j
 row:CRow w wr c n acc
 eq:acc++ja8 (l.drop i) (m.drop j)=ja8 l m
def jyR(w:vW)(l m:vL)(c vi vj:vV)(wr:vW):Prop:=∃ i j n acc,vi=.int .i64 (i:Nat)/\vj=.int .i64 (j:Nat)/\DfR w l m c i j wr n acc
theorem jxH(hi:i=l.length)(hj:j=m.length):ja8 (l.drop i) (m.drop j)=[]:=by
 subst hi;subst hj;rw[fS,fS];simp[ja8]
theorem jsK(hp:l[i]?=some p)(hj:j=m.length):ja8 (l.drop i) (m.drop j)=⟨p.1,⟨#[]⟩,true⟩ :: ja8 (l.drop (i+1)) (m.drop j):=by
 subst hj;rw[fS,jcB hp];simp[ja8]
theorem jvt(hq:m[j]?=some q)(hi:i=l.length):ja8 (l.drop i) (m.drop j)=⟨q.1,q.2,false⟩ :: ja8 (l.drop i) (m.drop (j+1)):=by
 subst hi;rw[fS,jcB hq];simp[ja8]
theorem jsL(hp:l[i]?=some p)(hq:m[j]?=some q)(h:jdv p.1 q.1=true):ja8 (l.drop i) (m.drop j)=⟨p.1,⟨#[]⟩,true⟩ :: ja8 (l.drop (i+1)) (m.drop j):=by
 rw[jcB hp,jcB hq,ja8,if_pos h]
theorem jvu(hp:l[i]?=some p)(hq:m[j]?=some q)(h:jdv p.1 q.1=false)(h2:jdv q.1 p.1=true):ja8 (l.drop i) (m.drop j)=⟨q.1,q.2,false⟩ :: ja8 (l.drop i) (m.drop (j+1)):=by
 rw[jcB hp,jcB hq,ja8,if_neg (by rw[h];simp),if_pos h2]
theorem jvv(hp:l[i]?=some p)(hq:m[j]?=some q)(h:jdv p.1 q.1=false)(h2:jdv q.1 p.1=false)(h3:(p.2.toList == q.2.toList)=true):ja8 (l.drop i) (m.drop j)=ja8 (l.drop (i+1)) (m.drop (j+1)):=by
 rw[jcB hp,jcB hq,ja8,if_neg (by rw[h];simp),if_neg (by rw[h2];simp),if_pos h3]
theorem jsM(hp:l[i]?=some p)(hq:m[j]?=some q)(h:jdv p.1 q.1=false)(h2:jdv q.1 p.1=false)(h3:(p.2.toList == q.2.toList)=false):ja8 (l.drop i) (m.drop j)=⟨q.1,q.2,false⟩ :: ja8 (l.drop (i+1)) (m.drop (j+1)):=by
 rw[jcB hp,jcB hq,ja8,if_neg (by rw[h];simp),if_neg (by rw[h2];simp),if_neg (by rw[h3];simp)]
theorem juy(w:vW)(v u:vV)(l m:vL)(hv:RdP w v l)(hu:RdP w u m)(hn1:l.length<=9223372036854775807)(hn2:m.length<=9223372036854775807)(hs1:∀ p∈l,p.1.size<=9223372036854775807/\p.2.size<=9223372036854775807)(hs2:∀ p∈m,p.1.size<=9223372036854775807/\p.2.size<=9223372036854775807) :
  vQ 80 #[v,u] w fun e w'=>∃ u,e=.returned u/\CRow w w' u (jdd l m).length (jdd l m):=by
 have a7:=Hd (jhe w v l hv hn1 hs1);have b6:=Hd (fun w1 (h1:Ext w w1)=>jhe w1 u m (hu.ext h1) hn2 hs2);have HV:=Hd hv;have HU:=Hd hu
 obtain⟨a,c,rfl⟩:=hv.sl
 obtain⟨a',c',e2⟩:=hu.sl
 subst e2;clear hv hu hs1 hs2
 by_cases hck:jbf l=0
 case neg =>
  have HD:=Hd (show jdd l m=[] by unfold jdd;rw[if_neg (fun h=>hck h.1)]);rw[HD.o]
  obtain⟨x,hx⟩:=vE (jbf l)
  rw[<-hx]at hck a7;have f0:(x == 0)=false:=by simpa using hck
  have e3:(x != 0)=true:=by simpa using hck
  clear hck hx HV HU b6 HD;go_enter Tryz.func80,Tryz.ntmps80;go_wp2_with fail
  refine a7.o.mono ?_;rintro e w1 ⟨rfl,hE⟩;have HE:=Hd hE;clear hE a7;go_wp2_with fail
  go_ret
  exact⟨_,rfl,ORow.nil _ _ HE.o⟩
 by_cases hck2:jbf m=0
 case neg =>
  have HD:=Hd (show jdd l m=[] by unfold jdd;rw[if_neg (fun h=>hck2 h.2)]);rw[HD.o];rw[hck]at a7
  obtain⟨x,hx⟩:=vE (jbf m)
  rw[<-hx]at hck2 b6;have f0:(x == 0)=false:=by simpa using hck2
  have e3:(x != 0)=true:=by simpa using hck2
  clear hck hck2 hx HV HU HD;go_enter Tryz.func80,Tryz.ntmps80;go_wp2_with fail
  refine a7.o.mono ?_;rintro e w1 ⟨rfl,hE⟩;have HE:=Hd hE;clear hE a7;go_wp2_with fail
  refine vH (b6.o w1 HE.o) fun w2 hE=>?_;have d1:=Hd (HE.o.trans hE);clear b6 HE;go_wp2_with fail
  go_ret
  exact⟨_,rfl,ORow.nil _ _ d1.o⟩
 have f4:=(ja1 hck).len;have f5:=(ja1 hck2).len;have HD:=Hd (show jdd l m=ja8 l m by unfold jdd;rw[if_pos ⟨hck,hck2⟩]);rw[HD.o];rw[hck]at a7;rw[hck2]at b6;clear hck hck2 HD hn1 hn2
 obtain⟨R,hR⟩:=vE (ja8 l m)
 rw[<-hR];have e4:=Hd hR;clear hR;go_enter Tryz.func80,Tryz.ntmps80;go_wp2_with fail
 refine a7.o.mono ?_;rintro e w1 ⟨rfl,hE⟩;have HE:=Hd hE;clear hE a7;go_wp2_with fail
 refine vH (b6.o w1 HE.o) fun w2 hE=>?_;have d1:=Hd (HE.o.trans hE);clear b6 HE;go_wp2_with fail
 go_loopw [5,6,7] (fun v i j wr=>jyR w l m v i j wr) (fun _ i j _=>(l.length - (intOf i).toNat)+(m.length - (intOf j).toNat))
 case atStart=>exact⟨0,0,0,[],rfl,rfl,by omega,by omega,by omega,ORow.nil _ _ d1.o,by simp⟩
 case round =>
  obtain⟨i,j,n,X,rfl,rfl,f1⟩:=hrel
  obtain⟨hi,hj,hn,b9,e5⟩:=f1
  obtain⟨a2,c2,rfl⟩:=b9.sl
  have HR:=Hd b9;have O:=Hd e5;clear b9 e5 d1
  by_cases hjm:j < m.length
  ·by_cases hil:i < l.length
   ·obtain⟨q,hq⟩:∃ q,m[j]?=some q:=⟨_,bB hjm⟩
    rcases HU.o with⟨_,_,_,h0⟩ |⟨bm,om,cm,hh,hb,hc,hcell⟩
    ·rw[h0]at hjm;cases hjm
    cases hh
    obtain⟨d5,d6⟩:=hcell j q hq
    have a5:=Hd (jaa d5 HR.o.ext);have b3:=Hd (jaa d6 HR.o.ext);have NB:Hid (¬(Value.slice a2 n c2).ownBlock=some bm):=(fun e=>by have:=HR.o.new bm e;omega);have HQ:=Hd hq;have b2:(j:Int) < (m.length:Int):=vO
    obtain⟨y1,y2⟩:=q
    simp only at a5 b3;clear hcell hb hc hq
    obtain⟨p,hp⟩:∃ p,l[i]?=some p:=⟨_,bB hil⟩
    rcases HV.o with⟨_,_,_,h0⟩ |⟨bl,ol,cl,hh,hb,hc,hcell⟩
    ·rw[h0]at hil;cases hil
    cases hh
    obtain⟨d7,d8⟩:=hcell i p hp
    have Z:=Hd (jaa d7 HR.o.ext);have b7:=Hd (jaa d8 HR.o.ext);have HP:=Hd hp;have b1:(i:Int) < (l.length:Int):=vO
    obtain⟨x1,x2⟩:=p
    simp only at Z b7;clear hcell hb hc hp;have eA:((j:Int) ==(m.length:Int))=false:=by simp;omega
    have eN:((i:Int) ==(l.length:Int))=false:=by simp;omega
    cases hls:jdv x1 y1 with
    | true =>
     have HN:=Hd (show X++[_]++ja8 _ _=ja8 l m from by rw[cE,gS, <-jsL HP.o HQ.o hls];exact O.o);unfold jdv at hls;clear O;go_wp2_with fail
     refine jaj [0,1,2,3,4,5,6,7,8,9,10,11,12,13,14,15,16,17,18,19,20,21,22,23] Ext ExtR ExtT vY vY vY ?_;iterate 14 refine vK ?_
     refine qKL ⟨bl,ol+i * 2,none⟩ (.string x1) rfl (fun w3 H=>jab Tryz.uStr rfl (jaa (by exact Z.o) ((jak _).trans H))) ?_;refine vS ?_;iterate 4 refine vK ?_
     refine qKL ⟨bm,om+j * 2,none⟩ (.string y1) rfl (fun w3 H=>jab Tryz.uStr rfl (jaa (by exact a5.o) ((jak _).trans H))) ?_;refine vS ?_;iterate 4 refine vK ?_
     refine qKE (fun w5 A=>?_);have a1:=Hd (HR.o.mono ((jak _).trans A));have f2:=jaa Z.o ((jak _).trans A);clear A HR Z b7 a5 b3;go_wp2_with (at_builtin;refine ja0 Tryz.sChgs (a1.o.mono ((ExtR _).alloc _)) (.tmp 79) (.tmp 86) rfl rfl rfl (jaN (Blk.new _ _)) (news:=[.string x1,.string ⟨#[]⟩,.bool true]) (by intro u hu;simp at hu;rcases hu with rfl | rfl | rfl <;> rfl) rfl rfl ?c1 ?c2 (fun v' w' r1 r2 r3=>?_))
     case c1=>unfold maxLen;omega
     case c2=>omega
     have J:CRow w w' v' (n+1) (X++[⟨x1,⟨#[]⟩,true⟩]):=by unfold CRow;rw[jcl];exact r1
     obtain⟨a8,c8,rfl⟩:=J.sl
     have d9:=Hd J;clear r1 r2 r3 J;go_wp2_with fail
     go_roundw
     case rel=>exact⟨i+1,j,n+1,_,by go_num,rfl,by omega,hj,by omega,d9.o,HN.o⟩
     case measure=>exact vJ
    | false =>
     have e0:=Hd hls;unfold jdv at hls;go_wp2_with fail
     refine jaj [0,1,2,3,4,5,6,7,8,9,10,11,12,13,14,15,16,17,18,19,20,21,22,23] Ext ExtR ExtT vY vY vY ?_;iterate 14 refine vK ?_
     refine qKL ⟨bl,ol+i * 2,none⟩ (.string x1) rfl (fun w3 H=>jab Tryz.uStr rfl (jaa (by exact Z.o) ((jak _).trans H))) ?_;refine vS ?_;iterate 4 refine vK ?_
     refine qKL ⟨bm,om+j * 2,none⟩ (.string y1) rfl (fun w3 H=>jab Tryz.uStr rfl (jaa (by exact a5.o) ((jak _).trans H))) ?_;refine vS ?_;iterate 4 refine vK ?_
     refine qKE (fun w5 A=>?_);have b8:=Hd (HR.o.mono ((jak _).trans A));have a9:=Hd (jaa Z.o ((jak _).trans A));have c0:=Hd (jaa b7.o ((jak _).trans A));have a0:=Hd (jaa a5.o ((jak _).trans A));have b0:=Hd (jaa b3.o ((jak _).trans A));clear A HR Z b7 a5 b3 hls;cases hlt2:jdv y1 x1 with
     | true =>
      have HN:=Hd (show X++[_]++ja8 _ _=ja8 l m from by rw[cE,gS, <-jvu HP.o HQ.o e0.o hlt2];exact O.o);unfold jdv at hlt2;clear O;go_wp2_with fail
      refine jaj [0,1,2,3,4,5,6,7,8,9,10,11,12,13,14,15,16,17] Ext ExtR ExtT vY vY vY ?_;iterate 9 refine vK ?_
      refine qKL ⟨bm,om+j * 2,none⟩ (.string y1) rfl (fun w3 H=>jab Tryz.uStr rfl (jaa (by exact a0.o) ((jak _).trans H))) ?_;refine vS ?_;iterate 4 refine vK ?_
      refine qKL ⟨bl,ol+i * 2,none⟩ (.string x1) rfl (fun w3 H=>jab Tryz.uStr rfl (jaa (by exact a9.o) ((jak _).trans H))) ?_;refine vS ?_;iterate 3 refine vK ?_
      refine qKE (fun w5 A=>?_);have a1:=Hd (b8.o.mono ((jak _).trans A));have c3:=Hd (jaa a0.o ((jak _).trans A));have c5:=Hd (jaa b0.o ((jak _).trans A));clear A b8 a9 c0 a0 b0 hlt2;go_wp2_with fail
      refine jau [0,1,2,3,4,5,6,7,8,9,10,11,12,13,14] [12,13] Ext (jac (fun b=>(Value.slice a2 n c2).ownBlock=some b)) ExtR ExtT (fun x y z h k=>jac.trans h k) (fun x y h=>h.mono (fun _ _ h=>h.elim)) vY vY vY ?_;iterate 5 refine vD ?_
      refine qDL ⟨bm,om+j * 2,none⟩ (.string y1) rfl (fun w3 H=>jab Tryz.uStr rfl (jai (by exact c3.o) H NB.o)) ?_;refine vS ?_;iterate 4 refine vD ?_
      refine qDL ⟨bm,om+j * 2+1,none⟩ (.string y2) rfl (fun w3 H=>jab Tryz.uStr rfl (jai (by exact c5.o) H NB.o)) ?_;refine vS ?_
      refine vD ?_
      refine qDH _ rfl (fun w6 A K hK=>?_);have b4:=Hd (a1.o.mono ((jak _).trans A));clear A;go_simp;refine hK _ _ ((jac.refl _ w6).alloc _) ?_;clear hK K;refine qDH _ rfl (fun w7 A K hK=>?_);have b5:=Hd (b4.o.mono (((ExtR w6).alloc _).trans A));have hB:∀ k u,([.string y1,.string y2,.bool false]:List vV)[k]?=some u->w7.cell? ((⟨w6.heap.size,0,none⟩:Addr).add k)=some u:=fun k u hk=>jaa (jaN (Blk.new w6 (.cells [Value.string y1,.string y2,.bool false].toArray 49)) k u hk) A;refine jgI Tryz.sChgs b5.o (.tmp 108) (.tmp 120) rfl rfl hB (by intro u hu;simp at hu;rcases hu with rfl | rfl | rfl <;> rfl) rfl rfl (by unfold maxLen;omega) vO (fun v' w8 r1 r2 r3=>hK _ _ r2 ?_);have J:CRow w w8 v' (n+1) (X++[⟨y1,y2,false⟩]):=by unfold CRow;rw[jcl];exact r1
      have a3:=Hd J;clear hK K A r1 r2 r3 J hB b4 b5
      obtain⟨a4,c4,rfl⟩:=a3.o.sl
      refine vS ?_
      refine vD ?_
      refine qDE (fun w9 A=>?_);have c7:=Hd (a3.o.mono A);clear A a3;go_wp2_with fail
      go_roundw
      case rel=>exact⟨i,j+1,n+1,_,rfl,by go_num,by omega,by omega,by omega,c7.o,HN.o⟩
      case measure=>exact vJ
     | false =>
      have e6:=Hd hlt2;unfold jdv at hlt2;go_wp2_with fail
      refine jaj [0,1,2,3,4,5,6,7,8,9,10,11,12,13,14,15,16,17] Ext ExtR ExtT vY vY vY ?_;iterate 9 refine vK ?_
      refine qKL ⟨bm,om+j * 2,none⟩ (.string y1) rfl (fun w3 H=>jab Tryz.uStr rfl (jaa (by exact a0.o) ((jak _).trans H))) ?_;refine vS ?_;iterate 4 refine vK ?_
      refine qKL ⟨bl,ol+i * 2,none⟩ (.string x1) rfl (fun w3 H=>jab Tryz.uStr rfl (jaa (by exact a9.o) ((jak _).trans H))) ?_;refine vS ?_;iterate 3 refine vK ?_
      refine qKE (fun w5 A=>?_);have d2:=Hd (b8.o.mono ((jak _).trans A));have d3:=Hd (jaa c0.o ((jak _).trans A));have e1:=Hd (jaa a0.o ((jak _).trans A));have c9:=Hd (jaa b0.o ((jak _).trans A));clear A b8 a9 c0 a0 b0 hlt2;cases hvv:(x2.toList == y2.toList)with
      | true =>
       have HN:=Hd (show X++ja8 _ _=ja8 l m from by rw[<-jvv HP.o HQ.o e0.o e6.o hvv];exact O.o);clear O;go_wp2_with fail
       refine jaj [0,1,2,3,4,5,6,7,8,9,10] Ext ExtR ExtT vY vY vY ?_;iterate 4 refine vK ?_
       refine qKL ⟨bl,ol+i * 2+1,none⟩ (.string x2) rfl (fun w3 H=>jab Tryz.uStr rfl (jaa (by exact d3.o) ((jak _).trans H))) ?_;refine vS ?_;iterate 4 refine vK ?_
       refine qKL ⟨bm,om+j * 2+1,none⟩ (.string y2) rfl (fun w3 H=>jab Tryz.uStr rfl (jaa (by exact c9.o) ((jak _).trans H))) ?_;refine vS ?_
       refine vK ?_
       refine qKE (fun w5 A=>?_);have a1:=Hd (d2.o.mono ((jak _).trans A));clear A d2 d3 e1 c9;go_wp2_with fail
       go_roundw
       case rel=>exact⟨i+1,j+1,n,X,by go_num,by go_num,by omega,by omega,by omega,a1.o,HN.o⟩
       case measure=>exact vJ
      | false =>
       have HN:=Hd (show X++[_]++ja8 _ _=ja8 l m from by rw[cE,gS, <-jsM HP.o HQ.o e0.o e6.o hvv];exact O.o);clear O;go_wp2_with fail
       refine jaj [0,1,2,3,4,5,6,7,8,9,10] Ext ExtR ExtT vY vY vY ?_;iterate 4 refine vK ?_
       refine qKL ⟨bl,ol+i * 2+1,none⟩ (.string x2) rfl (fun w3 H=>jab Tryz.uStr rfl (jaa (by exact d3.o) ((jak _).trans H))) ?_;refine vS ?_;iterate 4 refine vK ?_
       refine qKL ⟨bm,om+j * 2+1,none⟩ (.string y2) rfl (fun w3 H=>jab Tryz.uStr rfl (jaa (by exact c9.o) ((jak _).trans H))) ?_;refine vS ?_
       refine vK ?_
       refine qKE (fun w5 A=>?_);have a1:=Hd (d2.o.mono ((jak _).trans A));have c3:=Hd (jaa e1.o ((jak _).trans A));have c5:=Hd (jaa c9.o ((jak _).trans A));clear A d2 d3 e1 c9;go_wp2_with fail
       refine jau [0,1,2,3,4,5,6,7,8,9,10,11,12,13,14] [12,13] Ext (jac (fun b=>(Value.slice a2 n c2).ownBlock=some b)) ExtR ExtT (fun x y z h k=>jac.trans h k) (fun x y h=>h.mono (fun _ _ h=>h.elim)) vY vY vY ?_;iterate 5 refine vD ?_
       refine qDL ⟨bm,om+j * 2,none⟩ (.string y1) rfl (fun w3 H=>jab Tryz.uStr rfl (jai (by exact c3.o) H NB.o)) ?_;refine vS ?_;iterate 4 refine vD ?_
       refine qDL ⟨bm,om+j * 2+1,none⟩ (.string y2) rfl (fun w3 H=>jab Tryz.uStr rfl (jai (by exact c5.o) H NB.o)) ?_;refine vS ?_
       refine vD ?_
       refine qDH _ rfl (fun w6 A K hK=>?_);have b4:=Hd (a1.o.mono ((jak _).trans A));clear A;go_simp;refine hK _ _ ((jac.refl _ w6).alloc _) ?_;clear hK K;refine qDH _ rfl (fun w7 A K hK=>?_);have b5:=Hd (b4.o.mono (((ExtR w6).alloc _).trans A));have hB:∀ k u,([.string y1,.string y2,.bool false]:List vV)[k]?=some u->w7.cell? ((⟨w6.heap.size,0,none⟩:Addr).add k)=some u:=fun k u hk=>jaa (jaN (Blk.new w6 (.cells [Value.string y1,.string y2,.bool false].toArray 49)) k u hk) A;refine jgI Tryz.sChgs b5.o (.tmp 37) (.tmp 49) rfl rfl hB (by intro u hu;simp at hu;rcases hu with rfl | rfl | rfl <;> rfl) rfl rfl (by unfold maxLen;omega) vO (fun v' w8 r1 r2 r3=>hK _ _ r2 ?_);have J:CRow w w8 v' (n+1) (X++[⟨y1,y2,false⟩]):=by unfold CRow;rw[jcl];exact r1
       have a3:=Hd J;clear hK K A r1 r2 r3 J hB b4 b5
       obtain⟨a4,c4,rfl⟩:=a3.o.sl
       refine vS ?_
       refine vD ?_
       refine qDE (fun w9 A=>?_);have c7:=Hd (a3.o.mono A);clear A a3;go_wp2_with fail
       go_roundw
       case rel=>exact⟨i+1,j+1,n+1,_,by go_num,by go_num,by omega,by omega,by omega,c7.o,HN.o⟩
       case measure=>exact vJ
   ·obtain⟨q,hq⟩:∃ q,m[j]?=some q:=⟨_,bB hjm⟩
    rcases HU.o with⟨_,_,_,h0⟩ |⟨bm,om,cm,hh,hb,hc,hcell⟩
    ·rw[h0]at hjm;cases hjm
    cases hh
    obtain⟨d5,d6⟩:=hcell j q hq
    have a5:=Hd (jaa d5 HR.o.ext);have b3:=Hd (jaa d6 HR.o.ext);have NB:Hid (¬(Value.slice a2 n c2).ownBlock=some bm):=(fun e=>by have:=HR.o.new bm e;omega);have HQ:=Hd hq;have b2:(j:Int) < (m.length:Int):=vO
    obtain⟨y1,y2⟩:=q
    simp only at a5 b3;clear hcell hb hc hq;have d0:i=l.length:=vO
    have b1:¬(i:Int) < (l.length:Int):=vO
    have eA:((j:Int) ==(m.length:Int))=false:=by simp;omega
    have eN:((i:Int) ==(l.length:Int))=true:=by simp;omega
    have HN:=Hd (show X++[_]++ja8 _ _=ja8 l m from by rw[cE,gS, <-jvt HQ.o d0];exact O.o);clear d0 O;go_wp2_with fail
    refine jaj [0,1,2,3,4,5,6,7,8,9,10,11,12,13,14,15,16,17,18,19,20,21,22,23] Ext ExtR ExtT vY vY vY ?_;iterate 10 refine vK ?_
    iterate 11 (refine jbN _ rfl vY rfl ?_;refine vS ?_)
    iterate 3 refine vK ?_
    refine qKE (fun w5 A=>?_);have b8:=Hd (HR.o.mono ((jak _).trans A));have e7:=Hd (jaa a5.o ((jak _).trans A));have e8:=Hd (jaa b3.o ((jak _).trans A));clear A HR a5 b3;go_wp2_with fail
    refine jaj [0,1,2,3,4,5,6,7,8,9,10,11,12,13,14,15,16,17] Ext ExtR ExtT vY vY vY ?_;iterate 5 refine vK ?_
    iterate 11 (refine jbN _ rfl vY rfl ?_;refine vS ?_)
    iterate 2 refine vK ?_
    refine qKE (fun w5 A=>?_);have a1:=Hd (b8.o.mono ((jak _).trans A));have c3:=Hd (jaa e7.o ((jak _).trans A));have c5:=Hd (jaa e8.o ((jak _).trans A));clear A b8 e7 e8;go_wp2_with fail
    refine jau [0,1,2,3,4,5,6,7,8,9,10,11,12,13,14] [12,13] Ext (jac (fun b=>(Value.slice a2 n c2).ownBlock=some b)) ExtR ExtT (fun x y z h k=>jac.trans h k) (fun x y h=>h.mono (fun _ _ h=>h.elim)) vY vY vY ?_;iterate 5 refine vD ?_
    refine qDL ⟨bm,om+j * 2,none⟩ (.string y1) rfl (fun w3 H=>jab Tryz.uStr rfl (jai (by exact c3.o) H NB.o)) ?_;refine vS ?_;iterate 4 refine vD ?_
    refine qDL ⟨bm,om+j * 2+1,none⟩ (.string y2) rfl (fun w3 H=>jab Tryz.uStr rfl (jai (by exact c5.o) H NB.o)) ?_;refine vS ?_
    refine vD ?_
    refine qDH _ rfl (fun w6 A K hK=>?_);have b4:=Hd (a1.o.mono ((jak _).trans A));clear A;go_simp;refine hK _ _ ((jac.refl _ w6).alloc _) ?_;clear hK K;refine qDH _ rfl (fun w7 A K hK=>?_);have b5:=Hd (b4.o.mono (((ExtR w6).alloc _).trans A));have hB:∀ k u,([.string y1,.string y2,.bool false]:List vV)[k]?=some u->w7.cell? ((⟨w6.heap.size,0,none⟩:Addr).add k)=some u:=fun k u hk=>jaa (jaN (Blk.new w6 (.cells [Value.string y1,.string y2,.bool false].toArray 49)) k u hk) A;refine jgI Tryz.sChgs b5.o (.tmp 108) (.tmp 120) rfl rfl hB (by intro u hu;simp at hu;rcases hu with rfl | rfl | rfl <;> rfl) rfl rfl (by unfold maxLen;omega) vO (fun v' w8 r1 r2 r3=>hK _ _ r2 ?_);have J:CRow w w8 v' (n+1) (X++[⟨y1,y2,false⟩]):=by unfold CRow;rw[jcl];exact r1
    have a3:=Hd J;clear hK K A r1 r2 r3 J hB b4 b5
    obtain⟨a4,c4,rfl⟩:=a3.o.sl
    refine vS ?_
    refine vD ?_
    refine qDE (fun w9 A=>?_);have c7:=Hd (a3.o.mono A);clear A a3;go_wp2_with fail
    go_roundw
    case rel=>exact⟨i,j+1,n+1,_,rfl,by go_num,by omega,by omega,by omega,c7.o,HN.o⟩
    case measure=>exact vJ
  ·have d4:j=m.length:=vO
   by_cases hil:i < l.length
   ·obtain⟨p,hp⟩:∃ p,l[i]?=some p:=⟨_,bB hil⟩
    rcases HV.o with⟨_,_,_,h0⟩ |⟨bl,ol,cl,hh,hb,hc,hcell⟩
    ·rw[h0]at hil;cases hil
    cases hh
    obtain⟨d7,d8⟩:=hcell i p hp
    have Z:=Hd (jaa d7 HR.o.ext);have b7:=Hd (jaa d8 HR.o.ext);have HP:=Hd hp;have b1:(i:Int) < (l.length:Int):=vO
    obtain⟨x1,x2⟩:=p
    simp only at Z b7;clear hcell hb hc hp;have b2:¬(j:Int) < (m.length:Int):=vO
    have eA:((j:Int) ==(m.length:Int))=true:=by simp;omega
    have HN:=Hd (show X++[_]++ja8 _ _=ja8 l m from by rw[cE,gS, <-jsK HP.o d4];exact O.o);clear d4 O;go_wp2_with fail
    refine jaj [0,1,2,3,4,5,6,7,8,9,10,11,12,13,14,15,16,17,18,19,20,21,22,23] Ext ExtR ExtT vY vY vY ?_;iterate 5 refine vK ?_
    iterate 17 (refine jbN _ rfl vY rfl ?_;refine vS ?_)
    iterate 2 refine vK ?_
    refine qKE (fun w5 A=>?_);have a1:=Hd (HR.o.mono ((jak _).trans A));have f2:=jaa Z.o ((jak _).trans A);clear A HR Z b7;go_wp2_with (at_builtin;refine ja0 Tryz.sChgs (a1.o.mono ((ExtR _).alloc _)) (.tmp 79) (.tmp 86) rfl rfl rfl (jaN (Blk.new _ _)) (news:=[.string x1,.string ⟨#[]⟩,.bool true]) (by intro u hu;simp at hu;rcases hu with rfl | rfl | rfl <;> rfl) rfl rfl ?c1 ?c2 (fun v' w' r1 r2 r3=>?_))
    case c1=>unfold maxLen;omega
    case c2=>omega
    have J:CRow w w' v' (n+1) (X++[⟨x1,⟨#[]⟩,true⟩]):=by unfold CRow;rw[jcl];exact r1
    obtain⟨a8,c8,rfl⟩:=J.sl
    have d9:=Hd J;clear r1 r2 r3 J;go_wp2_with fail
    go_roundw
    case rel=>exact⟨i+1,j,n+1,_,by go_num,rfl,by omega,hj,by omega,d9.o,HN.o⟩
    case measure=>exact vJ
   ·have d0:i=l.length:=vO
    have HF:=Hd (show X=R by have h:=O.o;rw[jxH d0 d4,cA, <-e4.o]at h;exact h);have b1:¬(i:Int) < (l.length:Int):=vO
    have b2:¬(j:Int) < (m.length:Int):=vO
    have e9:n=R.length:=by
     have:=HR.o.len
     rw[HF.o]at this;rw[jf7]at this;omega
    have f3:=Hd e9;clear d0 d4 e9 O e4;go_wp2_with fail
    go_ret
    exact⟨_,rfl,by rw[<-f3.o, <-HF.o];exact HR.o⟩
abbrev Chg.k(c:Chg):vN:=c.key.data.toList
def Chg.o(c:Chg):Option vB:=if c.gone then none else some c.value
structure joM(l m:vL)(cs:List Chg):Prop where
 keys:(cs.map Chg.k).Nodup
 done:∀ c∈cs,look m c.k=c.o
 rest:∀ k,(∀ c∈cs,c.k≠k)->look l k=look m k
 fine:cs.any Chg.bad=false
def okL(l:vL):Prop:=(∀ p∈l,okP p)/\ju2 l
theorem okL.tail(h:okL (p :: l)):okL l:=⟨fun q e=>h.1 q (bW _ e),(List.pairwise_cons.1 h.2).2⟩
theorem okL.head(h:okL (p :: l)):okP p:=h.1 p cJ
theorem okL.lt(h:okL (p :: l)):∀ q∈l,Lt p.k q.k:=(List.pairwise_cons.1 h.2).1
theorem jnV(l m:vL):∀ c∈ja8 l m,c.k∈l.map Pair.k\/c.k∈m.map Pair.k:=by
 fun_induction ja8 l m with
 | case1=>intro c e;cases e
 | case2 p l ih =>
  intro c e;rcases bZ.1 e with rfl | e
  ·exact .inl (by simp[Chg.k,Pair.k])
  ·rcases ih c e with h | h
   ·exact .inl (bW _ h)
   ·exact .inr h
 | case3 q m ih =>
  intro c e;rcases bZ.1 e with rfl | e
  ·exact .inr (by simp[Chg.k,Pair.k])
  ·rcases ih c e with h | h
   ·exact .inl h
   ·exact .inr (bW _ h)
 | case4 p l q m h ih =>
  intro c e;rcases bZ.1 e with rfl | e
  ·exact .inl (by simp[Chg.k,Pair.k])
  ·rcases ih c e with h | h
   ·exact .inl (bW _ h)
   ·exact .inr h
 | case5 p l q m h h2 ih =>
  intro c e;rcases bZ.1 e with rfl | e
  ·exact .inr (by simp[Chg.k,Pair.k])
  ·rcases ih c e with h | h
   ·exact .inl h
   ·exact .inr (bW _ h)
 | case6 p l q m h h2 h3 ih =>
  intro c e;rcases ih c e with h | h
  ·exact .inl (bW _ h)
  ·exact .inr (bW _ h)
 | case7 p l q m h h2 h3 ih =>
  intro c e;rcases bZ.1 e with rfl | e
  ·exact .inr (by simp[Chg.k,Pair.k])
  ·rcases ih c e with h | h
   ·exact .inl (bW _ h)
   ·exact .inr (bW _ h)
theorem joh{k:vN}(h:∀ q∈m,Lt k q.k):look m k=none:=jkz fun A=>by
 obtain⟨q,H,e⟩:=bD.1 A
 exact lt_irrefl _ (e ▸ h q H)
theorem jgm{k:vN}(h1:∀ q∈l,Lt k q.k)(h2:∀ q∈m,Lt k q.k):∀ c∈ja8 l m,Lt k c.k:=fun c H=>by
 rcases jnV l m c H with h | h
 ·obtain⟨q,A,e⟩:=bD.1 h;rw[<-e];exact h1 q A
 ·obtain⟨q,A,e⟩:=bD.1 h;rw[<-e];exact h2 q A
theorem joM.cons(h:joM l m cs)(hk:∀ d∈cs,Lt c.k d.k)(hc:look m' c.k=c.o)(hb:c.bad=false)
  (hl:∀ k,k≠c.k->look l' k=look l k) (hm:∀ k,k≠c.k->look m' k=look m k):joM l' m' (c :: cs):=by
 refine⟨?_,?_,?_,?_⟩
 ·rw[bN,dP]
  refine⟨fun A=>?_,h.keys⟩
  obtain⟨d,q,e⟩:=bD.1 A
  exact lt_irrefl _ (e ▸ hk d q)
 ·intro d q
  rcases bZ.1 q with rfl | q
  ·exact hc
  ·rw[hm _ (fun e=>lt_irrefl _ (e ▸ hk d q)),h.done d q]
 ·intro k A
  have H:k≠c.k:=fun e=>A c cJ e.symm;rw[hl k H,hm k H,h.rest k fun d q=>A d (bW _ q)]
 ·rw[List.any_cons,hb,h.fine];rfl
theorem jqi(h:okP p):Chg.bad ⟨p.1,⟨#[]⟩,true⟩=false:=by
 unfold Chg.bad;rw[h.1];rfl
theorem jri(h:okP p):Chg.bad ⟨p.1,p.2,false⟩=false:=by
 unfold Chg.bad;rw[h.1,h.2];rfl
theorem jex(q:Pair)(m:vL):look (q :: m) q.k=some q.2:=by rw[jew,if_pos rfl]
theorem jcn{k:vN}(h:k≠q.k):look (q :: m) k=look m k:=by rw[jew,if_neg h]
theorem jzl:∀ (l m:vL),okL l->okL m->joM l m (ja8 l m):=by
 intro l m
 fun_induction ja8 l m with
 | case1=>exact fun _ _=>⟨by simp,by simp,fun _ _=>rfl,rfl⟩
 | case2 p l ih =>
  intro H A;refine (ih H.tail A).cons (jgm H.lt (by simp)) rfl (jqi H.head) (fun k J=>jcn J) (fun _ _=>rfl)
 | case3 q m ih =>
  intro H A;exact (ih H A.tail).cons (jgm (by simp) A.lt) (jex q m) (jri A.head) (fun _ _=>rfl) (fun k J=>jcn J)
 | case4 p l q m h ih =>
  intro H A;have X:=(jdI _ _).1 h;have Z:∀ x∈q :: m,Lt p.k x.k:=fun x K=>by
   rcases bZ.1 K with rfl | K
   ·exact X
   ·exact jfE _ _ _ X (A.lt x K)
  refine (ih H.tail A).cons (jgm H.lt Z) (joh Z) (jqi H.head) (fun k J=>jcn J) (fun _ _=>rfl)
 | case5 p l q m h h' ih =>
  intro H A;have X:=(jdI _ _).1 h';have hp:∀ x∈p :: l,Lt q.k x.k:=fun x K=>by
   rcases bZ.1 K with rfl | K
   ·exact X
   ·exact jfE _ _ _ X (H.lt x K)
  exact (ih H A.tail).cons (jgm hp A.lt) (jex q m) (jri A.head) (fun _ _=>rfl) (fun k J=>jcn J)
 | case6 p l q m h h' h3 ih =>
  intro H A;have J:p.k=q.k:=by
   rcases jmR p.k q.k with e | e | e
   ·exact absurd ((jdI _ _).2 e) h
   ·exact e
   ·exact absurd ((jdI _ _).2 e) h'
  have hv:p.2=q.2:=by
   rw[bR,bR]at h3
   obtain⟨⟨⟨a⟩⟩,⟨⟨b⟩⟩⟩:=p
   obtain⟨⟨⟨c⟩⟩,⟨⟨d⟩⟩⟩:=q
   simp at h3;simp[h3]
  have:=jm2 J hv
  subst this;have hi:=ih H.tail A.tail;have O:=jgm H.lt A.lt
  refine⟨hi.keys,fun c hc=>?_,fun k hh=>?_,hi.fine⟩
  ·rw[jcn (fun e=>lt_irrefl _ (e ▸ O c hc)),hi.done c hc]
  ·by_cases e:k=p.k
   ·rw[e,jex,jex]
   ·rw[jcn e,jcn e,hi.rest k hh]
 | case7 p l q m h h' h3 ih =>
  intro H A;have J:p.k=q.k:=by
   rcases jmR p.k q.k with e | e | e
   ·exact absurd ((jdI _ _).2 e) h
   ·exact e
   ·exact absurd ((jdI _ _).2 e) h'
  have O:=jgm (fun x K=>J ▸ H.lt x K) A.lt;exact (ih H.tail A.tail).cons O (jex q m) (jri A.head) (fun k e=>jcn (by rw[J];exact e)) (fun k e=>jcn e)
theorem jj5(h:jbf l=0):okL l:=⟨jqJ h,(ja1 h).rise⟩
theorem jit(h1:jbf l=0)(h2:jbf m=0):joM l m (jdd l m):=by
 unfold jdd;rw[if_pos ⟨h1,h2⟩];exact jzl l m (jj5 h1) (jj5 h2)
structure VerN where
 block:Nat
 ents:vL
 chgs:List Chg
 pins:Nat
structure MdN where
 win:Nat
 next:Nat
 all:List VerN
def jee(win next:Nat)(v:VerN):Bool:=decide (next<=v.block+win) || decide (0 < v.pins)
def ja3(win next:Nat):List VerN->List VerN
 | []=>[]
 | [v]=>[v]
 | v :: u :: t=>if jee win next v=true then v :: ja3 win next (u :: t)else ja3 win next (u :: t)
theorem jc3{v:VerN}{t:List VerN}(h:t≠[]):ja3 win next (v :: t)=if jee win next v=true then v :: ja3 win next t else ja3 win next t:=by
 cases t with
 | nil=>exact absurd rfl h
 | cons u t=>rfl
theorem jgV{win next:Nat}:∀ {l:List VerN},l≠[]->ja3 win next l≠[]
 | [],h=>h
 | [v],_=>by show [v]≠[];simp
 | v :: u :: t,_=>by
  rw[jc3 (by simp)];split
  ·simp
  ·exact jgV (by simp)
theorem jcm{win next:Nat}:∀ {l:List VerN},(ja3 win next l).Sublist l
 | []=>.refl _
 | [v]=>.refl _
 | v :: u :: t=>by
  rw[jc3 (by simp)];split
  ·exact (jcm (l:=u :: t)).cons_cons v
  ·exact (jcm (l:=u :: t)).cons v
theorem jg1{α:Type}{a b:List α}(h:b≠[]):(a++b).getLast?=b.getLast?:=by
 rw[List.getLast?_append];cases e:b.getLast? with
 | none=>exact absurd (List.getLast?_eq_none_iff.1 e) h
 | some x=>rfl
theorem jgc{win next:Nat}:∀ {l:List VerN},(ja3 win next l).getLast?=l.getLast?
 | []=>rfl
 | [v]=>rfl
 | v :: u :: t=>by
  have e:=jgc (win:=win) (next:=next) (l:=u :: t);rw[jc3 (by simp)];have q:=jgV (win:=win) (next:=next) (l:=u :: t) (by simp);split
  ·rw[show v :: ja3 win next (u :: t)=[v]++ja3 win next (u :: t)from rfl,show v :: u :: t=[v]++(u :: t)from rfl,jg1 q,jg1 (by simp)]
   exact e
  ·rw[show v :: u :: t=[v]++(u :: t)from rfl,jg1 (by simp)]
   exact e
def Kept(win next:Nat):List VerN->Prop
 | []=>True
 | [_]=>True
 | v :: u :: t=>jee win next v=true/\Kept win next (u :: t)
theorem jkw{v:VerN}{t:List VerN}(h:t≠[]):Kept win next (v :: t)↔jee win next v=true/\Kept win next t:=by
 cases t with
 | nil=>exact absurd rfl h
 | cons u t=>exact Iff.rfl
theorem jeQ{win next:Nat}:∀ {l:List VerN},Kept win next (ja3 win next l)
 | []=>trivial
 | [v]=>trivial
 | v :: u :: t=>by
  rw[jc3 (by simp)];have e:=jgV (win:=win) (next:=next) (l:=u :: t) (by simp);split
  ·rename_i h
   exact (jkw e).2 ⟨h,jeQ⟩
  ·exact jeQ
theorem jqv{win next:Nat}:∀ {l:List VerN},Kept win next l->∀ {i:Nat} {v:VerN},l[i]?=some v->i+1=l.length\/jee win next v=true
 | [],_,i,v,h=>by simp at h
 | [u],_,0,v,h=>.inl rfl
 | [u],_,i+1,v,h=>by simp at h
 | x :: u :: t,hk,0,v,h=>by
  have e:x=v:=by simpa using h
  exact .inr (e ▸ hk.1)
 | x :: u :: t,hk,i+1,v,h=>by
  rcases jqv hk.2 (i:=i) (v:=v) (by simpa using h)with e | e
  ·exact .inl (by simp only[bU]at e ⊢;omega)
  ·exact .inr e
structure jxt(v:VerN):Prop where
 map:jbf v.ents=0
 pins:v.pins<=1048576
 chgs:v.chgs.length<=80
 fine:v.chgs.any Chg.bad=false
structure MdOk(M:MdN):Prop where
 win:1<=M.win/\M.win<=8
 next:1<=M.next/\M.next<=1048576
 last:∃ v,M.all.getLast?=some v/\v.block+1=M.next
 rise:M.all.Pairwise fun a b=>a.block < b.block
 ver:∀ v∈M.all,jxt v
 kept:Kept M.win M.next M.all
theorem MdOk.ne{M:MdN}(h:MdOk M):M.all≠[]:=fun e=>by
 obtain⟨v,q,_⟩:=h.last
 rw[e]at q;cases q
theorem MdOk.less{M:MdN}(h:MdOk M):∀ v∈M.all,v.block < M.next:=fun v q=>by
 obtain⟨u,J,e⟩:=h.last
 obtain⟨A,H⟩:=List.getLast?_eq_some_iff.1 J
 rw[H]at q;rcases bQ.1 q with q | q
 ·have:=(List.pairwise_append.1 (H ▸ h.rise)).2.2 v q u (by simp)
  omega
 ·rw[bM.1 q];omega
def jb9(M:MdN):VerN:=M.all.getLast?.getD ⟨0,[],[],0⟩
def newN(window:Int):MdN:=⟨(min (max window 1) 8).toNat,1,[⟨0,[],[],0⟩]⟩
theorem jyc(window:Int):MdOk (newN window):=by
 refine⟨⟨?_,?_⟩,⟨bL _,by show 1<=1048576;decide⟩,⟨⟨0,[],[],0⟩,rfl,rfl⟩,by show List.Pairwise _ [_];simp,fun v e=>?_,trivial⟩
 ·show 1<=(min (max window 1) 8).toNat;omega
 ·show (min (max window 1) 8).toNat<=8;omega
 ·have e:v∈[(⟨0,[],[],0⟩:VerN)]:=e
  rw[bM.1 e]
  exact⟨by decide,by decide,by decide,rfl⟩
def jaU(M:MdN)(cs:List Chg):MdN × Nat × Int:=
 if jbL (jb9 M).ents cs≠0 then (M,0,jbL (jb9 M).ents cs)
 else if M.next=1048576 then (M,0,12)
 else (⟨M.win,M.next+1,ja3 M.win (M.next+1) (M.all++[⟨M.next,jbV (jca (jb9 M).ents cs),jdd (jb9 M).ents (jbV (jca (jb9 M).ents cs)),0⟩])⟩,M.next,0)
theorem jis(h1:l.length<=40)(h2:m.length<=40):(jdd l m).length<=80:=by
 have e:∀ l m:vL,(ja8 l m).length<=l.length+m.length:=fun l m=>by
  fun_induction ja8 l m <;> simp only[bU,dA]at * <;> omega
 unfold jdd;split
 ·have:=e l m;omega
 ·simp
theorem MdOk.newest{M:MdN}(h:MdOk M):jb9 M∈M.all/\(jb9 M).block+1=M.next:=by
 obtain⟨v,q,e⟩:=h.last
 unfold jb9;rw[q]
 exact⟨List.mem_of_getLast? q,e⟩
theorem jpK{M:MdN}(h:MdOk M)(cs:List Chg):MdOk (jaU M cs).1:=by
 unfold jaU;split
 ·exact h
 split
 ·exact h
 rename_i A h1
 have A:jbL (jb9 M).ents cs=0:=Classical.not_not.1 A;have O:=h.next;have e:=je7 A;have H:=jit (h.ver _ h.newest.1).map e;have J:=h.less
 refine⟨h.win,⟨by show 1<=M.next+1;omega,by show M.next+1<=_;omega⟩,⟨_,by show (ja3 _ _ _).getLast?=_;rw[jgc,jg1 (by simp)];rfl,rfl⟩,?_,fun v q=>?_,jeQ⟩
 ·refine List.Pairwise.sublist jcm ?_
  rw[List.pairwise_append]
  exact⟨h.rise,by simp,fun a K b hb=>by rw[bM.1 hb];exact J a K⟩
 ·rcases bQ.1 (jcm.subset q)with q | q
  ·exact h.ver v q
  ·rw[bM.1 q]
   exact⟨e,cB _,jis (ja1 (h.ver _ h.newest.1).map).len (ja1 e).len,H.fine⟩
def jbG(l:List VerN)(block:Int):Option Nat:=l.findIdx? fun v=>decide ((v.block:Int)=block)
theorem jeW{l:List VerN}{b:Int}(h:jbG l b=some i):∃ v,l[i]?=some v/\(v.block:Int)=b:=by
 unfold jbG at h;rw[fK]at h
 obtain⟨hi,e,_⟩:=h
 exact⟨l[i],bB hi,of_decide_eq_true e⟩
def jd5(v:VerN)(p:Nat):VerN:=⟨v.block,v.ents,v.chgs,p⟩
def jcs(M:MdN)(i:Nat)(v:VerN)(p:Nat):List VerN:=M.all.set i (jd5 v p)
def jon(M:MdN)(at':Int):Option Nat:=if at' = -1 then some (M.all.length - 1)else jbG M.all at'
def pinN(M:MdN)(at':Int):MdN × Nat × Int:=match jon M at' with
 | none=>(M,0,4)
 | some i=>match M.all[i]? with
  | none=>(M,0,4)
  | some v=>if v.pins=1048576 then (M,0,12)else (⟨M.win,M.next,jcs M i v (v.pins+1)⟩,v.block,0)
def jbI(M:MdN)(b:Int):MdN × Int:=match jbG M.all b with
 | none=>(M,4)
 | some i=>match M.all[i]? with
  | none=>(M,4)
  | some v=>if v.pins=0 then (M,4)else (⟨M.win,M.next,ja3 M.win M.next (jcs M i v (v.pins - 1))⟩,0)
theorem jiV{M:MdN}{v:VerN}{p:Nat}(h:M.all[i]?=some v):(jcs M i v p).map VerN.block=M.all.map VerN.block:=by
 unfold jcs;rw[gB];refine iI fun j=>?_;rw[List.getElem?_set];split
 ·rename_i e
  subst e;rw[bV,h];have hi:=(bH.1 h).1;rw[if_pos (by rw[bS];exact hi)];rfl
 ·rfl
theorem juP{M:MdN}(hM:MdOk M){v:VerN}{p:Nat}(h:M.all[i]?=some v)(hp:p<=1048576):(∃ u,(jcs M i v p).getLast?=some u/\u.block+1=M.next)/\(jcs M i v p).Pairwise (fun a b=>a.block < b.block)/\∀ u∈jcs M i v p,jxt u:=by
 have hb:=jiV (p:=p) h
 refine⟨?_,?_,fun u A=>?_⟩
 ·obtain⟨u,A,e⟩:=hM.last
  have q:((jcs M i v p).map VerN.block).getLast?=some u.block:=by rw[hb,List.getLast?_map,A];rfl
  rw[List.getLast?_map,cM]at q
  obtain⟨H,q,J⟩:=q
  exact⟨H,q,by rw[J];exact e⟩
 ·have q:=iG.2 hM.rise
  rw[<-hb]at q;exact iG.1 q
 ·unfold jcs at A
  rcases gE A with A | rfl
  ·exact hM.ver u A
  ·have:=hM.ver v (bG h)
   exact⟨this.map,hp,this.chgs,this.fine⟩
theorem jmL{win next:Nat}{x:VerN}(hx:jee win next x=true):∀ {l:List VerN} {i:Nat},Kept win next l->Kept win next (l.set i x)
 | [],_,_=>trivial
 | [v],0,_=>trivial
 | [v],i+1,_=>trivial
 | v :: u :: t,0,h=>⟨hx,h.2⟩
 | v :: u :: t,i+1,h=>by
  have:=jmL hx (l:=u :: t) (i:=i) h.2
  show Kept win next (v ::(u :: t).set i x);exact (jkw (by simp)).2 ⟨h.1,this⟩
theorem jyp{M:MdN}(h:MdOk M)(at':Int):MdOk (pinN M at').1:=by
 unfold pinN;split
 ·exact h
 split
 ·exact h
 split
 ·exact h
 rename_i v hv hp
 have:=(h.ver v (bG hv)).pins
 obtain⟨e,q,A⟩:=juP h hv (p:=v.pins+1) vO
 refine⟨h.win,h.next,e,q,A,jmL ?_ h.kept⟩
 unfold jee jd5
 simp
theorem jun{M:MdN}(h:MdOk M)(b:Int):MdOk (jbI M b).1:=by
 unfold jbI;split
 ·exact h
 split
 ·exact h
 split
 ·exact h
 rename_i v hv hp
 have:=(h.ver v (bG hv)).pins
 obtain⟨e,q,A⟩:=juP h hv (p:=v.pins - 1) vO
 exact⟨h.win,h.next,by show ∃ u,(ja3 _ _ _).getLast?=some u/\_;rw[jgc];exact e,q.sublist jcm,fun u H=>A u (jcm.subset H),jeQ⟩
def NewB(w w':vW):Nat->Prop:=fun b=>w.heap.size<=b/\b < w'.heap.size
def RdPD(D:Nat->Prop)(w:vW)(v:vV)(xs:vL):Prop:=RdP w v xs/\∀ b,v.ownBlock=some b->D b
def RdCD(D:Nat->Prop)(w:vW)(v:vV)(xs:List Chg):Prop:=RdC w v xs/\∀ b,v.ownBlock=some b->D b
theorem RdP.keeps{xs:vL}(h:RdP w v xs)(k:jac F w w')(hF:∀ b,v.ownBlock=some b->¬ F b):RdP w' v xs:=by
 rcases h with h |⟨b,o,c,rfl,h2,h3,h4⟩
 ·exact .inl h
 ·have hb:=hF b rfl
  exact .inr ⟨b,o,c,rfl,bC h2 k.size,h3,fun j x e=>⟨jai (h4 j x e).1 k hb,jai (h4 j x e).2 k hb⟩⟩
theorem RdC.keeps(h:RdC w v xs)(k:jac F w w')(hF:∀ b,v.ownBlock=some b->¬ F b):RdC w' v xs:=by
 rcases h with h |⟨b,o,c,rfl,h2,h3,h4⟩
 ·exact .inl h
 ·have hb:=hF b rfl
  exact .inr ⟨b,o,c,rfl,bC h2 k.size,h3,fun j x e=>⟨jai (h4 j x e).1 k hb,jai (h4 j x e).2.1 k hb,jai (h4 j x e).2.2 k hb⟩⟩
theorem RdPD.keeps{xs:vL}(h:RdPD D w v xs)(k:jac F w w')(hF:∀ b,D b->¬ F b):RdPD D w' v xs:=⟨h.1.keeps k fun b e=>hF b (h.2 b e),h.2⟩
theorem RdCD.keeps(h:RdCD D w v xs)(k:jac F w w')(hF:∀ b,D b->¬ F b):RdCD D w' v xs:=⟨h.1.keeps k fun b e=>hF b (h.2 b e),h.2⟩
theorem RdPD.mono{xs:vL}(h:RdPD D w v xs)(k:∀ b,D b->E b):RdPD E w v xs:=⟨h.1,fun b e=>k b (h.2 b e)⟩
theorem RdCD.mono(h:RdCD D w v xs)(k:∀ b,D b->E b):RdCD E w v xs:=⟨h.1,fun b e=>k b (h.2 b e)⟩
structure jjU(D:Nat->Prop)(w:World)(b o:Nat)(x:VerN):Prop where
 block:w.cell? ⟨b,o,none⟩=some (.int .i64 (x.block:Int))
 ents:∃ v,w.cell? ⟨b,o+1,none⟩=some v/\RdPD D w v x.ents
 chgs:∃ v,w.cell? ⟨b,o+2,none⟩=some v/\RdCD D w v x.chgs
 pins:w.cell? ⟨b,o+3,none⟩=some (.int .i64 (x.pins:Int))
def VRow(D:Nat->Prop)(w:vW)(v:vV)(l:List VerN):Prop:=
 (∃ a c,v=.slice a 0 c/\l=[])\/∃ b o c,v=.slice (some ⟨b,o,none⟩) l.length c/\D b/\b < w.heap.size/\l.length<=c/\∀ (j:Nat) x,l[j]?=some x->jjU D w b (o+j * 4) x
theorem jjU.keeps{b o:Nat}{x:VerN}(h:jjU D w b o x)(k:jac F w w')(hb:¬ F b)(hF:∀ b,D b->¬ F b):jjU D w' b o x:=by
 obtain⟨e,q,A⟩:=h.ents
 obtain⟨H,J,K⟩:=h.chgs
 exact⟨jai h.block k hb,⟨e,jai q k hb,A.keeps k hF⟩,⟨H,jai J k hb,K.keeps k hF⟩,jai h.pins k hb⟩
theorem jjU.mono{b o:Nat}{x:VerN}(h:jjU D w b o x)(k:∀ b,D b->E b):jjU E w b o x:=by
 obtain⟨e,q,A⟩:=h.ents
 obtain⟨H,J,K⟩:=h.chgs
 exact⟨h.block,⟨e,q,A.mono k⟩,⟨H,J,K.mono k⟩,h.pins⟩
theorem VRow.keeps{l:List VerN}(h:VRow D w v l)(k:jac F w w')(hF:∀ b,D b->¬ F b):VRow D w' v l:=by
 rcases h with h |⟨b,o,c,h1,h2,h3,h4,h5⟩
 ·exact .inl h
 ·exact .inr ⟨b,o,c,h1,h2,bC h3 k.size,h4,fun j x e=>(h5 j x e).keeps k (hF b h2) hF⟩
theorem VRow.ext{l:List VerN}(h:VRow D w v l)(k:Ext w w'):VRow D w' v l:=h.keeps k fun _ _ e=>e
theorem VRow.mono{l:List VerN}(h:VRow D w v l)(k:∀ b,D b->E b):VRow E w v l:=by
 rcases h with h |⟨b,o,c,h1,h2,h3,h4,h5⟩
 ·exact .inl h
 ·exact .inr ⟨b,o,c,h1,k b h2,h3,h4,fun j x e=>(h5 j x e).mono k⟩
theorem VRow.sl{l:List VerN}(h:VRow D w v l):∃ a c,v=.slice a l.length c:=by
 rcases h with⟨a,c,h1,h2⟩ |⟨b,o,c,h1,_⟩
 ·exact⟨a,c,by rw[h1,h2];rfl⟩
 ·exact⟨_,c,h1⟩
structure VX where
 v:VerN
 ev:vV
 cv:vV
def VX.cells(x:VX):List vV:=[.int .i64 (x.v.block:Int),x.ev,x.cv,.int .i64 (x.v.pins:Int)]
def jaY(l:List VX):List vV:=l.flatMap VX.cells
theorem jbP:∀ l:List VX,(jaY l).length=l.length * 4
 | []=>rfl
 | x :: t=>by
  show (x.cells++jaY t).length=_;rw[bI,jbP t,bU];show 4+_=_;omega
theorem jek:∀ (l:List VX) (j:Nat) (x:VX),l[j]?=some x->∀ i,i < 4->(jaY l)[j * 4+i]?=x.cells[i]?
 | [],j,x,h=>by simp at h
 | y :: t,0,x,h=>fun i hi=>by
  have e:y=x:=by simpa using h
  subst e;show (y.cells++jaY t)[0 * 4+i]?=_;rw[iJ,bT,cR (show i < y.cells.length from hi)]
 | y :: t,j+1,x,h=>fun i hi=>by
  show (y.cells++jaY t)[(j+1) * 4+i]?=_;rw[cO (show y.cells.length<=_ from by show 4<=_;omega),show (j+1) * 4+i - y.cells.length=j * 4+i by show _ - 4=_;omega];exact jek t j x (by simpa using h) i hi
def jgB(D:Nat->Prop)(w:vW)(l:List VX):Prop:=∀ x∈l,RdPD D w x.ev x.v.ents/\RdCD D w x.cv x.v.chgs
theorem Tryz.infoVer:(Tryz.prog.info? 86).map (fun i=>(i.zero,i.size,i.bytes))=some (some (.agg #[.int .i64 0,.slice none 0 0,.slice none 0 0,.int .i64 0]),4,64):=vY
theorem Tryz.uVers:Tryz.prog.underlying 71=some (.slice 86):=vY
theorem Tryz.sVers:jcw Tryz.prog 71 86 4 64:=jcw.mk' Tryz.uVers Tryz.infoVer rfl vI
def jlX:VX:=⟨⟨0,[],[],0⟩,.slice none 0 0,.slice none 0 0⟩
theorem Tryz.allocVer(w:vW):(Instr.alloc 86 true (.tuple #[])).run Tryz.prog w=.ok (.pointer (some ⟨w.heap.size,0,none⟩)) (w.alloc (.cells jlX.cells.toArray 86)):=vY
theorem Tryz.szVer:(Tryz.prog.info? 86).map (·.size)=some 4:=vY
theorem Tryz.isVer:jb2 (Tryz.prog.underlying 86)=true:=vY
theorem jkW(W:vW)(b o:Nat)(vs:List vV)(hl:vs.length=4)(h:∀ i v,vs[i]?=some v->W.cell? ⟨b,o+i,none⟩=some v):(Instr.loadAt 86 (.pointer (some ⟨b,o,none⟩))).run Tryz.prog W=.ok (.agg vs.toArray) W:=by
 obtain⟨A,e⟩:=jbv Tryz.isVer
 exact ja2 e (by rw[hl];exact Tryz.szVer) (fun j v q=>by rw[Go.WideShapes.add_plain];exact h j v q)
theorem Tryz.isMod:jb2 (Tryz.prog.underlying 73)=true:=vY
theorem Tryz.szMod:(Tryz.prog.info? 73).map (·.size)=some 3:=vY
theorem jcL(W:vW)(b o:Nat)(vs:List vV)(hl:vs.length=3)(h:∀ i v,vs[i]?=some v->W.cell? ⟨b,o+i,none⟩=some v):(Instr.loadAt 73 (.pointer (some ⟨b,o,none⟩))).run Tryz.prog W=.ok (.agg vs.toArray) W:=by
 obtain⟨A,e⟩:=jbv Tryz.isMod
 exact ja2 e (by rw[hl];exact Tryz.szMod) (fun j v q=>by rw[Go.WideShapes.add_plain];exact h j v q)
theorem jdj(W:vW)(b o:Nat)(vs:List vV)(hl:vs.length=4)(h:∀ i v,vs[i]?=some v->W.cell? ⟨b,o+i,none⟩=some v):(loadVar 86 ⟨b,o,none⟩).run Tryz.prog W=.ok (.agg vs.toArray) W:=by
 have:=jkW W b o vs hl h
 simpa [Instr.loadAt,Instr.sureAddr,bK,Result.andThen]using this
theorem jaH(W:vW)(b o:Nat)(vs:List vV)(hl:vs.length=3)(h:∀ i v,vs[i]?=some v->W.cell? ⟨b,o+i,none⟩=some v):(loadVar 73 ⟨b,o,none⟩).run Tryz.prog W=.ok (.agg vs.toArray) W:=by
 have:=jcL W b o vs hl h
 simpa [Instr.loadAt,Instr.sureAddr,bK,Result.andThen]using this
def modV(M:MdN)(av:vV):vV:=.agg #[.int .i64 (M.win:Int),.int .i64 (M.next:Int),av]
structure RdG(sz:Nat)(w:World)(v:Value)(m:Nat)(cs:List Value):Prop where
 len:cs.length=m * sz
 one:∀ u∈cs,u.oneCell'=true
 at':(∃ a c,v=.slice a 0 c/\m=0)\/∃ b o c,v=.slice (some ⟨b,o,none⟩) m c/\∀ j u,cs[j]?=some u->w.cell? ⟨b,o+j,none⟩=some u
theorem RdG.ext{m:Nat}{cs:List vV}(h:RdG sz w v m cs)(k:Ext w w'):RdG sz w' v m cs:=by
 refine⟨h.len,h.one,?_⟩
 rcases h.at' with h |⟨b,o,c,h1,h2⟩
 ·exact .inl h
 ·exact .inr ⟨b,o,c,h1,fun j u e=>jaa (h2 j u e) k⟩
theorem jf8:∀ (xs:vL) (j:Nat) (u:vV),(jch xs)[j]?=some u->∃ i p,xs[i]?=some p/\((j=i * 2/\u=.string p.1)\/(j=i * 2+1/\u=.string p.2))
 | [],j,u,h=>by simp[jch]at h
 | x :: t,0,u,h=>⟨0,x,rfl,.inl ⟨rfl,by simpa [jch]using h.symm⟩⟩
 | x :: t,1,u,h=>⟨0,x,rfl,.inr ⟨rfl,by simpa [jch]using h.symm⟩⟩
 | x :: t,j+2,u,h=>by
  have h:(jch t)[j]?=some u:=by simpa [jch]using h
  obtain⟨i,p,e,q⟩:=jf8 t j u h
  exact⟨i+1,p,by simpa using e,q.imp (fun ⟨a,b⟩=>⟨by omega,b⟩) (fun ⟨a,b⟩=>⟨by omega,b⟩)⟩
theorem jf6:∀ (xs:List Chg) (j:Nat) (u:vV),(jb5 xs)[j]?=some u->∃ i p,xs[i]?=some p/\((j=i * 3/\u=.string p.key)\/(j=i * 3+1/\u=.string p.value)\/(j=i * 3+2/\u=.bool p.gone))
 | [],j,u,h=>by simp[jb5]at h
 | x :: t,0,u,h=>⟨0,x,rfl,.inl ⟨rfl,by simpa [jb5]using h.symm⟩⟩
 | x :: t,1,u,h=>⟨0,x,rfl,.inr (.inl ⟨rfl,by simpa [jb5]using h.symm⟩)⟩
 | x :: t,2,u,h=>⟨0,x,rfl,.inr (.inr ⟨rfl,by simpa [jb5]using h.symm⟩)⟩
 | x :: t,j+3,u,h=>by
  have h:(jb5 t)[j]?=some u:=by simpa [jb5]using h
  obtain⟨i,p,e,q⟩:=jf6 t j u h
  exact⟨i+1,p,by simpa using e,q.imp (fun ⟨a,b⟩=>⟨by omega,b⟩) (fun h=>h.imp (fun ⟨a,b⟩=>⟨by omega,b⟩) (fun ⟨a,b⟩=>⟨by omega,b⟩))⟩
theorem RdP.g{xs:vL}(h:RdP w v xs):RdG 2 w v xs.length (jch xs):=by
 refine⟨jeO xs,fun u e=>?_,?_⟩
 ·obtain⟨j,A⟩:=fO e
  obtain⟨i,p,_,⟨_,rfl⟩ |⟨_,rfl⟩⟩:=jf8 xs j u A <;> rfl
 ·rcases h with⟨a,c,h1,h2⟩ |⟨b,o,c,h1,h2,h3,h4⟩
  ·exact .inl ⟨a,c,h1,by rw[h2];rfl⟩
  ·refine .inr ⟨b,o,c,h1,fun j u e=>?_⟩
   obtain⟨i,p,q,⟨rfl,rfl⟩ |⟨rfl,rfl⟩⟩:=jf8 xs j u e
   ·exact (h4 i p q).1
   ·exact (h4 i p q).2
theorem RdC.g(h:RdC w v xs):RdG 3 w v xs.length (jb5 xs):=by
 refine⟨jf7 xs,fun u e=>?_,?_⟩
 ·obtain⟨j,A⟩:=fO e
  obtain⟨i,p,_,⟨_,rfl⟩ |⟨_,rfl⟩ |⟨_,rfl⟩⟩:=jf6 xs j u A <;> rfl
 ·rcases h with⟨a,c,h1,h2⟩ |⟨b,o,c,h1,h2,h3,h4⟩
  ·exact .inl ⟨a,c,h1,by rw[h2];rfl⟩
  ·refine .inr ⟨b,o,c,h1,fun j u e=>?_⟩
   obtain⟨i,p,q,⟨rfl,rfl⟩ |⟨rfl,rfl⟩ |⟨rfl,rfl⟩⟩:=jf6 xs j u e
   ·exact (h4 i p q).1
   ·exact (h4 i p q).2.1
   ·exact (h4 i p q).2.2
theorem jk0(h:∃ a n c,v=Value.slice a n c):v.oneCell'=true:=by obtain⟨_,_,_,rfl⟩:=h;rfl
theorem jim:∀ (xs:List VX) (j:Nat) (u:vV),(jaY xs)[j]?=some u->∃ i x k,xs[i]?=some x/\k < 4/\j=i * 4+k/\x.cells[k]?=some u
 | [],j,u,h=>by simp[jaY]at h
 | x :: t,j,u,h=>by
  have e:jaY (x :: t)=x.cells++jaY t:=rfl;rw[e]at h
  by_cases hj:j < 4
  ·rw[cR (show j < x.cells.length from hj)]at h
   exact⟨0,x,j,rfl,hj,by omega,h⟩
  ·rw[cO (show x.cells.length<=j from by show 4<=j;omega)]at h
   obtain⟨i,y,k,q,A,J,H⟩:=jim t (j - 4) u h
   exact⟨i+1,y,k,by simpa using q,A,by omega,H⟩
theorem VX.one{x:VX}(h:RdPD D w x.ev x.v.ents/\RdCD D w x.cv x.v.chgs):∀ u∈x.cells,u.oneCell'=true:=fun u e=>by
 obtain⟨a,c,q⟩:=h.1.1.sl
 obtain⟨A,H,J⟩:=h.2.1.sl
 simp only[VX.cells,bZ,gW,or_false]at e;rcases e with rfl | rfl | rfl | rfl
 ·rfl
 ·exact jk0 ⟨a,_,c,q⟩
 ·exact jk0 ⟨A,_,H,J⟩
 ·rfl
theorem VRow.g{l:List VerN}(h:VRow D w v l):∃ X:List VX,X.map VX.v=l/\jgB D w X/\RdG 4 w v l.length (jaY X):=by
 rcases h with⟨a,c,h1,K⟩ |⟨b,o,c,h1,hd,hb,Z,h4⟩
 ·exact⟨[],by rw[K];rfl,fun x q=>(by cases q),by rw[K];rfl,fun u H=>(by cases H),.inl ⟨a,c,h1,by rw[K];rfl⟩⟩
 ·obtain⟨X,J,O⟩:∃ X:List VX,X.map VX.v=l/\∀ j x,X[j]?=some x->w.cell? ⟨b,o+j * 4+1,none⟩=some x.ev/\RdPD D w x.ev x.v.ents/\w.cell? ⟨b,o+j * 4+2,none⟩=some x.cv/\RdCD D w x.cv x.v.chgs:=by
   have a0:∀ (l:List VerN) (o:Nat),(∀ (j:Nat) x,l[j]?=some x->jjU D w b (o+j * 4) x)->∃ X:List VX,X.map VX.v=l/\∀ j x,X[j]?=some x->w.cell? ⟨b,o+j * 4+1,none⟩=some x.ev/\RdPD D w x.ev x.v.ents/\w.cell? ⟨b,o+j * 4+2,none⟩=some x.cv/\RdCD D w x.cv x.v.chgs:=by
    intro l;induction l with
    | nil=>exact fun o _=>⟨[],rfl,fun j x q=>by simp at q⟩
    | cons y t ih =>
     intro o h;have h0:=h 0 y rfl
     obtain⟨ev,e1,e2⟩:=h0.ents
     obtain⟨cv,c1,c2⟩:=h0.chgs
     obtain⟨X,x1,x2⟩:=ih (o+4) fun j x q=>by
      have:=h (j+1) x (by simpa using q)
      rwa [show o+(j+1) * 4=o+4+j * 4 by omega]at this
     refine⟨⟨y,ev,cv⟩ :: X,by rw[bN,x1],fun j x q=>?_⟩
     cases j with
     | zero =>
      have e:(⟨y,ev,cv⟩:VX)=x:=by simpa using q
      subst e;rw[iJ,gN]at e1 c1 ⊢
      exact⟨e1,e2,c1,c2⟩
     | succ j =>
      have:=x2 j x (by simpa using q)
      rwa [show o+4+j * 4=o+(j+1) * 4 by omega]at this
   exact a0 l o h4
  have hH:jgB D w X:=fun x q=>by
   obtain⟨j,hj⟩:=fO q
   obtain⟨_,K,_,h3⟩:=O j x hj
   exact⟨K,h3⟩
  have hl:X.length=l.length:=by rw[<-J,bS]
  refine⟨X,J,hH,by rw[jbP,hl],fun u H=>?_,.inr ⟨b,o,c,h1,fun j u H=>?_⟩⟩
  ·obtain⟨x,q,H⟩:=fI.1 H
   exact VX.one (hH x q) u H
  ·obtain⟨i,x,k,h5,h6,rfl,A⟩:=jim X j u H
   obtain⟨q1,_,q2,_⟩:=O i x h5
   have hv:l[i]?=some x.v:=by rw[<-J,bV,h5];rfl
   have Z:=h4 i x.v hv;rw[show o+(i * 4+k)=o+i * 4+k by omega]
   match k,h6,A with
   | 0,_,A=>rw[<-bP A];exact Z.block
   | 1,_,A=>rw[<-bP A];exact q1
   | 2,_,A=>rw[<-bP A];exact q2
   | 3,_,A=>rw[<-bP A];exact Z.pins
theorem jh0{P:Program}{t T:TypeId}(I:jcw P t T sz by'){ops:Array Oper}{rest:List Oper}{d:Option Tmp}{ty:TypeId}{pos:String}{af:Array Edge}{a:Act}{Q:Exit->Act->vW->Prop}{s x:Operand}{m:Nat}{xs cs:List vV}
  (hR:ORow T sz w0 w v n xs) (hP:RdG sz w pv m cs) (hs:a.eval s=v) (hx:a.eval x=pv) (h63:n+m<=1000000) (hb:by'<=1000)
  (h:∀ A w',ORow T sz w0 w' A (n+m) (xs++cs)->jac (fun b=>v.ownBlock=some b) w w'->(A.ownBlock=v.ownBlock\/∀ b,A.ownBlock=some b->w.heap.size<=b)->wpList P ops Q rest (a.put d A) w') :
  wpList P ops Q (⟨d,.call { callee:=.builtin .append,args:=#[s,x],argTypes:=#[t,t] },ty,pos,af,none⟩ :: rest) a w:=by
 obtain⟨i,z,H,e2,e3,e4,e5⟩:=I.hi
 have O:n+m<=maxLen:=by unfold maxLen;omega
 have X:(n+m) * by'<=140737488355328:=bE (Nat.mul_le_mul h63 hb) vI
 have q:∀ (ad:Addr) (c:Nat),pv=.slice (some ad) m c->(∀ j u,cs[j]?=some u->w.cell? (ad.add j)=some u)->wpList P ops Q (⟨d,.call { callee:=.builtin .append,args:=#[s,x],argTypes:=#[t,t] },ty,pos,af,none⟩ :: rest) a w:=fun ad c e Z =>
  jbn w rfl s x t rfl T i z sz by' I.ht H e2 e3 e4 e5 I.hsz v n xs hs hR.own ad m c cs (hx.trans e) hP.len Z hP.one O X (fun A w' r1 r2 r3=>h A w' (hR.step r1 r2 r3) r2 r3)
 rcases hP.at' with⟨ad,c,e,rfl⟩ |⟨b,o,c,e,Z⟩
 ·have J:cs=[]:=bO (by rw[hP.len];omega)
  cases ad with
  | some ad=>exact q ad c e (fun j u K=>by rw[J]at K;simp at K)
  | none =>
   obtain⟨ad,a0,hv⟩:=hR.sl
   have a1:n<=a0:=by
    obtain⟨_,⟨H,e2⟩ |⟨g,cp,a2,H,h3,h4,h5,_⟩⟩:=hR.own
    ·omega
    ·rw[hv]at H
     obtain⟨_,_,e3⟩:=dC H
     omega
   refine jlU I (hs.trans hv) (hx.trans e) a1 ?_;rw[<-hv];exact h v w (by rw[J,cA];exact hR) (jac.refl _ w) (.inl rfl)
 ·exact q ⟨b,o,none⟩ c e (fun j u K=>by rw[Go.WideShapes.add_plain];exact Z j u K)
section
attribute [local go_sem] Oper.semAt_some
def preB(p s:vB):Bool:=p.data.toList.isPrefixOf s.data.toList
theorem jnl:∀ (p s:vN),p.isPrefixOf s=(decide (p.length<=s.length) && (s.take p.length == p))
 | [],s=>by simp
 | x :: p,[]=>by simp
 | x :: p,y :: s=>by
  have q:=jnl p s;simp only[List.isPrefixOf,bU,fP,q,Nat.add_le_add_iff_right]
  by_cases h:x=y
  ·subst h;simp
  ·have:(y == x)=false:=by simpa using fun e=>h e.symm
   simp[h,this]
theorem juj(s:vB)(n:Nat):(s.extract 0 n).toList=s.data.toList.take n:=by
 rw[bR,fH,gA,fL];simp
theorem jjx(w:vW)(s p:vB)(hs:s.size<=1000000)(hp:p.size<=1000000):vQ 169 #[.string s,.string p] w fun e w'=>e=.returned (.bool (preB p s))/\w'=w:=by
 have q:=jnl p.data.toList s.data.toList;have A:p.data.toList.length=p.size:=rfl;have H:s.data.toList.length=s.size:=rfl;rw[A,H, <-juj]at q;have q:preB p s=_:=q
 by_cases hl:p.size<=s.size
 ·have J:(p.size:Int)<=(s.size:Int):=vO
  have K:¬(s.size:Int) < (p.size:Int):=vO
  have O:((p.size:Int)).toNat=p.size:=vO
  rw[decide_eq_true hl,Bool.true_and, <-bR]at q;rw[q];clear q A H;unfold vQ;go_in;go_wp2_with fail
  go_ret
  exact⟨rfl,rfl⟩
 ·have J:(s.size:Int) < (p.size:Int):=vO
  rw[decide_eq_false hl,Bool.false_and]at q;rw[q];clear q A H;unfold vQ;go_in;go_wp2_with fail
  go_ret
  exact⟨rfl,rfl⟩
theorem jdY(w:vW)(s p:vB)(hs:s.size<=1000000)(hp:p.size<=1000000):vQ 118 #[.string s,.string p] w fun e w'=>e=.returned (.bool (preB p s))/\w'=w:=by
 unfold vQ;go_in;go_wp2_with fail
 refine (jjx w s p hs hp).mono ?_;rintro e w1 ⟨rfl,rfl⟩;go_wp2_with fail
 go_ret
 exact⟨rfl,rfl⟩
theorem juL{T:TypeId}{xs:List vV}(h:W.ownsRow B T sz v n xs)(hb:v.ownBlock=some b):b < W.heap.size:=by
 obtain⟨K,q |⟨g,A,H,q,O,J,X⟩⟩:=h
 ·rw[q.1]at hb;cases hb
 ·rw[q]at hb
  have e:some g=some b:=hb;obtain rfl:=bP e;exact (cX.1 J).1
end
def jgO(n:jae)(p:vB):vB × vB:=
 if n.kind=3 then match p.data.toList with
  | []=>(⟨#[]⟩,p)
  | x :: _=>if (n.refs.getD x.toNat ⟨#[]⟩).size=0 then (⟨#[]⟩,p)else (n.refs.getD x.toNat ⟨#[]⟩,p.extract 1 p.size)
 else if n.kind=2 then if preB n.path p then (n.refs.getD 0 ⟨#[]⟩,p.extract n.path.size p.size)else (⟨#[]⟩,p)
 else (⟨#[]⟩,p)
def jdc(n:jae)(p:vB):Option vB:=
 if n.kind=1 then if n.path=p then some n.value else none
 else if n.kind=3 then if p.size=0/\n.value.size≠0 then some n.value else none
 else none
def bigs(t:vB):vM:=if t.size < 32 then []else [t]
theorem jrg(a p:vB):preB a p=true↔∃ r,p.data.toList=a.data.toList++r:=by
 unfold preB;rw[List.isPrefixOf_iff_prefix]
 exact⟨fun ⟨r,h⟩=>⟨r,h.symm⟩,fun ⟨r,h⟩=>⟨r,h.symm⟩⟩
theorem jn2(b:vB)(k:Nat):(b.extract k b.size).data.toList=b.data.toList.drop k:=jdE b k b.size (bL _)
theorem jbp(b:vB):b.data.toList.length=b.size:=rfl
theorem ji1(t:vB):(bigs t).length<=1:=by unfold bigs;split <;> simp
def jiB(vs:List (jae × vB)):Option vB:=match vs.getLast? with | some (n,p)=>jdc n p | none=>none
def ju6(k:Nat)(pa:vB)(rs:vM)(p r q:vB):Prop:=
 (k=2/\preB pa p=true/\rs[0]?=some r/\q=p.extract pa.size p.size/\pa.size<=p.size) \/
 (k=3/\∃ x t,p.data.toList=x :: t/\rs[x.toNat]?=some r/\q=p.extract 1 p.size)
def jxp(k:Nat)(pa va:vB)(rs:vM)(p:vB):Prop:=
 k=0\/(k=1/\pa≠p)\/(k=2/\preB pa p=false)\/(k=3/\p=⟨#[]⟩/\va=⟨#[]⟩)\/(k=3/\∃ x t,p.data.toList=x :: t/\rs[x.toNat]?=some ⟨#[]⟩)
def jxo(k:Nat)(pa va:vB)(p u:vB):Prop:=(k=1/\pa=p/\va=u)\/(k=3/\p=⟨#[]⟩/\va=u/\va.size≠0)
theorem jlo(h:i < rs.length):rs[i]?=some (rs.getD i ⟨#[]⟩):=by
 rw[bJ,bB h];rfl
theorem jni{k:Nat}(hg:jaW (InlD d) ⟨k,pa,va,rs⟩){p r q:vB}(hp:jaE p=true)(e:jgO ⟨k,pa,va,rs⟩ p=(r,q))(hr:r.size≠0):ju6 k pa rs p r q:=by
 have H:=hg.one (inlP d);have A:rs.length=16:=H.refs;unfold jgO at e
 by_cases h3:k=3
 ·subst h3
  rw[if_pos rfl]at e;cases hpl:p.data.toList with
  | nil=>rw[hpl]at e;exact absurd (congrArg ByteArray.size (Prod.mk.inj e).1.symm) hr
  | cons x t =>
   rw[hpl]at e;have e:(if (rs.getD x.toNat ⟨#[]⟩).size=0 then (⟨#[]⟩,p)else (rs.getD x.toNat ⟨#[]⟩,p.extract 1 p.size))=(r,q):=e
   by_cases h0:(rs.getD x.toNat ⟨#[]⟩).size=0
   ·rw[if_pos h0]at e;exact absurd (congrArg ByteArray.size (Prod.mk.inj e).1.symm) hr
   ·rw[if_neg h0]at e
    obtain⟨rfl,rfl⟩:=Prod.mk.inj e
    exact .inr ⟨rfl,x,t,hpl,jlo (by rw[A];exact jhF (p:=(p,p)) hp hpl),rfl⟩
 ·rw[if_neg (show ¬(jae.mk k pa va rs).kind=3 from h3)]at e
  by_cases h2:k=2
  ·subst h2
   rw[if_pos rfl]at e
   by_cases hpre:preB pa p=true
   ·rw[if_pos (show preB (jae.mk 2 pa va rs).path p=true from hpre)]at e
    obtain⟨rfl,rfl⟩:=Prod.mk.inj e
    refine .inl ⟨rfl,hpre,jlo (by rw[A];omega),rfl,?_⟩
    obtain⟨s,e⟩:=(jrg _ _).1 hpre
    rw[<-jbp p,e,bI,jbp];omega
   ·rw[if_neg (show ¬ preB (jae.mk 2 pa va rs).path p=true from hpre)]at e;exact absurd (congrArg ByteArray.size (Prod.mk.inj e).1.symm) hr
  ·rw[if_neg (show ¬(jae.mk k pa va rs).kind=2 from h2)]at e;exact absurd (congrArg ByteArray.size (Prod.mk.inj e).1.symm) hr
theorem jwC{k:Nat}(hg:jaW (InlD d) ⟨k,pa,va,rs⟩){p q:vB}(hp:jaE p=true)(A:jgO ⟨k,pa,va,rs⟩ p=(⟨#[]⟩,q))(H:jdc ⟨k,pa,va,rs⟩ p=none):jxp k pa va rs p:=by
 have K:=hg.one (inlP d);have X:rs.length=16:=K.refs;have Z:k<=3:=K.kind;unfold jgO at A;unfold jdc at H
 by_cases h3:k=3
 ·subst h3
  rw[if_pos rfl]at A;rw[if_neg (show ¬(3:Nat)=1 by decide),if_pos rfl]at H;cases hpl:p.data.toList with
  | nil =>
   have J:p.size=0:=by rw[<-jbp p,hpl];rfl
   refine .inr (.inr (.inr (.inl ⟨rfl,ja5 J,ja5 ?_⟩)))
   by_cases hv:va.size=0
   ·exact hv
   ·have H:(if p.size=0/\va.size≠0 then some va else none)=none:=H
    rw[if_pos ⟨J,hv⟩]at H;cases H
  | cons x t =>
   rw[hpl]at A;have A:(if (rs.getD x.toNat ⟨#[]⟩).size=0 then (⟨#[]⟩,p)else (rs.getD x.toNat ⟨#[]⟩,p.extract 1 p.size))=(⟨#[]⟩,q):=A;have O:(rs.getD x.toNat ⟨#[]⟩).size=0:=by
    by_cases O:(rs.getD x.toNat ⟨#[]⟩).size=0
    ·exact O
    ·rw[if_neg O]at A;exact congrArg ByteArray.size (Prod.mk.inj A).1
   exact .inr (.inr (.inr (.inr ⟨rfl,x,t,hpl,by rw[jlo (by rw[X];exact jhF (p:=(p,p)) hp hpl),ja5 O]⟩)))
 ·rw[if_neg (show ¬(jae.mk k pa va rs).kind=3 from h3)]at A
  by_cases h2:k=2
  ·subst h2
   rw[if_pos rfl]at A
   by_cases hpre:preB pa p=true
   ·rw[if_pos (show preB (jae.mk 2 pa va rs).path p=true from hpre)]at A
    have e:=(Prod.mk.inj A).1;cases hg with
    | ext p r a1 a2 a3=>exact absurd (congrArg ByteArray.size e) a2
   ·exact .inr (.inr (.inl ⟨rfl,by simpa using hpre⟩))
  ·by_cases K:k=1
   ·subst K
    rw[if_pos rfl]at H
    by_cases he:pa=p
    ·have H:(if pa=p then some va else none)=none:=H
     rw[if_pos he]at H;cases H
    ·exact .inr (.inl ⟨rfl,he⟩)
   ·exact .inl vO
theorem jwB{k:Nat}{p u:vB}(e:jdc ⟨k,pa,va,rs⟩ p=some u):jxo k pa va p u:=by
 unfold jdc at e
 by_cases h1:k=1
 ·subst h1
  rw[if_pos rfl]at e;have e:(if pa=p then some va else none)=some u:=e
  by_cases he:pa=p
  ·rw[if_pos he]at e;exact .inl ⟨rfl,he,bP e⟩
  ·rw[if_neg he]at e;cases e
 ·rw[if_neg (show ¬(jae.mk k pa va rs).kind=1 from h1)]at e
  by_cases h3:k=3
  ·subst h3
   rw[if_pos rfl]at e;have e:(if p.size=0/\va.size≠0 then some va else none)=some u:=e
   by_cases he:p.size=0/\va.size≠0
   ·rw[if_pos he]at e;exact .inr ⟨rfl,ja5 he.1,bP e,he.2⟩
   ·rw[if_neg he]at e;cases e
  ·rw[if_neg (show ¬(jae.mk k pa va rs).kind=3 from h3)]at e;cases e
theorem jtT{p:vB}(h:preB a p=true):a.size<=p.size:=by
 obtain⟨s,e⟩:=(jrg _ _).1 h
 rw[<-jbp p,e,bI,jbp];omega
theorem jcT{p:vB}{x:vU}(h:p.data.toList=x :: t):∃ h0:0 < p.size,p[0]=x:=by
 obtain⟨⟨l⟩⟩:=p
 have h:l=x :: t:=h;subst h
 exact⟨Nat.succ_pos _,rfl⟩
inductive PA where
 | nil
 | no
 | leaf (path value:vB)
 | ext (path:vB) (next:PA)
 | br (value:vB) (kids:Nat->PA)
def PA.isNil:PA->Bool | .nil=>true | _=>false
def PA.isNo:PA->Bool | .no=>true | _=>false
def jbT(a:vB)(P:PA):PA:=if a.size=0 then P else match P with
 | .leaf q v=>.leaf (a++q) v
 | .ext q n=>.ext (a++q) n
 | .br v ks=>.ext a (.br v ks)
 | _=>.no
def setK(ks:Nat->PA)(i:Nat)(P:PA):Nat->PA:=fun j=>if j=i then P else ks j
def jao(p:vB):Nat:=(p.data.toList.headD 0).toNat
def jbc(p:vB):vB:=p.extract 1 p.size
def addK:PA->vB->vB->PA
 | .br v ks,p,u=>if p.size=0 then .br u ks else .br v (setK ks (jao p) (.leaf (jbc p) u))
 | P,_,_=>P
theorem jb8(v:vB)(ks:Nat->PA)(p u:vB):addK (.br v ks) p u=if p.size=0 then .br u ks else .br v (setK ks (jao p) (.leaf (jbc p) u)):=rfl
theorem ff:¬(false=true):=by decide
def putP:PA->vB->vB->PA
 | .nil,p,u=>.leaf p u
 | .no,p,u=>.leaf p u
 | .leaf q v,p,u=>if p=q then .leaf p u else
   jbT (p.extract 0 (jar q p)) (addK (addK (.br ⟨#[]⟩ fun _=>.nil) (q.extract (jar q p) q.size) v) (p.extract (jar q p) p.size) u)
 | .ext q n,p,u=>if jar q p=q.size then jbT q (putP n (p.extract (jar q p) p.size) u)else
   jbT (p.extract 0 (jar q p)) (addK (.br ⟨#[]⟩ (setK (fun _=>.nil) (jao (q.extract (jar q p) q.size)) (jbT (q.extract (jar q p+1) q.size) n))) (p.extract (jar q p) p.size) u)
 | .br v ks,p,u=>if p.size=0 then .br u ks else .br v (setK ks (jao p) (putP (ks (jao p)) (jbc p) u))
def idxK(ks:Nat->PA):List Nat:=(List.range 16).filter fun i => !(ks i).isNil
def jcG(v:vB)(ks:Nat->PA):PA:=match idxK ks with
 | []=>if v.size=0 then .no else .leaf ⟨#[]⟩ v
 | [i]=>if v.size=0 then jbT ⟨#[UInt8.ofNat i]⟩ (ks i)else .br v ks
 | _=>.br v ks
def unNo(P:PA):PA:=if P.isNo then .nil else P
def jbh:PA->vB->PA
 | .nil,_=>.no
 | .no,_=>.no
 | .leaf q v,p=>if p=q then .no else .leaf q v
 | .ext q n,p=>if preB q p then jbT q (jbh n (p.extract q.size p.size))else .ext q n
 | .br v ks,p=>if p.size=0 then jcG ⟨#[]⟩ ks else if (ks (jao p)).isNil then .br v ks else jcG v (setK ks (jao p) (unNo (jbh (ks (jao p)) (jbc p))))
theorem jxx(a b:vB):(a++b).data.toList=a.data.toList++b.data.toList:=by
 simp[dL]
theorem jcW{P:PA}(h:P.isNil=true):P=.nil:=by cases P <;> first | rfl | cases h
theorem jvK{P:PA}(h:P.isNo=true):P=.no:=by cases P <;> first | rfl | cases h
theorem jd4(h:a.size≠0):∃ x t,a.data.toList=x :: t:=by
 cases e:a.data.toList with
 | nil=>rw[<-jbp,e]at h;exact (h rfl).elim
 | cons x t=>exact⟨x,t,rfl⟩
theorem jcV{p:vB}{x:vU}(h:p.data.toList=x :: t):jao p=x.toNat/\(jbc p).data.toList=t:=by
 refine⟨by unfold jao;rw[h];rfl,?_⟩
 unfold jbc;rw[jn2,h];rfl
theorem jnn{x y:vU}(h:x≠y):x.toNat≠y.toNat:=fun e=>h (fV.1 e)
theorem jgC(a b:vN):∃ a' b',a=a.take (jbs a b)++a'/\b=a.take (jbs a b)++b'/\a'=a.drop (jbs a b)/\b'=b.drop (jbs a b)/\(∀ x s y t,a'=x :: s->b'=y :: t->x≠y):=by
 obtain⟨q,J,K⟩:=jbM a b
 refine⟨_,_,(dJ _ _).symm,?_,rfl,rfl,?_⟩
 ·rw[q,dJ]
 ·intro x s y t A H e
  have h:=jhg a b;rw[A,H,e]at h;simp[jbs]at h
theorem jyH(p:vB)(k:Nat):(p.extract 0 k).data.toList=p.data.toList.take k:=by
 simp[fH]
theorem jfT:jaE s=true↔∀ x∈s.data.toList,x.toNat < 16:=by
 unfold jaE;rw[dI];constructor
 ·intro h x e
  have q:=h x e;simp only[decide_eq_true_eq,fB]at q
  have:(15:vU).toNat=15:=rfl
  omega
 ·intro h x e
  have q:=h x e;simp only[decide_eq_true_eq,fB]
  have:(15:vU).toNat=15:=rfl
  omega
theorem jk5{b:vB}(h:jaE a=true)(k:jaE b=true):jaE (a++b)=true:=by
 rw[jfT]at *;intro x q;rw[jxx]at q;rcases bQ.1 q with e | e
 ·exact h x e
 ·exact k x e
theorem jiZ(h:jaE a=true)(k:Nat):jaE (a.extract 0 k)=true:=by
 rw[jfT]at *;intro x e;rw[jyH]at e;exact h x (iA e)
theorem jcA(h:jaE a=true):jaE (jbc a)=true:=jbb h 1 _
theorem jgj{p:vB}(h:jaE p=true)(h0:p.size≠0):jao p < 16:=by
 obtain⟨x,t,e⟩:=jd4 h0
 rw[(jcV e).1];exact jfT.1 h x (by rw[e];exact cJ)
theorem jcR(a b:vB):(a++b).size=a.size+b.size:=by
 rw[<-jbp,jxx,bI,jbp,jbp]
theorem jcr(ks:Nat->PA)(i:Nat)(P:PA):setK ks i P i=P:=if_pos rfl
theorem jd3(ks:Nat->PA)(P:PA)(h:j≠i):setK ks i P j=ks j:=if_neg h
theorem jtD(h:i < 16):(UInt8.ofNat i).toNat=i:=by rw[UInt8.toNat_ofNat'];omega
section
attribute [local go_sem] Oper.semAt_some
structure Pl5 where
 path:vB
 value:vB
 ref:vB
def jcX(p:vB):Bool:=p.size % 2 == 0 && jaE p
def nib1(i:Nat):vB:=⟨#[UInt8.ofNat i]⟩
def keyV(p:vB):vV:=.tuple #[.string (if jcX p=true then jbF p else ⟨#[]⟩),.bool (jcX p)]
theorem jlt(w:vW)(p:vB)(hs:p.size<=1000000):vR 184 #[.string p] w (keyV p):=by
 by_cases h2:p.size % 2=0
 ·have H:(p.size:Int) % 2=0:=vO
  cases hv:jaE p with
  | true =>
   have q:jcX p=true:=by unfold jcX;rw[hv,h2];rfl
   have A:keyV p=.tuple #[.string (jbF p),.bool true]:=by unfold keyV;rw[q];rfl
   rw[A];clear q A;unfold vR vQ;go_in;go_wp2_with fail
   refine (jjL w p vO).mono ?_;rintro e w1 ⟨rfl,rfl⟩;rw[hv];go_wp2_with fail
   refine vC (jlD w1 p hs) fun K J=>?_;go_wp2_with fail
   go_ret2
   exact⟨rfl,J⟩
  | false =>
   have q:jcX p=false:=by unfold jcX;rw[hv,h2];rfl
   have A:keyV p=.tuple #[.string ⟨#[]⟩,.bool false]:=by unfold keyV;rw[q];rfl
   rw[A];clear q A;unfold vR vQ;go_in;go_wp2_with fail
   refine (jjL w p vO).mono ?_;rintro e w1 ⟨rfl,rfl⟩;rw[hv];go_wp2_with fail
   go_ret2
   exact⟨rfl,ExtR w1⟩
 ·have H:¬(p.size:Int) % 2=0:=vO
  have q:jcX p=false:=by unfold jcX;rw[show (p.size % 2 == 0)=false by simpa using h2];rfl
  have A:keyV p=.tuple #[.string ⟨#[]⟩,.bool false]:=by unfold keyV;rw[q];rfl
  have O:((p.size:Int) % 2 != 0)=true:=by simpa using H
  rw[A];clear q A;unfold vR vQ;go_in;go_wp2_with fail
  go_ret2
  exact⟨rfl,ExtR w⟩
def plV(p:Pl5):List vV:=[.string p.path,.string p.value,.string p.ref]
theorem Tryz.uPls:Tryz.prog.underlying 288=some (.slice 368):=vY
theorem Tryz.infoPl:(Tryz.prog.info? 368).map (fun i=>(i.zero,i.size,i.bytes))=some (some (.agg #[.string ⟨#[]⟩,.string ⟨#[]⟩,.string ⟨#[]⟩]),3,48):=vY
theorem Tryz.sPls:jcw Tryz.prog 288 368 3 48:=jcw.mk' Tryz.uPls Tryz.infoPl rfl vI
def bare(W:vW):vW:={ W with heap:=#[] }
theorem jsj(W:vW):Ext (bare W) W:=⟨rfl,rfl,rfl,cB _,fun b hb=>absurd hb (Nat.not_lt_zero b)⟩
theorem ORow.any{T:TypeId}{xs:List vV}(h:W.ownsRow 0 T sz v n xs):ORow T sz (bare W) W v n xs:=⟨jaD h,h,jsj W,fun _ _=>cB _⟩
theorem jwd(p:Pl5):∀ u∈plV p,u.oneCell'=true:=by
 intro u e;simp only[plV,bZ,gW,or_false]at e;rcases e with rfl | rfl | rfl <;> rfl
end
def sumF(g:Nat->Nat):Nat->Nat
 | 0=>0
 | n+1=>sumF g n+g n
noncomputable def putN(n:jae):vB:=@ite _ (∃ d,jaW (InlD d) n) (Classical.propDecidable _) (jaV n) ⟨#[]⟩
theorem jeC{n:jae}(h:jaW (InlD d) n):putN n=jaV n:=if_pos ⟨d,h⟩
theorem jjy{n:jae}(h:¬ ∃ d,jaW (InlD d) n):putN n=⟨#[]⟩:=if_neg h
noncomputable def textP:PA->vB
 | .nil=>⟨#[]⟩
 | .no=>putN jas
 | .leaf q v=>putN ⟨1,q,v,jaw 16⟩
 | .ext q n=>putN ⟨2,q,⟨#[]⟩,refB (textP n) :: jaw 15⟩
 | .br v ks=>putN ⟨3,⟨#[]⟩,v,(List.range 16).map fun i=>if (ks i).isNil then ⟨#[]⟩else refB (textP (ks i))⟩
noncomputable def nodeP:PA->jae
 | .nil=>jas
 | .no=>jas
 | .leaf q v=>⟨1,q,v,jaw 16⟩
 | .ext q n=>⟨2,q,⟨#[]⟩,refB (textP n) :: jaw 15⟩
 | .br v ks=>⟨3,⟨#[]⟩,v,(List.range 16).map fun i=>if (ks i).isNil then ⟨#[]⟩else refB (textP (ks i))⟩
noncomputable def underP:PA->vM
 | .nil=>[]
 | .no=>[]
 | .leaf _ _=>[]
 | .ext _ n=>bigs (textP n)++underP n
 | .br _ ks=>(List.range 16).flatMap fun i=>if (ks i).isNil then []else bigs (textP (ks i))++underP (ks i)
theorem jrP{P:PA}(h:P.isNil=false):textP P=putN (nodeP P):=by cases P <;> first | rfl | cases h
def keyR(p v:vB):vL:=if jcX p=true then [(jbF p,v)]else []
def entP:PA->vB->vL
 | .nil,_=>[]
 | .no,_=>[]
 | .leaf q v,p=>keyR (p++q) v
 | .ext q n,p=>entP n (p++q)
 | .br v ks,p=>(if v.size=0 then []else keyR p v)++(List.range 16).flatMap fun i=>if (ks i).isNil then []else entP (ks i) (p++nib1 i)
section
attribute [local go_sem] Oper.semAt_some
theorem jja{m:Nat}{a:Act}{o:Oper}(ho:execOp a.eval o=(do pure (.value (<-convert 211 9 (.slice (some ⟨w2.heap.size,0,none⟩) 1 1)))))
  (h:jac F (w2.alloc (.cells #[.int .u8 (m:Int)] 5)) w3) (hF:¬ F w2.heap.size) (hm:m < 16):(execOp a.eval o).run Tryz.prog w3=.ok (.value (.string (nib1 m))) w3:=by
 have q:=(Blk.new w2 (.cells #[.int .u8 (m:Int)] 5)).keeps h hF;have e:(m:Int)=((UInt8.ofNat m).toNat:Int):=by rw[joE m vO]
 have A:w3.ownsRow 0 5 1 (.slice (some ⟨w2.heap.size,0,none⟩) 1 1) 1 (jaB [UInt8.ofNat m]):=
  ⟨rfl,.inr ⟨_,1,_,rfl,cB _,q,bL _,by unfold maxLen;omega,rfl,by rw[e];rfl⟩⟩
 have H:=jby w3 Tryz.uBytes Tryz.uU8 Tryz.uStr A;rw[ho,bK,H];rfl
end
abbrev Key:=vN
abbrev EntK:=Ent Key
def kvE(x:EntK):Key × vV:=(x.1,x.2.1)
def getV(m:List (Key × vV))(k:Key):Option vV:=(m.find? fun x=>decide (k=x.1)).map (·.2)
def putV:List (Key × vV)->Key->vV->List (Key × vV)
 | [],k,v=>[(k,v)]
 | x :: r,k,v=>if k=x.1 then (k,v) :: r else x :: putV r k v
def delV:List (Key × vV)->Key->List (Key × vV)
 | [],_=>[]
 | x :: r,k=>if k=x.1 then r else x :: delV r k
structure MapV(es:List EntK)(ck:Nat)(m:List (Key × Value)):Prop where
 same:es.map kvE=m
 born:(es.map (·.2.2)).Nodup
 lt:∀ x∈es,x.2.2 < ck
 keys:(m.map (·.1)).Nodup
theorem MapV.nil(ck:Nat):MapV [] ck []:=⟨rfl,by simp,by simp,by simp⟩
theorem MapV.len{es:List EntK}{m:List (Key × vV)}(h:MapV es ck m):es.length=m.length:=by rw[<-h.same];simp
theorem juE(k:Key):∀ es:List EntK,jay es k=getV (es.map kvE) k
 | []=>rfl
 | x :: r=>by
  have e:=juE k r;unfold getV jay at *;rw[bN,fW,fW]
  by_cases h:k=x.1
  ·simp[h,kvE]
  ·simp[h,kvE]at e ⊢;exact e
theorem MapV.get{es:List EntK}{m:List (Key × vV)}(h:MapV es ck m)(k:Key):jay es k=getV m k:=by rw[juE,h.same]
theorem jrh(k:Key)(v:vV)(n:Nat):∀ es:List EntK,(jba es k v n).map kvE=putV (es.map kvE) k v
 | []=>rfl
 | x :: r=>by
  unfold jba;rw[bN,putV]
  by_cases h:k=x.1
  ·rw[if_pos h,if_pos (show k=(kvE x).1 from h),bN];rfl
  ·rw[if_neg h,if_neg (show ¬ k=(kvE x).1 from h),bN,jrh k v n r]
theorem jux(k:Key):∀ es:List EntK,(jbS es k).map kvE=delV (es.map kvE) k
 | []=>rfl
 | x :: r=>by
  unfold jbS;rw[bN,delV]
  by_cases h:k=x.1
  ·rw[if_pos h,if_pos (show k=(kvE x).1 from h)]
  ·rw[if_neg h,if_neg (show ¬ k=(kvE x).1 from h),bN,jux k r]
theorem jkp(x:EntK)(r:List EntK)(k:Key):jay (x :: r) k=if k=x.1 then some x.2.1 else jay r k:=by
 by_cases h:k=x.1 <;> simp[jay,h]
theorem jkK(k:Key)(v:vV)(n:Nat):∀ es:List EntK,(jba es k v n).map (·.2.2)=if (jay es k).isSome then es.map (·.2.2)else es.map (·.2.2)++[n]
 | []=>rfl
 | x :: r=>by
  unfold jba;rw[jkp]
  by_cases h:k=x.1
  ·rw[if_pos h,if_pos h];simp
  ·rw[if_neg h,if_neg h,bN,jkK k v n r]
   cases (jay r k).isSome <;> simp
theorem jkL(k:Key)(v:vV):∀ m:List (Key × vV),(putV m k v).map (·.1)=if k∈m.map (·.1)then m.map (·.1)else m.map (·.1)++[k]
 | []=>rfl
 | x :: r=>by
  rw[putV]
  by_cases h:k=x.1
  ·rw[if_pos h,if_pos (by simp[h])];simp[h]
  ·rw[if_neg h,bN,jkL k v r]
   by_cases h2:k∈r.map (·.1)
   ·rw[if_pos h2,if_pos (by rw[bN];exact bW _ h2)];rfl
   ·rw[if_neg h2,if_neg (by rw[bN,bZ];exact fun e=>e.elim h h2)];rfl
theorem MapV.put{es:List EntK}{m:List (Key × vV)}(h:MapV es ck m)(k:Key)(v:vV):MapV (jba es k v ck) (if (jay es k).isSome then ck else ck+1) (putV m k v):=by
 have hb:=jkK k v ck es
 refine⟨by rw[jrh,h.same],?_,?_,?_⟩
 ·rw[hb]
  split
  ·exact h.born
  ·rw[dR]
   refine⟨h.born,by simp,fun a A b hb e=>?_⟩
   obtain⟨x,H,K⟩:=bD.1 A
   have:=h.lt x H
   simp at hb;omega
 ·intro x H
  have q:x.2.2∈(jba es k v ck).map (·.2.2):=bD.2 ⟨x,H,rfl⟩;rw[hb]at q;split at q
  ·rename_i hs
   rw[if_pos hs]
   obtain⟨y,J,e⟩:=bD.1 q
   rw[<-e];exact h.lt y J
  ·rename_i hs
   rw[if_neg hs];rcases bQ.1 q with q | q
   ·obtain⟨y,J,e⟩:=bD.1 q
    have:=h.lt y J;omega
   ·simp at q;omega
 ·rw[jkL]
  split
  ·exact h.keys
  ·rename_i hn
   rw[dR]
   exact⟨h.keys,by simp,fun a A b hb e=>by simp at hb;subst hb;subst e;exact hn A⟩
theorem jmk(k:Key):∀ es:List EntK,(jbS es k).Sublist es
 | []=>List.Sublist.refl _
 | x :: r=>by
  unfold jbS;split
  ·exact iM _ _
  ·exact (jmk k r).cons_cons _
theorem jmm(k:Key):∀ m:List (Key × vV),(delV m k).Sublist m
 | []=>List.Sublist.refl _
 | x :: r=>by
  unfold delV;split
  ·exact iM _ _
  ·exact (jmm k r).cons_cons _
theorem MapV.del{es:List EntK}{m:List (Key × vV)}(h:MapV es ck m)(k:Key):MapV (jbS es k) ck (delV m k):=by
 have e:=jmk k es
 exact⟨by rw[jux,h.same],h.born.sublist (e.map _),fun x q=>h.lt x (e.subset q),h.keys.sublist ((jmm k m).map _)⟩
structure It where
 text:vB
 refs:vM
 used:Int
 held:Int
abbrev Nd5:=Key × Nat × It
abbrev vT:=List Nd5
theorem Tryz.uMapIt:Tryz.prog.underlying 121=some (.map 9 131):=vY
theorem Tryz.zeroIt(w:vW):(zeroValue 131).run Tryz.prog w=.ok (.pointer none) w:=vY
structure jea(W:World)(b:Nat)(it:It):Prop where
 cells:∃ rv,Blk W b (.cells #[.string it.text,rv,.int .i64 it.used,.int .i64 it.held] 133)/\W.ownsRow 0 9 1 rv it.refs.length (it.refs.map Value.string)
def jdx(W:vW)(F:BSet):Prop:=∀ b cur fz,F b->¬ Blk W b (.cells cur 9 fz)
theorem jdx.none(W:vW):jdx W (fun _=>False):=fun _ _ _ h=>h.elim
theorem jcp{xs:List vV}(h:W.ownsRow 0 9 1 v n xs)(k:jac F W W')(hF:jdx W F):W'.ownsRow 0 9 1 v n xs:=by
 refine jaL h k fun b hb H=>?_
 obtain⟨_,⟨q,_⟩ |⟨g,J,A,q,_,K,_⟩⟩:=h
 ·rw[q]at hb;cases hb
 ·rw[q]at hb
  have e:some g=some b:=hb;obtain rfl:=bP e;exact hF g A (0,0) H K
theorem jea.keeps{it:It}(h:jea W b it)(k:jac F W W')(hb:¬ F b)(hF:jdx W F):jea W' b it:=by
 obtain⟨e,q,A⟩:=h.cells
 exact⟨e,q.keeps k hb,jcp A k hF⟩
theorem jea.lt{it:It}(h:jea W b it):b < W.heap.size:=by obtain⟨q,e,_⟩:=h.cells;exact e.lt
def kvN(x:Nd5):Key × vV:=(x.1,.pointer (some ⟨x.2.1,0,none⟩))
structure jcj(W:World)(bm:Nat)(L:vT):Prop where
 mp:∃ es ck,Blk W bm (.map (Tryz.ES.arr es) ck)/\MapV es ck (L.map kvN)
 blks:(L.map (·.2.1)).Nodup
 items:∀ x∈L,jea W x.2.1 x.2.2
theorem jcj.keeps{L:vT}(h:jcj W bm L)(k:jac F W W')(hm:¬ F bm)(hL:∀ x∈L,¬ F x.2.1)(hF:jdx W F):jcj W' bm L:=by
 obtain⟨q,A,H,J⟩:=h.mp
 exact⟨⟨q,A,H.keeps k hm,J⟩,h.blks,fun x e=>(h.items x e).keeps k (hL x e) hF⟩
theorem jcj.ext{L:vT}(h:jcj W bm L)(k:Ext W W'):jcj W' bm L:=h.keeps k (fun h=>h) (fun _ _ h=>h) (jdx.none W)
def atL(L:vT)(k:Key):Option Nd5:=L.find? fun x=>decide (k=x.1)
theorem jqf(k:Key):∀ L:vT,getV (L.map kvN) k=(atL L k).map fun x=>.pointer (some ⟨x.2.1,0,none⟩)
 | []=>rfl
 | x :: r=>by
  have e:=jqf k r;unfold getV atL at *;rw[bN,fW,fW]
  by_cases h:k=x.1
  ·simp[h,kvN]
  ·simp[h,kvN]at e ⊢;exact e
theorem jaF{L:vT}{k:Key}{x:Nd5}(h:atL L k=some x):x∈L/\x.1=k:=by
 unfold atL at h;have e:=List.find?_some h
 exact⟨List.mem_of_find?_eq_some h,(of_decide_eq_true e).symm⟩
def ptrO(o:Option Nd5):vV:=match o with | some x=>.pointer (some ⟨x.2.1,0,none⟩) | none=>.pointer none
theorem jcj.look{L:vT}(h:jcj W bm L)(k:vB)(ok:Bool) :
  (Instr.lookup 121 (.map (some bm)) (.string k) ok).run Tryz.prog W=.ok (if ok then .tuple #[ptrO (atL L k.data.toList),.bool (atL L k.data.toList).isSome]else ptrO (atL L k.data.toList)) W:=by
 obtain⟨A,H,e,q⟩:=h.mp
 have:=jbQ Tryz.ES Tryz.uMapIt e (Tryz.zeroIt W) k.data.toList ok
 rw[q.get,jqf]at this;cases ha:atL L k.data.toList with
 | none=>rw[ha]at this;exact this
 | some x=>rw[ha]at this;exact this
structure jax(W:World)(s bm:Nat)(room:Int)(L:vT):Prop where
 st:Blk W s (.cells #[.int .i64 room,.map (some bm)] 123)
 mp:jcj W bm L
theorem jax.ext{s:Nat}{room:Int}{L:vT}(h:jax W s bm room L)(k:Ext W W'):jax W' s bm room L:=⟨h.st.keeps k (fun h=>h),h.mp.ext k⟩
theorem jfR(w:vW)(s bm:Nat)(room:Int)(L:vT)(k:vB)(h:jax w s bm room L):vR 89 #[.pointer (some ⟨s,0,none⟩),.string k] w (optV ((atL L k.data.toList).map (·.2.2.text))):=by
 have H:=h.st.cell (i:=1) (v:=.map (some bm)) vF;have e:=h.mp.look k true;have A:=Hd h.mp.items;simp only[if_true]at e;clear h;cases ha:atL L k.data.toList with
 | none =>
  rw[ha]at e;unfold ptrO at e;simp only[Option.isSome]at e;clear ha;unfold vR vQ;go_in;go_wp2_with fail
  go_ret2
  exact⟨rfl,ExtR w⟩
 | some x =>
  rw[ha]at e
  obtain⟨J,q,_⟩:=(A.o x (jaF ha).1).cells
  have K:=q.cell (i:=0) (v:=.string x.2.2.text) vF;unfold ptrO at e;simp only[Option.isSome]at e;clear ha q;unfold vR vQ;go_in;go_wp2_with fail
  go_ret2
  exact⟨rfl,ExtR w⟩
def jqp(o:Option Nd5):Int:=match o with | some x=>x.2.2.held | none=>0
def jmf(o:Option Nd5):Int:=match o with | some x=>x.2.2.used+x.2.2.held | none=>0
section
attribute [local go_sem] Oper.semAt_some
theorem Tryz.infoS1:(Tryz.prog.info? 9).map (fun i=>(i.zero,i.size,i.bytes))=some (some (.string ⟨#[]⟩),1,16):=vY
theorem MapV.lenL{es:List EntK}{L:vT}(h:MapV es ck (L.map kvN)):es.length=L.length:=by rw[h.len];simp
theorem jwz(w:vW)(s bm:Nat)(room:Int)(L:vT)(h:jax w s bm room L)(h0:0<=room)(e:room<=9223372036854775807)(hl:L.length<=1000000):vR 60 #[.pointer (some ⟨s,0,none⟩)] w (.int .i64 (room - L.length)):=by
 have Z:=Hd (h.st.cell (i:=1) (v:=.map (some bm)) vF);have Q0:=Hd (h.st.cell (i:=0) (v:=.int .i64 room) vF)
 obtain⟨K,ck,O,q⟩:=h.mp.mp
 have HM:=Hd O
 obtain⟨n,H⟩:=vE L.length
 have A:K.length=n:=by rw[q.lenL,H]
 have J:=Hd A;rw[<-H]at hl ⊢;clear h O q A H;unfold vR vQ;go_in;go_wp2_with fail
 refine jaj [0,1,2,3,4,5,6,7,8,9,10] Ext ExtR ExtT vY vY vY ?_
 refine vK ?_
 refine qKV _ (.pointer (some ⟨s,0,none⟩)) rfl (fun w1 _=>by kernel_rfl) ?_;refine vS ?_
 refine vK ?_
 refine qKL ⟨s,0,none⟩ _ rfl (fun w1 e=>jab Tryz.underlying3 rfl (jaa Q0.o ((jak _).trans e))) ?_;refine vS ?_
 refine vK ?_
 refine qKV _ (.pointer (some ⟨s,0,none⟩)) rfl (fun w1 _=>by kernel_rfl) ?_;refine vS ?_
 refine vK ?_
 refine qKL ⟨s,1,none⟩ _ rfl (fun w1 e=>jab Tryz.underlying121 rfl (jaa Z.o ((jak _).trans e))) ?_;refine vS ?_;refine qKV _ (.int .i64 K.length) rfl (fun w1 e=>by
  have hx:=jfl Tryz.ES Tryz.uMapIt (HM.o.keeps ((jak _).trans e) (fun h=>h)) 3;simp[execOp,Act.eval,resolve,invoke,builtin,hx,bK,Result.andThen,cP]) ?_
 refine vS ?_;rw[J.o];iterate 2 refine vK ?_
 refine qKE (fun w3 X=>?_);have HE:=Hd ((jak _).trans X);clear X;go_wp2_with fail
 go_ret
 exact⟨rfl,HE.o⟩
theorem Tryz.makeMapIt(W:vW):(Instr.makeMap 121 none).run Tryz.prog W=.ok (.map (some W.heap.size)) (W.alloc (.map #[] 0)):=vY
theorem jyE(w:vW)(room:Int):vQ 26 #[.int .i64 room] w fun e w'=>∃ s bm,e=.returned (.pointer (some ⟨s,0,none⟩))/\Ext w w'/\jax w' s bm (max room 0) []/\w.heap.size<=bm/\w.heap.size<=s/\s≠bm:=by
 have q:=Tryz.makeMapIt;unfold vQ;go_in;go_wp2_with fail
 go_ret
 refine⟨_,_,rfl,((ExtR w).alloc _).alloc _,⟨?_,⟨[],0,?_,MapV.nil 0⟩,by simp,fun x A=>by cases A⟩,bL _,dV _,by omega⟩
 ·exact (by simpa using Blk.new (w.alloc (.map #[] 0)) (.cells #[.int .i64 (max room 0),.map (some w.heap.size)] 123))
 ·exact (Blk.new w (.map #[] 0)).alloc _
def slN(v:vV):Nat:=match v with | .slice _ n _=>n | _=>0
def ji2(s:List EntK):Array Nat:=(s.map (·.2.2)).toArray
def keyS(s:List EntK):List vV:=(s.map (·.1)).map encStr
structure HaS(w:World)(r bm ck:Nat)(es s:List EntK)(v:Value)(W:World):Prop where
 row:ORow 9 1 w W v s.length (keyS s)
 it:Blk W r (.mapIter (some bm) ck (ji2 s) ck)
 sub:∀ x∈s,x∈es
 nd:(s.map (·.2.2)).Nodup
 ne:∀ b,v.ownBlock=some b->b≠r
theorem jfH{α β:Type}(f:α->β):∀ {l:List α},(l.map f).Nodup->l.Nodup
 | [],_=>List.nodup_nil
 | x :: r,h=>by
  rw[bN,dP]at h;exact dP.2 ⟨fun e=>h.1 (bD.2 ⟨x,e,rfl⟩),jfH f h.2⟩
theorem HaS.len{es s:List EntK}(h:HaS w r bm ck es s v W):s.length<=es.length:=
 gZ (jfH _ h.nd) (fun x e=>h.sub x e)
theorem HaS.done{es s:List EntK}(h:HaS w r bm ck es s v W)(h0:jaA es (ji2 s)=[])(hb:(es.map (·.2.2)).Nodup):s.Perm es:=by
 refine (List.perm_ext_iff_of_nodup (jfH _ h.nd) (jfH _ hb)).2 fun x=>⟨fun q=>h.sub x q,fun q=>?_⟩
 by_cases hc:x.2.2∈s.map (·.2.2)
 ·obtain⟨y,A,e⟩:=bD.1 hc
  have:y=x:=jaG hb (h.sub y A) q e
  exact this ▸ A
 ·have:x∈jaA es (ji2 s):=cI.2 ⟨q,by unfold ji2;simpa using hc⟩
  rw[h0]at this;cases this
theorem MapV.keysL{es:List EntK}{L:vT}(h:MapV es ck (L.map kvN)):es.map (·.1)=L.map (·.1):=by
 have:=congrArg (List.map Prod.fst) h.same
 rw[cW,cW]at this;exact this
def jyU(w:vW)(r bm ck:Nat)(es:List EntK)(v:vV)(W:vW):Prop:=∃ s,HaS w r bm ck es s v W
end
noncomputable def itOf(t:vB):It:=⟨t,jaP (nodeOf t),0,0⟩
noncomputable def ky(t:vB):Key:=(shaB t).data.toList
noncomputable def addG(m:List (Key × It))(t:vB):List (Key × It):=if m.any (fun x=>decide (ky t=x.1))then m else m++[(ky t,itOf t)]
noncomputable def readG(L:vM):List (Key × It):=L.foldl addG []
def kvI(x:Nd5):Key × It:=(x.1,x.2.2)
theorem jeM{L:vT}{k:Key}:atL L k=none↔∀ x∈L,k≠x.1:=by
 unfold atL;rw[List.find?_eq_none];simp
theorem ju8{L:vT}{k:Key}:(L.map kvI).any (fun x=>decide (k=x.1))=(atL L k).isSome:=by
 rw[List.any_map];unfold atL;rw[List.isSome_find?];rfl
theorem jhp(k:Key)(v:vV)(n:Nat):∀ es:List EntK,jay es k=none->jba es k v n=es++[(k,v,n)]
 | [],_=>rfl
 | x :: r,h=>by
  rw[jkp]at h;unfold jba
  by_cases hk:k=x.1
  ·rw[if_pos hk]at h;cases h
  ·rw[if_neg hk]at h ⊢
   rw[jhp k v n r h];rfl
theorem jcj.put{L:vT}(h:jcj W bm L)(k:vB)(hk:atL L k.data.toList=none){it:It}(hb:jea W b it)(hn:∀ x∈L,x.2.1≠b) :
  ∃ o,(Instr.mapUpdate 121 (.map (some bm)) (.string k) (.pointer (some ⟨b,0,none⟩))).run Tryz.prog W=.ok () (W.putObj bm o)/\jcj (W.putObj bm o) bm (L++[(k.data.toList,b,it)]):=by
 obtain⟨es,O,J,X⟩:=h.mp
 have hg:jay es k.data.toList=none:=by rw[X.get,jqf,hk];rfl
 have A:=jbj Tryz.ES Tryz.uMapIt J k.data.toList (.pointer (some ⟨b,0,none⟩));have Z:=X.put k.data.toList (.pointer (some ⟨b,0,none⟩));rw[hg]at A Z;simp only[Option.isSome_none,cH,if_false]at A Z;have hK:jac (fun z=>z=bm) W (W.putObj bm (.map (Tryz.ES.arr (jba es k.data.toList (.pointer (some ⟨b,0,none⟩)) O)) (O+1))):=jac.onePut W bm _;have hN:jdx W (fun z=>z=bm):=fun z a0 fz e hz=>by
  have e:z=bm:=e;subst e
  have:=J.uniq hz;cases this
 have H:∀ {c:Nat} {i:It},jea W c i->¬ c=bm:=fun hi e=>by
  obtain⟨_,K,_⟩:=hi.cells
  subst e
  have:=J.uniq K;cases this
 refine⟨_,A,⟨_,_,J.put_same _,?_⟩,?_,?_⟩
 ·have e:putV (L.map kvN) k.data.toList (.pointer (some ⟨b,0,none⟩))=(L++[(k.data.toList,b,it)]).map kvN:=by
   rw[bY, <-X.same, <-jrh,jhp _ _ O _ hg,bY];rfl
  rw[<-e];exact Z
 ·rw[bY,dR]
  exact⟨h.blks,by simp,fun a ha c K e=>by
   simp at K;subst K;subst e
   obtain⟨x,q,e⟩:=bD.1 ha
   exact hn x q e⟩
 ·intro x q
  rcases bQ.1 q with q | q
  ·exact (h.items x q).keeps hK (H (h.items x q)) hN
  ·simp only[bM]at q
   subst q;exact hb.keeps hK (H hb) hN
structure ReS(w:World)(bg:Nat)(G:vT)(T:vM)(W:World):Prop where
 ext:Ext w W
 at':jcj W bg G
 is:G.map kvI=readG T
 new:w.heap.size<=bg
 news:∀ x∈G,w.heap.size<=x.2.1
theorem ReS.keeps{G:vT}(h:ReS w bg G T W)(e:Ext W W'):ReS w bg G T W':=⟨h.ext.trans e,h.at'.ext e,h.is,h.new,h.news⟩
theorem joq{t:vB}(h:L[i]?=some t):readG (L.take (i+1))=addG (readG (L.take i)) t:=by
 unfold readG;rw[bX,h,dX];rfl
section
attribute [local go_sem] Oper.semAt_some
def frK(S:vT)(M:vM):vM:=(jb6 M).filter fun y=>(atL S y.data.toList).isNone
structure Meet(w0:World)(s:Nat)(S:vT)(bg b:Nat)(M:vM)(W:World):Prop where
 ext:Ext w0 W
 lo:w0.heap.size<=b
 c3:Blk W b (.cells #[.pointer (some ⟨s,0,none⟩)] 76)
 c5:Blk W (b+1) (.cells #[.map (some bg)] 121)
 c9:Blk W (b+4) (.cells #[.map (some (b+3))] 124)
 tab:∃ es ck,Blk W (b+3) (.map (Tryz.ES.arr es) ck)/\∀ y:vB,jay es y.data.toList=cntV (cntB M y)
 var:∃ v n,Blk W (b+2) (.cells #[v] 34)/\W.ownsRow 0 9 1 v n ((frK S M).map Value.string)/\n<=M.length/\∀ z,v.ownBlock=some z->b+5<=z
theorem Meet.keeps{s:Nat}{S:vT}(h:Meet w0 s S bg b M W)(e:Ext W W'):Meet w0 s S bg b M W':=by
 obtain⟨q,A,H,J⟩:=h.tab
 obtain⟨v,n,K,O,X,Z⟩:=h.var
 exact⟨h.ext.trans e,h.lo,h.c3.keeps e (fun g=>g),h.c5.keeps e (fun g=>g),h.c9.keeps e (fun g=>g),⟨q,A,H.keeps e (fun g=>g),J⟩,v,n,K.keeps e (fun g=>g),jaZ O e,X,Z⟩
theorem jmz(S:vT)(M:vM)(x:vB):frK S (M++[x])=if memB (jb6 M) x=true then frK S M else if (atL S x.data.toList).isNone then frK S M++[x]else frK S M:=by
 unfold frK;rw[jhv];unfold addF;split
 ·rfl
 ·rw[List.filter_append]
  split
  ·rename_i h;rw[gL (by simpa using h)];rfl
  ·rename_i h;rw[gM (by simpa using h)];simp
theorem jpE(M:vM)(x y:vB):cntB (M++[x]) y=cntB M y+(if x.data.toList=y.data.toList then 1 else 0):=by
 unfold cntB;rw[bY,List.count_append,bN,fT,List.count_singleton]
 simp
def jb4(G:vT)(x:vB):vM:=match atL G x.data.toList with | some y=>y.2.2.refs | none=>[]
theorem jeX{G:vT}{y:Nd5}(h:atL G x.data.toList=some y):jb4 G x=y.2.2.refs:=by unfold jb4;rw[h]
theorem jkn(S:vT)(M:vM):(frK S M).Nodup:=(jkk M).sublist List.filter_sublist
theorem jgf{S:vT}:x∈frK S M↔x∈M/\atL S x.data.toList=none:=by
 unfold frK;rw[cI,jc4];simp
theorem jo7(h:x.data.toList=y.data.toList):x=y:=ByteArray.ext (Array.ext' h)
theorem jmy(S:vT)(M:vM):∀ T:vM,∃ X,frK S (M++T)=frK S M++X
 | []=>⟨[],by simp⟩
 | x :: T=>by
  obtain⟨X,q⟩:=jmy S (M++[x]) T
  have e:M++x :: T=M++[x]++T:=by simp
  rw[e,q,jmz];split
  ·exact⟨X,rfl⟩
  ·split
   ·exact⟨x :: X,by simp⟩
   ·exact⟨X,rfl⟩
theorem jqL(w0:vW)(s:Nat)(S:vT)(bg:Nat):Meet w0 s S bg w0.heap.size [] (((((w0.alloc (.cells #[.pointer (some ⟨s,0,none⟩)] 76)).alloc (.cells #[.map (some bg)] 121)).alloc (.cells #[.slice none 0 0] 34)).alloc (.map #[] 0)).alloc (.cells #[.map (some (w0.heap.size+3))] 124)):=by
 obtain⟨e,K⟩:=vE (w0.alloc (.cells #[.pointer (some ⟨s,0,none⟩)] 76))
 obtain⟨q,O⟩:=vE (e.alloc (.cells #[.map (some bg)] 121))
 obtain⟨A,X⟩:=vE (q.alloc (.cells #[.slice none 0 0] 34))
 obtain⟨H,Z⟩:=vE (A.alloc (.map #[] 0))
 obtain⟨W5,h5⟩:=vE (H.alloc (.cells #[.map (some (w0.heap.size+3))] 124))
 rw[<-K, <-O, <-X, <-Z, <-h5];have z1:e.heap.size=w0.heap.size+1:=by rw[K,bF]
 have z2:q.heap.size=w0.heap.size+2:=by rw[O,bF,z1]
 have z3:A.heap.size=w0.heap.size+3:=by rw[X,bF,z2]
 have z4:H.heap.size=w0.heap.size+4:=by rw[Z,bF,z3]
 have e1:Ext w0 e:=by rw[K];exact (ExtR w0).alloc _
 have e2:Ext e q:=by rw[O];exact (ExtR e).alloc _
 have e3:Ext q A:=by rw[X];exact (ExtR q).alloc _
 have e4:Ext A H:=by rw[Z];exact (ExtR A).alloc _
 have J:Ext H W5:=by rw[h5];exact (ExtR H).alloc _
 have b1:=by have:=Blk.new w0 (.cells #[.pointer (some ⟨s,0,none⟩)] 76);rw[<-K]at this;exact this
 have b2:=by have:=Blk.new e (.cells #[.map (some bg)] 121);rw[<-O,z1]at this;exact this
 have b3:=by have:=Blk.new q (.cells #[.slice none 0 0] 34);rw[<-X,z2]at this;exact this
 have b4:=by have:=Blk.new A (.map #[] 0);rw[<-Z,z3]at this;exact this
 have b5:=by have:=Blk.new H (.cells #[.map (some (w0.heap.size+3))] 124);rw[<-h5,z4]at this;exact this
 exact⟨(((e1.trans e2).trans e3).trans e4).trans J,bL _,b1.keeps (((e2.trans e3).trans e4).trans J) (fun g=>g),b2.keeps ((e3.trans e4).trans J) (fun g=>g),b5,
  ⟨[],0,b4.keeps J (fun g=>g),fun y=>rfl⟩,.slice none 0 0,0,b3.keeps (e4.trans J) (fun g=>g),fE _ _ _ _,bL _,fun z hz=>by cases hz⟩
theorem jiJ{xs:vM}(h:w.ownsRow 0 9 1 v n (xs.map Value.string)):RdS w v xs:=by
 have A:xs.length=n:=by have:=h.1;simpa using this
 obtain⟨_,⟨rfl,O⟩ |⟨g,e,H,rfl,X,J,K,Z,h7⟩⟩:=id h
 ·exact .inl ⟨none,0,rfl,bO vO⟩
 ·subst A
  refine .inr ⟨g,0,e,rfl,(cX.1 J).1,K,fun j x q=>?_⟩;have hj:=(bH.1 q).1
  have:=h.cellAt j vO
  rw[bT,this,bV,q];rfl
theorem jop(L:vM)(t:vB):readG (L++[t])=addG (readG L) t:=by unfold readG;rw[dX];rfl
theorem jfN(L:vM):(∀ p∈readG L,∃ t∈L,p=(ky t,itOf t))/\(∀ t∈L,∃ p∈readG L,p.1=ky t)/\(readG L).length<=L.length:=by
 suffices h:∀ (R q:vM),((∀ p∈readG q,∃ t∈q,p=(ky t,itOf t))/\(∀ t∈q,∃ p∈readG q,p.1=ky t)/\(readG q).length<=q.length)->(∀ p∈readG (q++R),∃ t∈q++R,p=(ky t,itOf t))/\(∀ t∈q++R,∃ p∈readG (q++R),p.1=ky t)/\(readG (q++R)).length<=(q++R).length from by
  have:=h L [] ⟨fun p H=>(by cases H),fun t J=>(by cases J),bL _⟩
  simpa using this
 intro R;induction R with
 | nil=>intro q h;simpa using h
 | cons t R ih =>
  intro q ⟨h1,h2,h3⟩
  have:=ih (q++[t]) (by
   rw[jop];unfold addG;split
   ·rename_i hb
    obtain⟨p,H,e⟩:=gY.1 hb
    refine⟨fun p H=>by obtain⟨x,A,e⟩:=h1 p H;exact⟨x,bQ.2 (.inl A),e⟩,fun x A=>?_,by rw[bI];exact bE h3 (Nat.le_add_right _ _)⟩
    rcases bQ.1 A with A | A
    ·exact h2 x A
    ·simp only[bM]at A;subst A;exact⟨p,H,(of_decide_eq_true e).symm⟩
   ·refine⟨fun p H=>?_,fun x A=>?_,by rw[bI,bI];exact Nat.add_le_add_right h3 1⟩
    ·rcases bQ.1 H with H | H
     ·obtain⟨x,A,e⟩:=h1 p H;exact⟨x,bQ.2 (.inl A),e⟩
     ·simp only[bM]at H;subst H;exact⟨t,by simp,rfl⟩
    ·rcases bQ.1 A with A | A
     ·obtain⟨p,H,e⟩:=h2 x A;exact⟨p,bQ.2 (.inl H),e⟩
     ·simp only[bM]at A;subst A;exact⟨(ky x,itOf x),by simp,rfl⟩)
  simpa using this
theorem jqh{G:vT}(h:G.map kvI=readG L){t:vB}(ht:t∈L):(atL G (shaB t).data.toList).isSome=true:=by
 obtain⟨p,q,e⟩:=(jfN L).2.1 t ht
 rw[<-h]at q
 obtain⟨x,A,rfl⟩:=bD.1 q
 cases ha:atL G (shaB t).data.toList with
 | some y=>rfl
 | none=>exact absurd e.symm (jeM.1 ha x A)
theorem jcU{G:vT}(h:G.map kvI=readG L){x:Nd5}(hx:x∈G):∃ t∈L,x.1=ky t/\x.2.2=itOf t:=by
 obtain⟨t,q,e⟩:=(jfN L).1 (kvI x) (by rw[<-h];exact bD.2 ⟨x,hx,rfl⟩)
 exact⟨t,q,congrArg Prod.fst e,congrArg Prod.snd e⟩
def putF(f:Nat)(v:Int)(it:It):It:=if f=2 then { it with used:=v }else { it with held:=v }
def setB(f c:Nat)(v:Int)(x:Nd5):Nd5:=if x.2.1=c then (x.1,x.2.1,putF f v x.2.2)else x
theorem jt9(f c:Nat)(v:Int)(L:vT):(L.map (setB f c v)).map kvN=L.map kvN:=by
 rw[cW];refine dF (fun x _=>?_);simp only[Function.comp,setB];split <;> rfl
theorem jne(f c:Nat)(v:Int)(L:vT):(L.map (setB f c v)).map (·.2.1)=L.map (·.2.1):=by
 rw[cW];refine dF (fun x _=>?_);simp only[Function.comp,setB];split <;> rfl
theorem jcj.setF{L:vT}(h:jcj W bm L){c:Nat}{it:It}(hc:jea W c it)(hf:f=2\/f=3)(v:Int):jcj (W.setCell ⟨c,f,none⟩ (.int .i64 v)) bm (L.map (setB f c v)):=by
 obtain⟨rv,q,Z⟩:=hc.cells
 have A:jac (fun z=>z=c) W (W.setCell ⟨c,f,none⟩ (.int .i64 v)):=jac.oneSet W ⟨c,f,none⟩ _;have O:jdx W (fun z=>z=c):=fun z a0 fz e hz=>by
  have e:z=c:=e;subst e
  have:=q.uniq hz;injection this with _ H;exact absurd H vI
 obtain⟨es,ck,X,H⟩:=h.mp
 have J:bm≠c:=fun e=>by subst e;have:=X.uniq q;cases this
 refine⟨⟨es,ck,X.keeps A J,by rw[jt9];exact H⟩,by rw[jne];exact h.blks,fun x hx=>?_⟩
 obtain⟨y,hy,rfl⟩:=bD.1 hx
 have hi:=h.items y hy;unfold setB;split
 ·rename_i e
  obtain⟨K,hb,hr⟩:=hi.cells
  rw[e]at hb
  refine⟨K,?_,?_⟩
  ·show Blk _ y.2.1 _
   rw[e];rcases hf with rfl | rfl
   ·exact hb.set_same (i:=2) _
   ·exact hb.set_same (i:=3) _
  ·have:=jcp hr A O
   rcases hf with rfl | rfl <;> exact this
 ·rename_i e
  exact hi.keeps A e O
end
def HasS(S:vT)(t:vB):Prop:=∃ x,atL S (ky t)=some x/\x.2.2.text=t
def AllN(S:vT):Prop:=∀ x∈S,∃ n,jbd x.2.2.text n
section
attribute [local go_sem] Oper.semAt_some
theorem jcq(hB:Blk w b (.cells #[.string x,.string y] 52)):(loadVar 52 ⟨b,0,none⟩).run Tryz.prog w=.ok (.agg #[.string x,.string y]) w:=by
 have:=jhD (b:=b) (o:=0) (hB.cell (i:=0) vF) (hB.cell (i:=1) vF)
 simpa [Instr.loadAt,Instr.sureAddr,bK,Result.andThen]using this
theorem Tryz.isPl:jb2 (Tryz.prog.underlying 368)=true:=vY
theorem Tryz.szPl:(Tryz.prog.info? 368).map (·.size)=some 3:=vY
theorem Tryz.allocPl:∀ w,(Instr.alloc 368 true (.tuple #[])).run Tryz.prog w=.ok (.pointer (some ⟨w.heap.size,0,none⟩)) (w.alloc (.cells [Value.string ⟨#[]⟩,.string ⟨#[]⟩,.string ⟨#[]⟩].toArray 368)):=fun w=>by kernel_rfl
theorem jvT{o:Nat}(h1:w.cell? ⟨b,o,none⟩=some (.string x))(h2:w.cell? ⟨b,o+1,none⟩=some (.string y))(h3:w.cell? ⟨b,o+2,none⟩=some (.string z)):(Instr.loadAt 368 (.pointer (some ⟨b,o,none⟩))).run Tryz.prog w=.ok (.agg #[.string x,.string y,.string z]) w:=by
 obtain⟨A,q⟩:=jbv Tryz.isPl
 refine ja2 (xs:=[.string x,.string y,.string z]) q Tryz.szPl (fun j v e=>?_);rw[Addr.add_lit]
 match j,e with
 | 0,e=>simp at e;subst e;exact h1
 | 1,e=>simp at e;subst e;exact h2
 | 2,e=>simp at e;subst e;exact h3
 | j+3,e=>simp at e
theorem Tryz.allocEnt:∀ w,(Instr.alloc 52 true (.tuple #[])).run Tryz.prog w=.ok (.pointer (some ⟨w.heap.size,0,none⟩)) (w.alloc (.cells [Value.string ⟨#[]⟩,.string ⟨#[]⟩].toArray 52)):=fun w=>by kernel_rfl
theorem jhV(x y:vB):∀ u∈[Value.string x,.string y],u.oneCell'=true:=by
 intro u e;simp at e;rcases e with rfl | rfl <;> rfl
theorem jv1(x:vB):(⟨#[]⟩:vB)++x=x:=ByteArray.empty_append
theorem jm3(k:vB):jcX (jaJ k)=true:=by
 unfold jcX;rw[jc7,jeA];simp
end
def jcv(P:PA)(d:Chg):PA:=if d.gone then jbh P (jaJ d.key)else putP P (jaJ d.key) d.value
def Dp:PA->Nat->Prop
 | .nil,_=>True
 | .no,_=>True
 | .leaf q _,n=>q.size<=n
 | .ext q m,n=>q.size<=n/\Dp m (n - q.size)
 | .br _ ks,n=>∀ i,(ks i).isNil=false->1<=n/\Dp (ks i) (n - 1)
theorem jbt:∀ (P:PA) (n m:Nat),Dp P n->n<=m->Dp P m
 | .nil,_,_,_,_=>trivial
 | .no,_,_,_,_=>trivial
 | .leaf q _,n,m,h,k=>bE (show q.size<=n from h) k
 | .ext q x,n,m,h,k=>⟨bE h.1 k,jbt x _ _ h.2 vO⟩
 | .br _ ks,n,m,h,k=>fun i hi=>⟨bE (h i hi).1 k,jbt (ks i) _ _ (h i hi).2 vO⟩
theorem jfc{P:PA}(h:Dp P (n - a.size))(ha:a.size<=n):Dp (jbT a P) n:=by
 unfold jbT
 by_cases h0:a.size=0
 ·rw[if_pos h0];exact jbt P _ _ h vO
 rw[if_neg h0];cases P with
 | nil=>trivial
 | no=>trivial
 | leaf q v =>
  have h:q.size<=n - a.size:=h;show (a++q).size<=n;rw[jcR];omega
 | ext q m =>
  have e:=h.1
  refine⟨by rw[jcR];omega,?_⟩
  rw[jcR];exact jbt m _ _ h.2 vO
 | br v ks=>exact⟨ha,h⟩
theorem jhn{v:vB}{ks:Nat->PA}(h:Dp (.br v ks) n){P:PA}(h1:1<=n)(hP:Dp P (n - 1))(u:vB):Dp (.br u (setK ks i P)) n:=by
 intro j q
 by_cases e:j=i
 ·rw[e,jcr];exact⟨h1,hP⟩
 ·rw[jd3 _ _ e]at q ⊢;exact h j q
theorem jhl{v:vB}{ks:Nat->PA}(h:Dp (.br v ks) n){p:vB}(hp:p.size<=n)(u:vB):Dp (addK (.br v ks) p u) n:=by
 rw[jb8]
 by_cases h0:p.size=0
 ·rw[if_pos h0];exact h
 ·rw[if_neg h0]
  refine jhn h vO ?_ v;show (jbc p).size<=n - 1;unfold jbc;rw[jaQ];omega
theorem jgW(v:vB)(n:Nat):Dp (.br v fun _=>.nil) n:=fun i hi=>by cases hi
theorem jel(a b:vB):jar a b<=a.size/\jar a b<=b.size:=by
 have:=jbM a.data.toList b.data.toList
 unfold jar;rw[<-jbp, <-jbp];exact this.2
theorem jmr:∀ (P:PA) (n:Nat) (p u:vB),Dp P n->p.size<=n->Dp (putP P p u) n
 | .nil,_,p,u,_,hp=>hp
 | .no,_,p,u,_,hp=>hp
 | .leaf q v,n,p,u,h,hp=>by
  have h:q.size<=n:=h
  obtain⟨J,K⟩:=jel q p
  unfold putP
  by_cases e:p=q
  ·rw[if_pos e];exact hp
  rw[if_neg e];have H:(p.extract 0 (jar q p)).size=jar q p:=by rw[dH];omega
  refine jfc ?_ vO;rw[H];have A:=jhl (jgW ⟨#[]⟩ (n - jar q p)) (p:=q.extract (jar q p) q.size) (by rw[jaQ];omega) v;rw[jb8]at A ⊢
  by_cases h0:(q.extract (jar q p) q.size).size=0
  ·rw[if_pos h0]at A ⊢
   exact jhl A (by rw[jaQ];omega) u
  ·rw[if_neg h0]at A ⊢
   exact jhl A (by rw[jaQ];omega) u
 | .ext q x,n,p,u,h,hp=>by
  obtain⟨J,K⟩:=jel q p
  unfold putP
  by_cases e:jar q p=q.size
  ·rw[if_pos e]
   refine jfc (jmr x _ _ u h.2 ?_) h.1;rw[jaQ];omega
  ·rw[if_neg e]
   have H:(p.extract 0 (jar q p)).size=jar q p:=by rw[dH];omega
   refine jfc ?_ vO;rw[H];have O:=h.1;refine jhl (jhn (jgW ⟨#[]⟩ _) vO (jfc ?_ ?_) _) (by rw[jaQ];omega) u
   ·rw[jaQ]
    exact jbt x _ _ h.2 vO
   ·rw[jaQ];omega
 | .br v ks,n,p,u,h,hp=>by
  unfold putP
  by_cases h0:p.size=0
  ·rw[if_pos h0];exact h
  ·rw[if_neg h0]
   refine jhn h vO (jmr (ks (jao p)) (n - 1) _ u ?_ ?_) v
   ·cases hn:(ks (jao p)).isNil with
    | true=>rw[jcW hn];trivial
    | false=>exact (h _ hn).2
   ·unfold jbc;rw[jaQ];omega
theorem jmq{v:vB}{ks:Nat->PA}(h:Dp (.br v ks) n):Dp (jcG v ks) n:=by
 have q:∀ i∈idxK ks,(ks i).isNil=false:=fun i hi=>by
  have:=(cI.1 hi).2
  simpa using this
 unfold jcG;cases e:idxK ks with
 | nil =>
  show Dp (if v.size=0 then PA.no else .leaf ⟨#[]⟩ v) n
  by_cases h0:v.size=0
  ·rw[if_pos h0];trivial
  ·rw[if_neg h0];exact cB n
 | cons i r =>
  cases r with
  | nil =>
   show Dp (if v.size=0 then jbT ⟨#[UInt8.ofNat i]⟩ (ks i)else .br v ks) n
   by_cases h0:v.size=0
   ·rw[if_pos h0]
    obtain⟨A,H⟩:=h i (q i (by rw[e];exact cJ))
    exact jfc H A
   ·rw[if_neg h0];exact h
  | cons j r=>exact h
theorem jhm:∀ (P:PA) (n:Nat) (p:vB),Dp P n->Dp (jbh P p) n
 | .nil,_,_,_=>trivial
 | .no,_,_,_=>trivial
 | .leaf q v,n,p,h=>by
  unfold jbh
  by_cases e:p=q
  ·rw[if_pos e];trivial
  ·rw[if_neg e];exact h
 | .ext q x,n,p,h=>by
  unfold jbh;cases preB q p with
  | false=>rw[if_neg ff];exact h
  | true=>rw[if_pos rfl];exact jfc (jhm x _ _ h.2) h.1
 | .br v ks,n,p,h=>by
  unfold jbh
  by_cases h0:p.size=0
  ·rw[if_pos h0];exact jmq h
  ·rw[if_neg h0]
   cases hn:(ks (jao p)).isNil with
   | true=>rw[if_pos rfl];exact h
   | false =>
    rw[if_neg ff]
    obtain⟨A,H⟩:=h _ hn
    refine jmq (jhn h A ?_ v)
    have:=jhm (ks (jao p)) (n - 1) (jbc p) H
    unfold unNo;cases (jbh (ks (jao p)) (jbc p)).isNo with
    | true=>rw[if_pos rfl];trivial
    | false=>rw[if_neg ff];exact this
section
attribute [local go_sem] Oper.semAt_some
def noV:vV:=.iface 387 (.agg #[])
def jh4(b:Nat):vV:=.iface 376 (.pointer (some ⟨b,0,none⟩))
def extV(b:Nat):vV:=.iface 379 (.pointer (some ⟨b,0,none⟩))
def brV(b:Nat):vV:=.iface 382 (.pointer (some ⟨b,0,none⟩))
def brC(u:vB)(vk:Nat->vV):List vV:=.string u ::(List.range 16).map vk
def PaAt:PA->vV->(Nat->Prop)->vW->Prop
 | .nil,v,_,_=>v=.nilIface
 | .no,v,_,_=>v=noV
 | .leaf q u,v,D,W=>∃ b,v=jh4 b/\D b/\Blk W b (.cells #[.string q,.string u] 378)
 | .ext q n,v,D,W=>∃ b T x Dn,v=extV b/\D b/\Blk W b (.cells #[.string q,.iface T x] 381)/\PaAt n (.iface T x) Dn W/\¬ Dn b/\∀ x,Dn x->D x
 | .br u ks,v,D,W=>∃ (b:Nat) (vk:Nat->vV) (Dk:Nat->Nat->Prop),v=brV b/\D b/\Blk W b (.cells (brC u vk).toArray 385) /\
   (∀ i,i < 16->PaAt (ks i) (vk i) (Dk i) W/\¬ Dk i b/\∀ x,Dk i x->D x)/\∀ i j,i < 16->j < 16->i≠j->∀ x,Dk i x->¬ Dk j x
theorem PaAt.keeps{F:BSet}{W W':vW}(k:jac F W W'):∀ (P:PA) (v:vV) (D:Nat->Prop),PaAt P v D W->(∀ x,D x->¬ F x)->PaAt P v D W'
 | .nil,_,_,h,_=>h
 | .no,_,_,h,_=>h
 | .leaf _ _,_,_,⟨b,h1,h2,h3⟩,hF=>⟨b,h1,h2,h3.keeps k (hF b h2)⟩
 | .ext _ n,_,_,⟨b,T,x,Dn,h1,h2,h3,h4,h5,h6⟩,hF=>⟨b,T,x,Dn,h1,h2,h3.keeps k (hF b h2),PaAt.keeps k n (.iface T x) Dn h4 (fun x e=>hF x (h6 x e)),h5,h6⟩
 | .br _ ks,_,_,⟨b,vk,Dk,h1,h2,h3,h4,h5⟩,hF=>⟨b,vk,Dk,h1,h2,h3.keeps k (hF b h2),fun i hi=>⟨PaAt.keeps k (ks i) (vk i) (Dk i) (h4 i hi).1 (fun x e=>hF x ((h4 i hi).2.2 x e)),(h4 i hi).2⟩,h5⟩
theorem PaAt.mono(hD:∀ x,D x->D' x):∀ {P:PA} {v:vV},PaAt P v D W->PaAt P v D' W
 | .nil,_,h=>h
 | .no,_,h=>h
 | .leaf _ _,_,⟨b,h1,h2,h3⟩=>⟨b,h1,hD b h2,h3⟩
 | .ext _ n,_,⟨b,T,x,Dn,h1,h2,h3,h4,h5,h6⟩=>⟨b,T,x,Dn,h1,hD b h2,h3,h4,h5,fun x e=>hD x (h6 x e)⟩
 | .br _ ks,_,⟨b,vk,Dk,h1,h2,h3,h4,h5⟩=>⟨b,vk,Dk,h1,hD b h2,h3,fun i hi=>⟨(h4 i hi).1,(h4 i hi).2.1,fun x e=>hD x ((h4 i hi).2.2 x e)⟩,h5⟩
theorem PaAt.form{P:PA}(h:PaAt P v D W)(hn:P.isNil=false):∃ T x,v=.iface T x:=by
 cases P with
 | nil=>cases hn
 | no=>exact⟨_,_,h⟩
 | leaf q u=>obtain⟨b,h,_⟩:=h;exact⟨_,_,h⟩
 | ext q n=>obtain⟨b,T,x,e,h,_⟩:=h;exact⟨_,_,h⟩
 | br u ks=>obtain⟨b,A,H,h,_⟩:=h;exact⟨_,_,h⟩
structure PaO(P:PA)(v:Value)(D:Nat->Prop)(W:World):Prop where
 at':PaAt P v D W
 lt:∀ x,D x->x < W.heap.size
theorem PaO.keeps{P:PA}(h:PaO P v D W)(k:jac F W W')(hF:∀ x,D x->¬ F x):PaO P v D W':=
 ⟨h.at'.keeps k P v D hF,fun x e=>bC (h.lt x e) k.size⟩
theorem PaO.ext{P:PA}(h:PaO P v D W)(k:Ext W W'):PaO P v D W':=h.keeps k fun _ _ e=>e
def Grow(D:Nat->Prop)(W W':vW):Nat->Prop:=fun x=>D x\/(W.heap.size<=x/\x < W'.heap.size)
theorem jdX(h:∀ x,D x->x < W.heap.size)(k:jac F W W'):∀ x,Grow D W W' x->x < W'.heap.size
 | x,.inl hx=>bC (h x hx) k.size
 | x,.inr hx=>hx.2
def PaTo(D:Nat->Prop)(W:vW)(P:PA)(e:Ending)(w':vW):Prop:=∃ v,e=.returned v/\PaAt P v (Grow D W w') w'/\jac D W w'
theorem PaTo.own{P:PA}(h:PaAt P v (Grow D W w') w')(k:jac D W w')(hl:∀ x,D x->x < W.heap.size):PaO P v (Grow D W w') w':=⟨h,jdX hl k⟩
def PaEx(D:Nat->Prop)(W:vW)(P:PA)(e:Ending)(w':vW):Prop:=∃ v,e=.returned v/\PaAt P v (Grow D W w') w'/\Ext W w'
theorem jvQ(b:Nat)(w:vW):(Instr.typeAssert (jh4 b) 239 376 true).run Tryz.prog w=.ok (.tuple #[.pointer (some ⟨b,0,none⟩),.bool true]) w:=vY
theorem jlu(v:vV)(h:(∃ b,v=extV b)\/(∃ b,v=brV b)\/v=noV)(w:vW):(Instr.typeAssert v 239 376 true).run Tryz.prog w=.ok (.tuple #[.pointer none,.bool false]) w:=by
 rcases h with⟨b,rfl⟩ |⟨b,rfl⟩ | rfl <;> kernel_rfl
theorem jxN(b:Nat)(w:vW):(Instr.typeAssert (extV b) 239 379 true).run Tryz.prog w=.ok (.tuple #[.pointer (some ⟨b,0,none⟩),.bool true]) w:=vY
theorem juB(v:vV)(h:(∃ b,v=brV b)\/v=noV)(w:vW):(Instr.typeAssert v 239 379 true).run Tryz.prog w=.ok (.tuple #[.pointer none,.bool false]) w:=by
 rcases h with⟨b,rfl⟩ | rfl <;> kernel_rfl
theorem jze(b:Nat)(w:vW):(Instr.typeAssert (brV b) 239 382 true).run Tryz.prog w=.ok (.tuple #[.pointer (some ⟨b,0,none⟩),.bool true]) w:=vY
theorem jzf(w:vW):(Instr.typeAssert noV 239 382 true).run Tryz.prog w=.ok (.tuple #[.pointer none,.bool false]) w:=vY
end
section
section mixz
variable {P:Program} {l:List Oper} {E D:vW->vW->Prop}
def anyZ(P:Program)(ops:Array Oper)(z:Nat)(hd:List Nat)(E D:vW->vW->Prop)(Q:Act->vW->Prop):Nat->Array Bool->Act->vW->Prop
 | 0,listed,a,w=>listed.getD z true=true/\Region.ready .any ops listed=[]/\Q a w
 | fuel+1,listed,a,w=>∀ w1,(listed.getD z true=false->E w w1)->(listed.getD z true=true->w1=w) ->
  (Region.ready .any ops listed=[]->Q a w1) /\
  ∀ i∈Region.ready .any ops listed,wpOp P ops NoQ i (fun a' w'=>(listed.getD z true=false->i≠z->D w1 w'/\(i ∉ hd->E w1 w'))/\(listed.getD z true=true->w'=w1)/\anyZ P ops z hd E D Q fuel (listed.setIfInBounds i true) a' w') a w1
theorem jo0(hT:∀ x y z,E x y->E y z->E x z){ops:Array Oper}{z:Nat}{hd:List Nat}{Q:Act->vW->Prop}:∀ (fuel:Nat) (listed:Array Bool) (a:Act) (w w1:vW),listed.getD z true=false->anyZ P ops z hd E D Q fuel listed a w->E w w1->anyZ P ops z hd E D Q fuel listed a w1
 | 0,_,_,_,_,hz,h,_=>by have:=h.1;rw[hz]at this;cases this
 | _+1,_,_,_,_,hz,h,he=>fun q A H=>h q (fun e=>hT _ _ _ he (A e)) (fun e=>absurd e (by rw[hz];decide))
theorem jie(hE:∀ w,E w w){ops:Array Oper}{z:Nat}{hd:List Nat}{Q:Act->vW->Prop}{Q':Exit->Act->vW->Prop}(hQ:∀ a w,Q a w->Q' .normal a w) :
  ∀ (fuel:Nat) (listed:Array Bool) (a:Act) (w:vW),anyZ P ops z hd E D Q fuel listed a w->wpAny P .any ops Q' fuel listed a w
 | 0,_,_,w,h=>⟨h.2.1,hQ _ _ h.2.2⟩
 | fuel+1,_,_,w,h=>let ⟨h1,h2⟩:=h w (fun _=>hE w) (fun _=>rfl)
  ⟨fun e=>hQ _ _ (h1 e),fun i hi=>jg6 (fun q w' ⟨_,_,A⟩=>jie hE hQ fuel _ q w' A) (h2 i hi)⟩
def jlm(ops:Array Oper)(z i:Nat):Bool:=match ops[z]? with | some o=>o.after.toList.any fun e=>Region.binds .any e && e.on == i | none=>false
theorem jsR{ops:Array Oper}{z i:Nat}{listed:Array Bool}(he:jlm ops z i=true)(hi:i∈Region.ready .any ops listed):z ∉ Region.ready .any ops listed:=by
 intro X;unfold jlm at he
 obtain⟨Z,oz,H,q⟩:=mem_ready.1 X
 rw[H]at he
 obtain⟨e,J,K⟩:=gY.1 he
 rw[cC,beq_iff_eq]at K;have A:=q e (by simpa using J) K.1;have O:=(mem_ready.1 hi).1;rw[K.2]at A;rcases fN i listed.size with h' | h'
 ·simp[h']at O A;rw[O]at A;cases A
 ·simp[fU h']at A
theorem jnF(hE:∀ w,E w w)(hT:∀ x y z,E x y->E y z->E x z)(hD:∀ x y z,D x y->D y z->D x z)(hED:∀ x y,E x y->D x y){ops:Array Oper}{z:Nat}{hd:List Nat}{Q:Act->vW->Prop}{i:Nat}{oi:Oper}{v:vV}(hiz:i≠z)(he0:jlm ops z i=true)(hi:ops[i]?=some oi)(hsel:∀ (j:Nat) (o:Oper) cs b,ops[j]?=some o->o.op≠.select cs b) :
  ∀ (A:Nat) (q:Array Bool) (a:Act) (w:vW),q.getD z true=false ->
   (∀ j Z,ops[j]?=some Z->j≠i->q.getD j true=false->(∀ e∈Z.after,Region.binds .any e=true->e.on≠i)->oi.apart ops Z=true) ->
   i∈Region.ready .any ops q->jbR P ops E D w oi v a ->
   anyZ P ops z hd E D Q A (q.setIfInBounds i true) (a.put oi.dst v) w->anyZ P ops z hd E D Q (A+1) q a w:=by
 intro A;induction A with
 | zero =>
  intro q a w hz _ hr hy H
  have:=H.1
  rw[getD_set_ne true hiz,hz]at this;cases this
 | succ A ih =>
  intro q a w hz J hr hy H w1 a9 _;have he:=a9 hz;have a0:(q.setIfInBounds i true).getD z true=false:=by rw[getD_set_ne true hiz,hz]
  refine⟨fun h=>(by rw[h]at hr;cases hr),fun j hj=>?_⟩
  by_cases hji:j=i
  ·subst hji
   exact hy.wpOp hi (hED _ _ he) hE (fun w' K=>⟨fun _ _=>⟨hED _ _ K,fun _=>K⟩,fun e=>absurd e (by rw[hz];decide),jo0 hT _ _ _ _ _ a0 H (hT _ _ _ he K)⟩)
  ·have a7:j≠z:=fun e=>jsR he0 hr (e ▸ hj)
   have K:=(H w1 (fun _=>he) (fun e=>by rw[a0]at e;cases e)).2 j (ready_mono hj hji)
   obtain⟨X,Z,a3,a4⟩:=mem_ready.1 hj
   have a5:∀ e∈Z.after,Region.binds .any e=true->e.on≠i:=fun e he hb b0=>by
    have K:=a4 e he hb;have h0:=(mem_ready.1 hr).1;rw[b0]at K;rcases fN i q.size with h' | h'
    ·simp[h']at h0 K;rw[h0]at K;cases K
    ·simp[fU h']at K
   have h2:=jeL (v:=v) (Y:=fun a'=>execOp a'.eval oi=execOp a.eval oi/\Region.wanted oi (yielded ops a'.tmps)=Region.wanted oi (yielded ops a.tmps)) a3 (J j Z a3 hji X a5) (fun cs b=>hsel i oi cs b hi) (fun cs b=>hsel j Z cs b a3)
    (fun a1 a2 h e1 e2=>⟨e1.trans h.1,e2.trans h.2⟩) ⟨rfl,rfl⟩ K
   have O:∀ k ok,ops[k]?=some ok->k≠i->(q.setIfInBounds j true).getD k true=false ->
     (∀ e∈ok.after,Region.binds .any e=true->e.on≠i)->oi.apart ops ok=true:=fun k ok hk b1 a8 b2=>by
    refine J k ok hk b1 ?_ b2
    by_cases hjk:j=k
    ·subst hjk;exact X
    ·rw[getD_set_ne true hjk]at a8;exact a8
   refine wpOp_mono (fun a' w' h3=>?_) h2
   obtain⟨⟨e1,e2⟩,h4,_,h5⟩:=h3
   have h4:=h4 a0 a7
   refine⟨fun _ _=>h4,fun e=>absurd e (by rw[hz];decide),?_⟩
   have b3:jbR P ops E D w' oi v a':=(hy.of_same e1 e2).st hD (hD _ _ _ (hED _ _ he) h4.1);refine ih (q.setIfInBounds j true) a' w' (by rw[getD_set_ne true a7,hz]) O (ready_mono hr (Ne.symm hji)) b3 ?_;rw[gH _ _ hji];exact h5
def jfZ(P:Program)(ops:Array Oper)(o:Oper)(v:vV)(a:Act):Prop:=
 (Region.wanted o (yielded ops a.tmps)=true/\∀ w1,jlH P (fun x y=>y=x) w1 v ((execOp a.eval o).run P w1))\/(Region.wanted o (yielded ops a.tmps)=false/\v=undef)
theorem jfZ.wpOp{ops:Array Oper}{i:Nat}{o:Oper}{v:vV}{a:Act}(hi:ops[i]?=some o)(hy:jfZ P ops o v a){K:Act->vW->Prop}{w1:vW}
  (h:K (a.put o.dst v) w1):wpOp P ops NoQ i K a w1:=by
 have q:jbw P ops (fun x y=>y=x) w1 o v a:=by
  rcases hy with⟨h1,h2⟩ | h1
  ·exact .inl ⟨h1,fun w1 _=>h2 w1⟩
  ·exact .inr h1
 exact q.wpOp hi (Eq.refl w1) (fun _=>rfl) (fun w' e=>by have e:w'=w1:=e;rw[e];exact h)
theorem jsd(hE:∀ w,E w w)(hT:∀ x y z,E x y->E y z->E x z)(hED:∀ x y,E x y->D x y){ops:Array Oper}{z:Nat}{hd:List Nat}{Q:Act->vW->Prop}{i:Nat}{oi:Oper}{v:vV}(hiz:i≠z)(hi:ops[i]?=some oi)(hsel:∀ (j:Nat) (o:Oper) cs b,ops[j]?=some o->o.op≠.select cs b) :
  ∀ (A:Nat) (q:Array Bool) (a:Act) (w:vW),
   (∀ j oj,ops[j]?=some oj->j≠i->q.getD j true=false->(∀ e∈oj.after,Region.binds .any e=true->e.on≠i)->oi.apart ops oj=true) ->
   i∈Region.ready .any ops q->jfZ P ops oi v a ->
   anyZ P ops z hd E D Q A (q.setIfInBounds i true) (a.put oi.dst v) w->anyZ P ops z hd E D Q (A+1) q a w:=by
 intro A;have a0:∀ (A:Nat) (q:Array Bool) (a:Act) (w w1:vW),(q.getD z true=false->E w w1)->(q.getD z true=true->w1=w) ->
   anyZ P ops z hd E D Q A (q.setIfInBounds i true) (a.put oi.dst v) w->anyZ P ops z hd E D Q A (q.setIfInBounds i true) (a.put oi.dst v) w1:=by
  intro A q a w w1 K h2 H;cases hz:q.getD z true with
  | true=>rw[h2 hz];exact H
  | false=>exact jo0 hT _ _ _ _ _ (by rw[getD_set_ne true hiz,hz]) H (K hz)
 induction A with
 | zero =>
  intro q a w J hr hy H w1 O X;have hz:q.getD z true=true:=by have:=H.1;rwa [getD_set_ne true hiz]at this
  refine⟨fun h=>(by rw[h]at hr;cases hr),fun j hj=>?_⟩
  by_cases hji:j=i
  ·subst hji
   exact hy.wpOp hi ⟨fun _ _=>⟨hED _ _ (hE w1),fun _=>hE w1⟩,fun _=>rfl,a0 0 q a w w1 O X H⟩
  ·have:=ready_mono hj hji
   rw[H.2.1]at this;cases this
 | succ A ih =>
  intro q a w J hr hy H w1 O X
  refine⟨fun h=>(by rw[h]at hr;cases hr),fun j hj=>?_⟩
  by_cases hji:j=i
  ·subst hji
   exact hy.wpOp hi ⟨fun _ _=>⟨hED _ _ (hE w1),fun _=>hE w1⟩,fun _=>rfl,a0 _ q a w w1 O X H⟩
  ·have a4:(q.setIfInBounds i true).getD z true=q.getD z true:=getD_set_ne true hiz
   have K:=(H w1 (fun e=>O (a4 ▸ e)) (fun e=>X (a4 ▸ e))).2 j (ready_mono hj hji)
   obtain⟨a3,oj,a5,a7⟩:=mem_ready.1 hj
   have a8:∀ e∈oj.after,Region.binds .any e=true->e.on≠i:=fun e he hb b1=>by
    have K:=a7 e he hb;have h0:=(mem_ready.1 hr).1;rw[b1]at K;rcases fN i q.size with h' | h'
    ·simp[h']at h0 K;rw[h0]at K;cases K
    ·simp[fU h']at K
   have h2:=jeL (v:=v) (Y:=fun a'=>execOp a'.eval oi=execOp a.eval oi/\Region.wanted oi (yielded ops a'.tmps)=Region.wanted oi (yielded ops a.tmps)) a5 (J j oj a5 hji a3 a8) (fun cs b=>hsel i oi cs b hi) (fun cs b=>hsel j oj cs b a5)
    (fun a1 a2 h e1 e2=>⟨e1.trans h.1,e2.trans h.2⟩) ⟨rfl,rfl⟩ K
   have Z:∀ k ok,ops[k]?=some ok->k≠i->(q.setIfInBounds j true).getD k true=false ->
     (∀ e∈ok.after,Region.binds .any e=true->e.on≠i)->oi.apart ops ok=true:=fun k ok hk b2 a9 b3=>by
    refine J k ok hk b2 ?_ b3
    by_cases hjk:j=k
    ·subst hjk;exact a3
    ·rw[getD_set_ne true hjk]at a9;exact a9
   refine wpOp_mono (fun a' w' h3=>?_) h2
   obtain⟨⟨e1,e2⟩,h4,b0,h5⟩:=h3
   rw[a4]at h4 b0
   refine⟨h4,b0,?_⟩
   have b4:jfZ P ops oi v a':=by unfold jfZ at *;rw[e1,e2];exact hy
   refine ih (q.setIfInBounds j true) a' w' Z (ready_mono hr (Ne.symm hji)) b4 ?_;rw[gH _ _ hji];exact h5
def MixZ(P:Program)(l:List Oper)(z:Nat)(hd:List Nat)(E D:vW->vW->Prop)(Q:Act->vW->Prop):List Nat->List Nat->Act->vW->Prop
 | [],done,a,w=>Region.ready .any l.toArray (jaR l done)=[z]/\(jaR l done).getD z true=false/\(jaR l (z :: done)).getD z true=true/\Region.ready .any l.toArray (jaR l (z :: done))=[]/\∀ w1,E w w1->wpOp P l.toArray NoQ z Q a w1
 | k :: ord,done,a,w=>(jaR l done).getD z true=false/\k≠z /\
  ((k∈Region.ready .any l.toArray (jaR l done)/\Region.free .any l.toArray (jaR l done) k=true/\∃ o v,l[k]?=some o/\((jlm l.toArray z k=true/\jbR P l.toArray E D w o v a)\/jfZ P l.toArray o v a)/\MixZ P l z hd E D Q ord (k :: done) (a.put o.dst v) w) \/
  (Region.ready .any l.toArray (jaR l done)=[k]/\k∈hd/\∀ w1,E w w1->wpOp P l.toArray NoQ k (fun a' w'=>D w1 w'/\MixZ P l z hd E D Q ord (k :: done) a' w') a w1))
theorem jdP(hE:∀ w,E w w)(hT:∀ x y z,E x y->E y z->E x z)(hD:∀ x y z,D x y->D y z->D x z)(hED:∀ x y,E x y->D x y)(hs:Region.noSelect l.toArray=true){z:Nat}{hd:List Nat}{Q:Act->vW->Prop}:∀ (ord:List Nat) (done:List Nat) (a:Act) (w:vW),
  MixZ P l z hd E D Q ord done a w->anyZ P l.toArray z hd E D Q (ord.length+1) (jaR l done) a w
 | [],done,a,w,⟨h1,hz,hz2,J,h3⟩=>fun w1 A _=>by
  refine⟨fun H=>(by rw[h1]at H;cases H),fun i hi=>?_⟩
  rw[h1]at hi;obtain rfl:i=z:=by simpa using hi
  exact wpOp_mono (fun K w' h=>⟨fun _ e=>absurd rfl e,fun e=>absurd e (by rw[hz];decide),hz2,J,h⟩) (h3 w1 (A hz))
 | k :: ord,done,a,w,⟨hz,hkz,h⟩=>by
  rcases h with⟨hr,hf,o,v,ho,hy,h⟩ |⟨hr,hkd,h⟩
  ·have q:l.toArray[k]?=some o:=by simpa using ho
   rcases hy with⟨A,hy⟩ | hy
   ·exact jnF hE hT hD hED hkz A q (fY hs) (ord.length+1) (jaR l done) a w hz (gU q hf) hr hy (jdP hE hT hD hED hs ord _ _ _ h)
   ·exact jsd hE hT hED hkz q (fY hs) (ord.length+1) (jaR l done) a w (gU q hf) hr hy (jdP hE hT hD hED hs ord _ _ _ h)
  ·intro w1 A _
   refine⟨fun H=>(by rw[hr]at H;cases H),fun i hi=>?_⟩
   rw[hr]at hi;obtain rfl:i=k:=by simpa using hi
   exact wpOp_mono (fun K w' J=>⟨fun _ _=>⟨J.1,fun O=>absurd hkd O⟩,fun e=>absurd e (by rw[hz];decide),jdP hE hT hD hED hs ord _ _ _ J.2⟩) (h w1 (A hz))
theorem jbm(ord:List Nat)(z:Nat)(hd:List Nat)(E D:vW->vW->Prop)(hE:∀ w,E w w)(hT:∀ x y z,E x y->E y z->E x z)(hD:∀ x y z,D x y->D y z->D x z)(hED:∀ x y,E x y->D x y){id:Nat}{Q:Exit->Act->vW->Prop}{a:Act}{w:vW}
  (hm:P.follows .mixedOrders=true) (hs:Region.noSelect l.toArray=true) (hl:ord.length+1=l.toArray.size)
  (h:MixZ P l z hd E D (fun a w=>Q .normal a w) ord [] a w.drew):(Code.region id l.toArray true).wp P Q a w:=by
 refine wp_region_any hm ?_;rw[<-hl]
 have:=jdP hE hT hD hED hs ord _ _ _ h
 unfold jaR at this;rw[hl]at this ⊢;exact jie hE (fun _ _ h=>h) _ _ _ _ this
variable {Q:Act->vW->Prop} {ord done hd:List Nat} {a:Act} {w:vW} {k z:Nat} {o:Oper}
def jku(l:List Oper)(z:Nat)(done:List Nat)(k:Nat):Bool:=(Region.ready .any l.toArray (jaR l done)).contains k && Region.free .any l.toArray (jaR l done) k && (jaR l done).getD z true == false && k != z
theorem jgi(h:jku l z done k=true):(k∈Region.ready .any l.toArray (jaR l done)/\Region.free .any l.toArray (jaR l done) k=true)/\(jaR l done).getD z true=false/\k≠z:=by
 simp only[jku,cC,cL,beq_iff_eq,bne_iff_ne]at h
 exact⟨h.1.1,h.1.2,h.2⟩
theorem jqU(o:Oper)(ho:l[k]?=some o)(hk:jku l z done k=true)(hw:Region.wanted o (yielded l.toArray a.tmps)=true)(hq:jhB o.op=true)
  (h:∀ K:Act->Prop,(∀ a',MixZ P l z hd E D Q ord (k :: done) a' w->K a')->o.quiet P a (fun _=>True) K):MixZ P l z hd E D Q (k :: ord) done a w:=by
 obtain⟨⟨q,A⟩,H,J⟩:=jgi hk
 obtain⟨v,O,X⟩:=h _ (fun _ h=>h)
 refine⟨H,J,.inl ⟨q,A,o,v,ho,.inr (.inl ⟨hw,fun w1=>?_⟩),X⟩⟩
 have e:=O w1 trivial;unfold Oper.quietAt at e;have Z:=fun f args w'=>jhL (ρ:=a.eval) hq P w1 w' f args;generalize (execOp a.eval o).run P w1=r at *;cases r with
 | ok n w'=>cases n <;> simp only[Oper.quietUpon]at e <;> first | exact e | exact absurd rfl (Z _ _ _)
 | halt x w'=>simp only[Oper.quietUpon]at e
theorem jtC(o:Oper)(v:vV)(ho:l[k]?=some o)(hk:jku l z done k=true)(hw:Region.wanted o (yielded l.toArray a.tmps)=true)
  (hv:∀ w1,(execOp a.eval o).run P w1=.ok (.value v) w1) (h:MixZ P l z hd E D Q ord (k :: done) (a.put o.dst v) w):MixZ P l z hd E D Q (k :: ord) done a w:=by
 obtain⟨⟨e,q⟩,A,H⟩:=jgi hk
 exact⟨A,H,.inl ⟨e,q,o,v,ho,.inr (.inl ⟨hw,fun w1=>by rw[hv w1];exact⟨rfl,rfl⟩⟩),h⟩⟩
theorem qZA(o:Oper)(v:vV)(ho:l[k]?=some o)(hv:∀ w1,(execOp a.eval o).run P w1=.ok (.value v) w1)(h:MixZ P l z hd E D Q ord (k :: done) (a.put o.dst v) w)(hk:jku l z done k=true:=by kernel_rfl)(hw:Region.wanted o (yielded l.toArray a.tmps)=true:=by rfl):MixZ P l z hd E D Q (k :: ord) done a w:=jtC o v ho hk hw hv h
theorem jmZ(o:Oper)(v:vV)(ho:l[k]?=some o)(hk:jku l z done k=true)(he:jlm l.toArray z k=true)(hw:Region.wanted o (yielded l.toArray a.tmps)=true)
  (hv:∀ w1,D w w1->(execOp a.eval o).run P w1=.ok (.value v) w1) (h:MixZ P l z hd E D Q ord (k :: done) (a.put o.dst v) w):MixZ P l z hd E D Q (k :: ord) done a w:=by
 obtain⟨⟨e,q⟩,A,H⟩:=jgi hk
 exact⟨A,H,.inl ⟨e,q,o,v,ho,.inl ⟨he,.inl ⟨hw,fun w1 J=>by rw[hv w1 J];exact⟨rfl,rfl⟩⟩⟩,h⟩⟩
theorem jqT(p:Addr)(v:vV){t:TypeId}{x:Operand}{d:Option Tmp}{ty:TypeId}{pos:String}{af:Array Edge}{g:Option (Nat × Bool)}(ho:l[k]?=some ⟨d,.load t x,ty,pos,af,g⟩)(hk:jku l z done k=true)(he:jlm l.toArray z k=true)
  (hw:Region.wanted ⟨d,.load t x,ty,pos,af,g⟩ (yielded l.toArray a.tmps)=true) (hx:a.eval x=.pointer (some p))
  (hv:∀ w1,D w w1->(Instr.loadAt t (.pointer (some p))).run P w1=.ok v w1) (h:MixZ P l z hd E D Q ord (k :: done) (a.put d v) w):MixZ P l z hd E D Q (k :: ord) done a w:=by
 refine jmZ _ v ho hk he hw (fun w1 e=>?_) h
 have:=hv w1 e
 simp only[execOp,hx,bK,this,Result.andThen,cP]
theorem qZL{t:TypeId}{x:Operand}{d:Option Tmp}{ty:TypeId}{pos:String}{af:Array Edge}{g:Option (Nat × Bool)}(p:Addr)(v:vV)(ho:l[k]?=some ⟨d,.load t x,ty,pos,af,g⟩)(hv:∀ w1,D w w1->(Instr.loadAt t (.pointer (some p))).run P w1=.ok v w1)(h:MixZ P l z hd E D Q ord (k :: done) (a.put d v) w)(hk:jku l z done k=true:=by kernel_rfl)(he:jlm l.toArray z k=true:=by kernel_rfl)(hw:Region.wanted ⟨d,.load t x,ty,pos,af,g⟩ (yielded l.toArray a.tmps)=true:=by rfl)(hx:a.eval x=.pointer (some p):=by rfl):MixZ P l z hd E D Q (k :: ord) done a w:=jqT p v ho hk he hw hx hv h
def jus(l:List Oper)(z:Nat)(hd done:List Nat)(k:Nat):Bool:=Region.ready .any l.toArray (jaR l done) == [k] && (jaR l done).getD z true == false && k != z && hd.contains k
theorem jcb(o:Oper)(ho:l[k]?=some o)(hk:jus l z hd done k=true)(hw:Region.wanted o (yielded l.toArray a.tmps)=true)
  (h:∀ w1,E w w1->∀ K:Act->vW->Prop,(∀ a' w',D w1 w'->MixZ P l z hd E D Q ord (k :: done) a' w'->K a' w')->o.wp P a w1 K NoQ):MixZ P l z hd E D Q (k :: ord) done a w:=by
 simp only[jus,cC,beq_iff_eq,bne_iff_ne,cL]at hk
 refine⟨hk.1.1.2,hk.1.2,.inr ⟨hk.1.1.1,hk.2,fun w1 q=>?_⟩⟩
 unfold wpOp;have e:l.toArray[k]?=some o:=by simpa using ho
 simp only[e,hw,if_true];exact .inl (h w1 q _ (fun _ _ A H=>⟨A,H⟩))
def jx1(l:List Oper)(z:Nat)(done:List Nat):Bool:=Region.ready .any l.toArray (jaR l done) == [z] && (jaR l done).getD z true == false && (jaR l (z :: done)).getD z true == true && (Region.ready .any l.toArray (jaR l (z :: done))).isEmpty
theorem jcI(o:Oper)(ho:l[z]?=some o)(hk:jx1 l z done=true)(hw:Region.wanted o (yielded l.toArray a.tmps)=true)
  (h:∀ w1,E w w1->∀ K:Act->vW->Prop,(∀ a' w',Q a' w'->K a' w')->o.wp P a w1 K NoQ):MixZ P l z hd E D Q [] done a w:=by
 simp only[jx1,cC,beq_iff_eq,gC]at hk
 refine⟨hk.1.1.1,hk.1.1.2,hk.1.2,hk.2,fun w1 q=>?_⟩
 unfold wpOp;have e:l.toArray[z]?=some o:=by simpa using ho
 simp only[e,hw,if_true];exact .inl (h w1 q _ (fun _ _ h=>h))
end mixz
end
