/- Lemmas; each is under no condition but those that it states. -/
import Derived.Test.YtfjmkebdhojanaaGreatDoorPt32
namespace Go.Proofs.YtfjmkebdhojanaaGreatDoor
set_option linter.unusedSimpArgs false
set_option linter.unusedVariables false
set_option maxRecDepth 100000
set_option maxHeartbeats 16000000
section
open Go Go.RowKit
attribute [local go_sem] Oper.semAt_some
theorem jph{x:vB}(h:x.size≠0):x.toList.isEmpty=false:=by
 rw[bR];cases e:x.data.toList with
 | nil=>exact absurd (show x.size=0 by show x.data.toList.length=0;rw[e];rfl) h
 | cons=>rfl
def Va4R(W:vW)(rs:vM)(sv iv:vV)(wr:vW):Prop:=∃ k:Nat,k<=16/\iv=.int .i64 k/\sv=.int .i64 ((jax 0 (rs.take k)).length:Nat)/\Ext W wr
theorem jqs(rs:vM){k:Nat}{x:vB}(h:rs[k]?=some x):(jax 0 (rs.take (k+1))).length=(jax 0 (rs.take k)).length+(if x.size=0 then 0 else 1):=by
 have:=ji4 ⟨0,⟨#[]⟩,⟨#[]⟩,rs⟩ h
 rw[show jax 0 (rs.take (k+1))=_ from this,bC];split <;> rfl
theorem Tryz.eql_empty(w:vW):(binOp .eql 103 jaH.V (.agg #[.int .i64 0,.string ⟨#[]⟩,.string ⟨#[]⟩,.string ⟨#[]⟩,.string ⟨#[]⟩,.string ⟨#[]⟩,.string ⟨#[]⟩,.string ⟨#[]⟩,.string ⟨#[]⟩,.string ⟨#[]⟩,.string ⟨#[]⟩,.string ⟨#[]⟩,.string ⟨#[]⟩,.string ⟨#[]⟩,.string ⟨#[]⟩,.string ⟨#[]⟩,.string ⟨#[]⟩,.string ⟨#[]⟩,.string ⟨#[]⟩])).run Tryz.prog w=.ok (.bool true) w:=vY
section
variable {I:vB->jad->Prop} (HI:InlR I)
include HI
theorem jtU(w:vW)(n:jad)(h:jbS I n)(hr:n.refs.length=16):vR 130 #[n.V] w (.bool true):=by
 have HG:=Hd h;have b4:=Hd hr;have e0:n.cells[0]?=some (.int .i64 (n.kind:Int)):=rfl;have e1:n.cells[1]?=some (.string n.path):=rfl;have e2:n.cells[2]?=some (.string n.value):=rfl;have eR:∀ (k:Nat) x,n.refs[k]?=some x->n.cells[3+k]?=some (.string x):=fun k x hx=>by
  show (Value.int .i64 (n.kind:Int) :: .string n.path :: .string n.value :: n.refs.map Value.string)[3+k]?=_;rw[show 3+k=k+1+1+1 by omega];simp[hx]
 have A:=Hd (bB e0 (bB e1 (bB e2 eR)));unfold jad.V
 obtain⟨C,hC⟩:=vE n.cells
 rw[<-hC]at A ⊢;have c6:=Hd hC;clear h hr e0 e1 e2 eR hC;unfold vR vQ;go_in;go_wp2_with fail
 have a7:=Blk.new w (.cells C.toArray 103)
 obtain⟨W0,a8⟩:=vE (w.alloc (.cells C.toArray 103))
 have Z:=Hd (show Ext w W0 by rw[a8];exact (ExtR w).alloc _);rw[<-a8]at a7 ⊢
 obtain⟨g,hg⟩:=vE w.heap.size
 rw[<-hg]at a7 ⊢;have b5:=Hd a7;clear a8 hg a7;go_loopw [3,4] (fun sv iv wr=>Va4R W0 n.refs sv iv wr) (fun _ iv _=>16 - (intOf iv).toNat)
 case atStart=>exact⟨0,by omega,rfl,rfl,ExtR W0⟩
 case round =>
  obtain⟨k,hk,rfl,rfl,X⟩:=hrel
  have HE:=Hd X;clear X
  by_cases hlt:k < 16
  ·have b1:(k:Int) < 16:=vO
   obtain⟨x,hx⟩:∃ x,n.refs[k]?=some x:=⟨_,bA (by have:=b4.o;omega)⟩
   have q1:wr.cell? ⟨g,3+k,none⟩=some (.string x):=(b5.o.keeps HE.o (fun h=>h)).cellL (A.o.2.2.2 k x hx);have H:=jqs n.refs hx;have J:(jax 0 (n.refs.take k)).length<=16:=by
    have:∀ (l:vM) (i:Nat),(jax i l).length<=l.length:=fun l=>by
     induction l with
     | nil=>intro i;exact bL _
     | cons y r ih=>intro i;unfold jax;have:=ih (i+1);split <;> simp <;> omega
    have h2:=this (n.refs.take k) 0;have h3:(n.refs.take k).length<=16:=by rw[cI];omega
    omega
   obtain⟨c0,a1⟩:=vE (jax 0 (n.refs.take k)).length
   rw[<-a1]at H J ⊢;clear hx a1
   by_cases hx0:x=⟨#[]⟩
   ·subst hx0
    rw[if_pos (show (⟨#[]⟩:vB).size=0 from rfl)]at H;have a9:=Hd H;clear H;go_wp2_with fail
    go_roundw
    case rel=>exact⟨k+1,by omega,by go_num,by rw[a9.o];rfl,HE.o⟩
    case measure=>exact vJ
   ·have K:x.size≠0:=fun e=>hx0 (jbo (bE e))
    have c7:=jph K;rw[if_neg K]at H;have a9:=Hd H;clear H hx0 K;go_wp2_with fail
    go_roundw
    case rel=>exact⟨k+1,by omega,by go_num,by rw[a9.o];go_num,HE.o⟩
    case measure=>exact vJ
  ·have b2:k=16:=vO
   subst b2;have a6:(jax 0 (n.refs.take 16)).length=(jax 0 n.refs).length:=by rw[bN (by have:=b4.o;omega)]
   rw[a6];have b1:¬((16:Nat):Int) < 16:=vO
   have hB:=b5.o.keeps HE.o (fun h=>h);have HB:=Hd hB;have q0:=hB.cellL A.o.1;have q1:=hB.cellL A.o.2.1;have q2:=hB.cellL A.o.2.2.1;clear a6 hB hlt;have c8:=HG.o;cases c8 with
   | none =>
    have hC:C=jaH.cells:=c6.o;subst hC;have c9:=jaq wr g jaH rfl HB.o;have d0:=Tryz.eql_empty wr;go_wp2_with (first |(refine jaf 103 (.tmp 1) rfl rfl _ _ rfl c9 ?_) |(refine jfx (.tmp 23) (.tmp 24) rfl rfl _ _ (.bool true) rfl rfl vY d0 ?_))
    go_ret
    exact⟨rfl,Z.o.trans HE.o⟩
   | leaf p v h2 h3 h4 =>
    rw[show (jax 0 (jan 16)).length=0 by rw[jdX];rfl]
    obtain⟨z1,z2,z3⟩:=jbR h2
    have hp:=jpQ wr p (by have z2:p.size<=12:=z2;omega);rw[show (jaB p && decide (p.size<=12))=true by rw[show jaB p=true from z3,decide_eq_true (show p.size<=12 from z2)];rfl]at hp;have HP:=Hd hp;have c1:(1:Int)<=(v.size:Int):=vO
    have c2:(v.size:Int)<=80:=vO
    clear hp h2 z1 z2 z3;go_wp2_with fail
    refine HP.o.mono ?_;rintro e w5 ⟨rfl,rfl⟩;go_wp2_with fail
    go_ret
    exact⟨rfl,Z.o.trans HE.o⟩
   | ext p r h2 h3 h4 =>
    have b6:jax 0 (r :: jan 15)=[(0,r)]:=by unfold jax;rw[if_neg h3,jdX]
    rw[show (jax 0 (r :: jan 15)).length=1 by rw[b6];rfl]
    obtain⟨z1,z2,z3⟩:=jbR h2
    have hp:=fun w1=>jpQ w1 p (by have z2:p.size<=12:=z2;omega);rw[show (jaB p && decide (p.size<=12))=true by rw[show jaB p=true from z3,decide_eq_true (show p.size<=12 from z2)];rfl]at hp;have HP:=Hd hp;have d6:=jph (show p.size≠0 by have z1:1<=p.size:=z1;omega);have q3:wr.cell? ⟨g,3,none⟩=some (.string r):=HB.o.cellL (A.o.2.2.2 0 r rfl);have HQ:=Hd (bB q1 (bB q2 q3));have HM:=Hd (fun w1=>jke HI w1 r (h4.imp id (fun ⟨m,h,_⟩=>⟨m,h⟩)));have d1:=Hd (show ∃ (m:jad) (ok:Bool),m.refs.length=16/\(ok=true->m.kind=3)/\∀ w1,vQ 153 #[.string r] w1 fun e w'=>e=.returned (.tuple #[m.V,.bool ok])/\Ext w1 w' from by
     rcases h4 with hh |⟨m,h5,h6⟩
     ·exact⟨jaH,false,rfl,(fun e=>by cases e),fun w1=>ji5 w1 r (by have:=hh.size;omega)⟩
     ·exact⟨m,true,HI.refs r m h5,fun _=>h6,fun w1=>HI.inl r m h5 w1⟩)
    clear hp h2 z1 z2 z3 h3 h4 b6
    obtain⟨m,ok,hm,b7,b8⟩:=d1.o
    have d2:=Hd b7;have HL:=Hd (m.cells_len hm);have b9:=Hd b8;unfold jad.V at b9;clear hm b7 b8;go_wp2_with fail
    refine vH (b9.o wr) fun w5 a0=>?_;cases ok with
    | false =>
     go_wp2_with (first |(refine jaj Tryz.allocNode rfl rfl ?_;intro W3 a2 a3;refine jah (vs:=m.cells) rfl rfl rfl rfl a2 (by rw[HL.o];rfl) (by rw[HL.o];exact Tryz.szNode) m.one ?_;intro W4 a4 a5;have O:Ext w5 W4:=a3.trans' a5 (fun x hx e=>by have e:x=w5.heap.size:=e;omega);have q1:=jaa HQ.o.1 (a0.o.trans O)))
     have E:=Hd (a0.o.trans O);have c4:=Hd (show W4.cell? ⟨w5.heap.size,0,none⟩=some (.int .i64 (m.kind:Int))from a4.cellL vF);clear O a4 a5 a2 a3 q1;refine (HP.o W4).mono ?_;rintro e w6 ⟨rfl,rfl⟩;have q1:=jaa HQ.o.1 E.o;have q2:=jaa HQ.o.2.1 E.o;have q3:=jaa HQ.o.2.2 E.o;go_wp2_with fail
     refine vH (HM.o w6) fun w7 X=>?_;have b0:=Hd (E.o.trans X);clear q1 q2 q3;go_wp2_with fail
     go_ret
     exact⟨rfl,Z.o.trans (HE.o.trans b0.o)⟩
    | true =>
     go_wp2_with (first |(refine jaj Tryz.allocNode rfl rfl ?_;intro W3 a2 a3;refine jah (vs:=m.cells) rfl rfl rfl rfl a2 (by rw[HL.o];rfl) (by rw[HL.o];exact Tryz.szNode) m.one ?_;intro W4 a4 a5;have O:Ext w5 W4:=a3.trans' a5 (fun x hx e=>by have e:x=w5.heap.size:=e;omega);have q1:=jaa HQ.o.1 (a0.o.trans O)))
     have E:=Hd (a0.o.trans O);have c4:=Hd (show W4.cell? ⟨w5.heap.size,0,none⟩=some (.int .i64 (m.kind:Int))from a4.cellL vF);clear O a4 a5 a2 a3 q1;refine (HP.o W4).mono ?_;rintro e w6 ⟨rfl,rfl⟩;have q1:=jaa HQ.o.1 E.o;have q2:=jaa HQ.o.2.1 E.o;have q3:=jaa HQ.o.2.2 E.o;go_wp2_with fail
     refine vC (HM.o w6) fun w7 X=>?_;have b0:=Hd (E.o.trans X);have qk:=jaa c4.o X;rw[d2.o (by simp)]at qk;clear X q1 q2 q3;go_wp2_with fail
     go_ret
     exact⟨rfl,Z.o.trans (HE.o.trans b0.o)⟩
   | branch v rs h2 h3 h4 h5 =>
    have HM:=Hd (fun w1 r hr hz=>jke HI w1 r (h4 r hr hz));have J:(jax 0 rs).length<=16:=by
     have:∀ (l:vM) (i:Nat),(jax i l).length<=l.length:=fun l=>by
      induction l with
      | nil=>intro i;exact bL _
      | cons y r ih=>intro i;unfold jax;have:=ih (i+1);split <;> simp <;> omega
     have:=this rs 0
     omega
    obtain⟨c0,a1⟩:=vE (jax 0 rs).length
    rw[<-a1]at h5 J ⊢;have H5:=Hd h5;have d3:=Hd J;have b3:Hid (rs.length=16):=h2;clear a1 h2 h4 h5 J q1 q2;go_wp2_with fail
    obtain⟨W2,rfl⟩:=vE wr
    go_loopw [7] (fun iv wr=>∃ k:Nat,k<=16/\iv=.int .i64 k/\Ext W2 wr) (fun iv _=>16 - (intOf iv).toNat)
    case atStart=>exact⟨0,by omega,rfl,ExtR W2⟩
    case round =>
     obtain⟨k,hk,rfl,X⟩:=hrel
     have Q:=Hd X;clear X
     by_cases hlt:k < 16
     ·have b1:(k:Int) < 16:=vO
      obtain⟨x,hx⟩:∃ x,rs[k]?=some x:=⟨_,bA (by have:=b3.o;omega)⟩
      have q1:wr.cell? ⟨g,3+k,none⟩=some (.string x):=jaa (HB.o.cellL (A.o.2.2.2 k x hx)) Q.o;have d4:=Hd (bI hx);clear hx
      by_cases hx0:x=⟨#[]⟩
      ·subst hx0
       go_wp2_with fail
       go_roundw
       case rel=>exact⟨k+1,by omega,by go_num,Q.o⟩
       case measure=>exact vJ
      ·have K:x.size≠0:=fun e=>hx0 (jbo (bE e))
       have c7:=jph K;have d5:=Hd (HM.o wr x d4.o K);clear hx0 K;go_wp2_with fail
       refine d5.o.mono ?_;rintro e w5 ⟨rfl,X⟩;have a0:=Hd (Q.o.trans X);clear X;go_wp2_with fail
       go_roundw
       case rel=>exact⟨k+1,by omega,by go_num,a0.o⟩
       case measure=>exact vJ
     ·have q1:wr.cell? ⟨g,1,none⟩=some (.string ⟨#[]⟩):=jaa (HB.o.cellL A.o.2.1) Q.o
      have q2:wr.cell? ⟨g,2,none⟩=some (.string v):=jaa (HB.o.cellL A.o.2.2.1) Q.o;have b1:¬(k:Int) < 16:=vO
      have c2:(v.size:Int)<=80:=vO
      have h5:=H5.o;have J:=d3.o
      by_cases hv0:v=⟨#[]⟩
      ·subst hv0
       have hz:min (⟨#[]⟩:vB).size 1=0:=rfl;rw[hz]at h5;have c3:(2:Int)<=(c0:Int):=vO
       clear h5 hz J;go_wp2_with fail
       go_ret
       exact⟨rfl,Z.o.trans (HE.o.trans Q.o)⟩
      ·have c5:v.size≠0:=fun e=>hv0 (jbo (bE e))
       have d7:=jph c5;have c3:(2:Int)<=(c0:Int)+1:=vO
       clear hv0 c5 h5;go_wp2_with fail
       go_ret
       exact⟨rfl,Z.o.trans (HE.o.trans Q.o)⟩
end
end
section
open Go Go.RowKit
attribute [local go_sem] Oper.semAt_some
theorem jtz{I:vB->jad->Prop}(HI:InlP I)(w:vW)(n:jad)(h:jbS I n):vR 131 #[n.V] w (.string (jaQ n)):=by
 have E:=h.one HI;cases h with
 | none=>exact jmR w _ _ _ rfl
 | leaf p v h2 h3 h4 =>
  obtain⟨H,e,o⟩:=jbR h2
  exact jmQ w p v _ rfl e h4 o
 | ext p r h2 h3 h4 =>
  obtain⟨H,e,o⟩:=jbR h2
  exact joj w p _ r _ e (by have:=E.each r (bG);omega) o
 | branch v rs h2 h3 h4 h5 =>
  have A:=jdg _ E;rw[jdD _ h2]at A;exact jju w v rs h2 h3 (by have A:(catB (ja3 rs v)).size<=1513:=A;omega)
section
variable {I:vB->jad->Prop} (HP:InlP I) (HI:InlR I)
include HP HI
theorem ji7(w:vW)(n:jad)(h:jbS I n):vR 104 #[n.V] w (.tuple #[.string (jaQ n),.int .i64 0]):=by
 have J:=h.one HP;have A:=jaq (w.alloc (.cells n.cells.toArray 103)) _ n J.refs (Blk.new w _);have H:=Hd h;have O:=Hd J;clear h J;unfold jad.V at A ⊢;unfold vR vQ;go_in;go_wp2_with (refine jaf 103 (.tmp 1) rfl rfl _ _ rfl A ?_)
 refine vC (jtU HI _ n H.o O.o.refs) fun Q E=>?_;have X:=(Blk.new w (.cells n.cells.toArray 103)).keeps E (fun h=>h);have e:=jaq Q _ n O.o.refs X;have Z:=Hd (((ExtR w).alloc _).trans E);unfold jad.V at e;clear A E X;go_wp2_with (refine jaf 103 (.tmp 1) rfl rfl _ _ rfl e ?_)
 refine vH (jtz HP Q n H.o) fun w3 E=>?_;have K:=Hd (Z.o.trans E);clear e
 obtain⟨R,hR⟩:=vE (jaQ n)
 rw[<-hR];go_wp2_with fail
 go_ret2
 exact⟨rfl,K.o⟩
end
end
section
open Go Go.RowKit
attribute [local go_sem] Oper.semAt_some
def jrj(x:vB):Prop:=0 < x.size/\∀ (w:vW) (y:vB),(x++y).size<=1000000->vQ 180 #[.string (x++y)] w fun e w'=>∃ l b,e=.returned (.tuple #[.bool l,.string b,.string y,.int .i64 0])/\Ext w w'
def RIt(w:vW)(xs:vM)(sv ov:vV)(wr:vW):Prop:=∃ k:Nat,k<=xs.length/\sv=.string (catB (xs.drop k))/\ORow 9 1 w wr ov k ((xs.take k).map Value.string)
def strL(v:vV):Nat:=match v with | .string s=>s.size | _=>0
theorem jqo(x:vB)(xs:vM):catB (x :: xs)=x++catB xs:=by
 have:=jgr [x] xs
 rw[jgq]at this;exact this
theorem jh5(w:vW)(xs:vM)(hx:∀ x∈xs,jrj x)(hn:xs.length<=1000)(hl:(catB xs).size<=100000):vQ 181 #[.string (catB xs)] w fun e w'=>∃ v,e=.returned (.tuple #[v,.int .i64 0])/\ORow 9 1 w w' v xs.length (xs.map Value.string):=by
 have HX:=Hd hx;have HL:=Hd hl
 obtain⟨s,hs⟩:=vE (catB xs)
 have HS:=Hd hs;rw[<-hs];clear hx hl hs;unfold vQ;go_in;go_wp2_with fail
 go_loopw [0,4] (fun sv ov wr=>RIt w xs sv ov wr) (fun sv _ _=>strL sv)
 case atStart=>exact⟨0,cD _,by rw[HS.o];rfl,ORow.nil _ _ (ExtR w)⟩
 case round =>
  obtain⟨k,hk,rfl,E⟩:=hrel
  have HR:=Hd E
  by_cases hlt:k < xs.length
  ·obtain⟨x,A⟩:=vE (xs[k])
   have hd:xs.drop k=x :: xs.drop (k+1):=by rw[A];exact fZ hlt
   have ht:xs.take (k+1)=xs.take k++[x]:=by rw[bW,bA hlt,A];rfl
   obtain⟨O,Q⟩:=HX.o x (by rw[A];exact dD hlt)
   have H:(catB (xs.drop k)).size<=100000:=by
    have:=jgr (xs.take k) (xs.drop k)
    rw[cV]at this;have h1:=HL.o;rw[this,bV]at h1;omega
   rw[hd,jqo]at H ⊢
   obtain⟨y,hy⟩:=vE (catB (xs.drop (k+1)))
   rw[<-hy]at H ⊢;have HY:=Hd hy;have HT:=Hd ht;have X:(x++y).size=x.size+y.size:=bV;have a3:=jkH x y;have Z:=Hd (fun w1=>Q w1 y vO)
   obtain⟨K,a0⟩:=vE (x++y)
   rw[<-a0]at H X a3 Z ⊢;have b4:K.toList.isEmpty=false:=jbe vO;have d1:(K.size:Int) - (y.size:Int)=(x.size:Int):=vO
   have d2:(x.size:Int)<=(K.size:Int):=vO
   have d3 : -9223372036854775808<=(K.size:Int) - (y.size:Int):=vO
   have d4:(K.size:Int) - (y.size:Int)<=9223372036854775807:=vO
   have a1:y.size < K.size:=vO
   have a4:=Hd a1
   obtain⟨ra,rc,rfl⟩:=E.sl
   have a5:k+1<=maxLen:=by unfold maxLen;omega
   have a7:(k+1) * 16<=140737488355328:=vO
   clear E A hd ht O Q hy a0 X a1;go_wp2_with fail
   refine (Z.o wr).mono ?_;rintro e w1 ⟨l,b,rfl,hE⟩;have a2:=Hd (HR.o.mono hE);have a8:=Hd (jaJ (Blk.new w1 (.cells #[.string x] 9)));clear hE
   obtain⟨i0,a9,b0,b1,b2⟩:=info_parts Tryz.infoStr
   go_wp2_with (at_builtin;refine jbZ _ rfl (.tmp 21) (.tmp 29) 31 rfl 9 i0 _ 1 16 Tryz.uStrs a9 b0 b1 b2 rfl vI (.slice ra k rc) k _ rfl (jbq a2.o.own ((ExtR w1).alloc _)) ⟨w1.heap.size,0,none⟩ 1 1 [.string x] rfl rfl a8.o (by simp[Value.oneCell']) a5 a7 ?_;intro v' w6 r1 r2 r3;obtain⟨a6,c6,rfl⟩:=jaU r1;have J:=Hd ((a2.o.mono ((ExtR w1).alloc (.cells #[.string x] 9))).step r1 r2 r3);clear r1 r2 r3)
   go_roundw
   case rel=>exact⟨k+1,by omega,by rw[HY.o],by rw[HT.o,cB];exact J.o⟩
   case measure=>exact a4.o
  ·have b3:k=xs.length:=vO
   subst b3;rw[cL]at E
   obtain⟨ra,rc,rfl⟩:=E.sl
   have J:=Hd E;rw[gK,show catB []=⟨#[]⟩from rfl];clear E HR;go_wp2_with fail
   go_ret2
   exact⟨_,rfl,J.o⟩
theorem jvf(a b c d:Bool)(h:jed a b=jed c d):a=c/\b=d:=by revert h;revert a b c d;decide
theorem jtv{p q:vB}{a b:Bool}(hp:jaB p=true)(hq:jaB q=true)(h:a≠b\/oddB q≠oddB p):putB q a≠putB p b:=fun e=>by
 have e:=congrArg jbv e;rw[jgK q a hq,jgK p b hp]at e;have e:(jci q a++q.data.toList)=(jci p b++p.data.toList):=congrArg (fun x:vB=>x.data.toList) e;unfold jci at e;rw[dA,dA]at e
 obtain⟨o,A⟩:=jvf _ _ _ _ (List.cons.inj e).1
 rcases h with h | h
 ·exact h o
 ·exact h A
def lfN(leaf:Bool):Nat:=if leaf then 1 else 0
def RGi(w:vW)(n:Nat)(jv:vV)(wr:vW):Prop:=∃ j:Nat,j<=n/\jv=.int .i64 j/\Ext w wr
def RGo(w:vW)(jv:vV)(wr:vW):Prop:=(jv=.int .i64 1\/jv=.int .i64 2)/\Ext w wr
theorem jxy{a:vN}{p:vB}{n:Nat}(h:a.length=n):(⟨(a++p.data.toList).toArray⟩:vB).extract n (⟨(a++p.data.toList).toArray⟩:vB).size=p:=by
 subst h;apply ByteArray.ext;rw[dB];show (a++p.data.toList).toArray.extract a.length (a++p.data.toList).length=_;have e:p.data.toList.length=p.size:=rfl
 simp
 rw[bN vO]
theorem jgi{a b:vB}(h:a≠b):(a.toList == b.toList)=false:=by
 rw[bR,bR];exact beq_eq_false_iff_ne.2 fun e=>h (ByteArray.ext (Array.ext' e))
theorem jv6(w:vW)(p:vB)(leaf:Bool)(hs:p.size<=10000)(hv:jaB p=true)(ho:oddB p=true):vR 182 #[.string (putB p leaf)] w (.tuple #[.string p,.bool leaf,.bool true]):=by
 have A:=jon w (putB p leaf) (by have:=jbn p leaf;omega);have a3:jci p leaf=[jed leaf true]:=by unfold jci;rw[ho,if_pos rfl]
 rw[jgK p leaf hv,a3]at A
 obtain⟨K,H⟩:∃ K:vB,K=⟨([jed leaf true]++p.data.toList).toArray⟩:=⟨_,rfl⟩
 rw[<-H]at A;have hx:K.extract 1 K.size=p:=by rw[H];exact jxy rfl
 have a6:K.size=p.size+1:=by rw[H];show (jed leaf true :: p.data.toList).length=_;rw[bF];rfl
 have b1:(1:Int)<=(K.size:Int):=vO
 have X:=Hd A;have Z:=Hd (fun w1 l=>jm5 w1 p l vO hv);have a4:=Hd (fun l (h:l≠leaf)=>jgi (jtv (p:=p) (q:=p) (a:=l) (b:=leaf) hv hv (.inl h)));have a0:=Hd (show ((putB p leaf).toList ==(putB p leaf).toList)=true by simp)
 obtain⟨s,Q⟩:=vE (putB p leaf)
 rw[<-Q]at X a4 ⊢;rw[show putB p leaf=s from Q.symm]at a0;have a5:=Hd Q;clear A H hv ho a3 Q a6;unfold vR vQ;go_in;go_wp2_with fail
 refine X.o.mono ?_;rintro e w1 ⟨rfl,J⟩;have a7:=Hd J;clear J X;go_wp2_with fail
 go_loopw [6] (fun kv wr=>kv=.int .i64 1/\Ext w wr) (fun _ _=>0)
 case atStart=>exact⟨rfl,a7.o⟩
 case round =>
  obtain⟨rfl,J⟩:=hrel
  have HE:=Hd J;clear J;go_wp2_with fail
  go_loopw [7] (fun jv wr=>RGi w (lfN leaf) jv wr) (fun jv _=>2 - (intOf jv).toNat)
  case atStart=>exact⟨0,cD _,rfl,HE.o⟩
  case round =>
   obtain⟨j,hj,rfl,J⟩:=hrel
   have HE:=Hd J;have a1:j<=1:=by unfold lfN at hj;cases leaf <;> simp at hj <;> omega
   clear J
   by_cases hjl:j=lfN leaf
   ·cases leaf with
    | true =>
     have a2:j=1:=hjl;subst a2;clear hjl hj a1;have E:=Z.o;have a8:=a0.o;go_wp2_with fail
     refine vH (E _ true) fun w2 J=>?_;have O:=Hd (HE.o.trans J);rw[<-a5.o];clear E;go_wp2_with fail
     exact bodyPost_ret (v:=.tuple #[.string p,.bool true,.bool true]) vY rfl ⟨rfl,O.o⟩
    | false =>
     have a2:j=0:=hjl;subst a2;clear hjl hj a1;have E:=Z.o;have a8:=a0.o;go_wp2_with fail
     refine vH (E _ false) fun w2 J=>?_;have O:=Hd (HE.o.trans J);rw[<-a5.o];clear E;go_wp2_with fail
     exact bodyPost_ret (v:=.tuple #[.string p,.bool false,.bool true]) vY rfl ⟨rfl,O.o⟩
   ·have hl:leaf=true:=by cases leaf with | true=>rfl | false=>unfold lfN at hj hjl;simp at hj hjl;omega
    subst hl;have a9:j=0:=by have h1:¬ j=1:=hjl;omega
    subst a9;have b0:=a4.o false vI;have E:=Z.o;clear hjl hj a1;go_wp2_with fail
    refine vH (E _ false) fun w2 J=>?_;have O:=Hd (HE.o.trans J);clear E;go_wp2_with fail
    go_roundw
    case rel=>exact⟨1,bL _,rfl,O.o⟩
    case measure=>simp[intOf]
theorem jtK(w:vW)(p:vB)(leaf:Bool)(hs:p.size<=10000)(hv:jaB p=true)(ho:oddB p=false):vR 182 #[.string (putB p leaf)] w (.tuple #[.string p,.bool leaf,.bool true]):=by
 have J:=jon w (putB p leaf) (by have:=jbn p leaf;omega);have a8:jci p leaf=[jed leaf false,0]:=by unfold jci;rw[ho,if_neg vI]
 rw[jgK p leaf hv,a8]at J
 obtain⟨E,O⟩:∃ E:vB,E=⟨([jed leaf false,0]++p.data.toList).toArray⟩:=⟨_,rfl⟩
 rw[<-O]at J;have hx:E.extract 2 E.size=p:=by rw[O];exact jxy rfl
 obtain⟨z,hz⟩:∃ z:vB,z=(⟨#[0]⟩:vB)++p:=⟨_,rfl⟩
 have a1:z.data.toList=0 :: p.data.toList:=by rw[hz,cZ];simp
 have c2:E.extract 1 E.size=z:=by
  have:E=⟨([jed leaf false]++z.data.toList).toArray⟩:=by rw[O,a1];rfl
  rw[this];exact jxy rfl
 have a2:jaB z=true:=by rw[hz];exact jfT vI hv
 have a9:z.size=p.size+1:=by show z.data.toList.length=_;rw[a1,bF];rfl
 have b0:oddB z=true:=by
  unfold oddB at ho ⊢;rw[a9]
  have:¬ p.size % 2=1:=by simpa using ho
  simp;omega
 have b3:=Hd (fun w1 l=>jm5 w1 z l vO a2);have a3:=Hd (fun l=>jgi (jtv (p:=p) (q:=z) (a:=l) (b:=leaf) hv a2 (.inr (by rw[b0,ho];decide))));have b7:E.size=p.size+2:=by rw[O];show (jed leaf false :: 0 :: p.data.toList).length=_;rw[bF,bF];rfl
 have b1:(1:Int)<=(E.size:Int):=vO
 have b2:(2:Int)<=(E.size:Int):=vO
 have a4:=Hd J;have a5:=Hd (fun w1 l=>jm5 w1 p l vO hv);have b4:=Hd (fun l (h:l≠leaf)=>jgi (jtv (p:=p) (q:=p) (a:=l) (b:=leaf) hv hv (.inl h)));have a6:=Hd (show ((putB p leaf).toList ==(putB p leaf).toList)=true by simp)
 obtain⟨s,a0⟩:=vE (putB p leaf)
 rw[<-a0]at a4 b4 a3 ⊢;rw[show putB p leaf=s from a0.symm]at a6;have b5:=Hd a0;clear J O hv ho a8 a0 b7 hz a1 a2 a9 b0;unfold vR vQ;go_in;go_wp2_with fail
 refine a4.o.mono ?_;rintro e w1 ⟨rfl,H⟩;have b8:=Hd H;clear H a4;go_wp2_with fail
 go_loopw [6] (fun kv wr=>RGo w kv wr) (fun kv _=>3 - (intOf kv).toNat)
 case atStart=>exact⟨.inl rfl,b8.o⟩
 case round =>
  obtain⟨b9,H⟩:=hrel
  have Z:=Hd H;clear H;rcases b9 with rfl | rfl
  ·go_wp2_with fail
   go_loopw [7] (fun jv wr=>RGi w 2 jv wr) (fun jv _=>2 - (intOf jv).toNat)
   case atStart=>exact⟨0,cD _,rfl,Z.o⟩
   case round =>
    obtain⟨j,Q,rfl,H⟩:=hrel
    have Z:=Hd H;clear H
    by_cases h0:j=0
    ·subst h0
     have b6:=a3.o false;have A:=b3.o;clear Q;go_wp2_with fail
     refine vH (A _ false) fun w2 H=>?_;have K:=Hd (Z.o.trans H);clear A;go_wp2_with fail
     go_roundw
     case rel=>exact⟨1,by omega,rfl,K.o⟩
     case measure=>simp[intOf]
    by_cases h1:j=1
    ·subst h1
     have b6:=a3.o true;have A:=b3.o;clear Q h0;go_wp2_with fail
     refine vH (A _ true) fun w2 H=>?_;have K:=Hd (Z.o.trans H);clear A;go_wp2_with fail
     go_roundw
     case rel=>exact⟨2,by omega,rfl,K.o⟩
     case measure=>simp[intOf]
    ·have X:j=2:=vO
     subst X;clear h0 h1 Q;go_wp2_with fail
     go_roundw
     case rel=>exact⟨.inr rfl,Z.o⟩
     case measure=>simp[intOf]
  go_wp2_with fail
  go_loopw [7] (fun jv wr=>RGi w (lfN leaf) jv wr) (fun jv _=>2 - (intOf jv).toNat)
  case atStart=>exact⟨0,cD _,rfl,Z.o⟩
  case round =>
   obtain⟨j,Q,rfl,H⟩:=hrel
   have Z:=Hd H;have X:j<=1:=by unfold lfN at Q;cases leaf <;> simp at Q <;> omega
   clear H
   by_cases hjl:j=lfN leaf
   ·cases leaf with
    | true =>
     have a7:j=1:=hjl;subst a7;clear hjl Q X;have A:=a5.o;have c0:=a6.o;go_wp2_with fail
     refine vH (A _ true) fun w2 H=>?_;have K:=Hd (Z.o.trans H);rw[<-b5.o];clear A;go_wp2_with fail
     exact bodyPost_ret (v:=.tuple #[.string p,.bool true,.bool true]) vY rfl ⟨rfl,K.o⟩
    | false =>
     have a7:j=0:=hjl;subst a7;clear hjl Q X;have A:=a5.o;have c0:=a6.o;go_wp2_with fail
     refine vH (A _ false) fun w2 H=>?_;have K:=Hd (Z.o.trans H);rw[<-b5.o];clear A;go_wp2_with fail
     exact bodyPost_ret (v:=.tuple #[.string p,.bool false,.bool true]) vY rfl ⟨rfl,K.o⟩
   ·have hl:leaf=true:=by cases leaf with | true=>rfl | false=>unfold lfN at Q hjl;simp at Q hjl;omega
    subst hl;have c1:j=0:=by have h1:¬ j=1:=hjl;omega
    subst c1;have b6:=b4.o false vI;have A:=a5.o;clear hjl Q X;go_wp2_with fail
    refine vH (A _ false) fun w2 H=>?_;have K:=Hd (Z.o.trans H);clear A;go_wp2_with fail
    go_roundw
    case rel=>exact⟨1,bL _,rfl,K.o⟩
    case measure=>simp[intOf]
theorem jwR(w:vW)(p:vB)(leaf:Bool)(hs:p.size<=10000)(hv:jaB p=true):vR 182 #[.string (putB p leaf)] w (.tuple #[.string p,.bool leaf,.bool true]):=by
 cases ho:oddB p with
 | true=>exact jv6 w p leaf hs hv ho
 | false=>exact jtK w p leaf hs hv ho
end
section
open Go Go.RowKit
attribute [local go_sem] Oper.semAt_some
theorem jmj(b:vU)(n:Nat):0 < (jb9 b n).size:=by
 unfold jb9;split
 ·exact iZ
 ·rw[bV]
  exact bQ iZ (Nat.le_add_right 1 _)
theorem jeB(b:vB):0 < (jao b).size:=by
 unfold jao;split
 ·rename_i h;omega
 ·rw[bV];have:=jmj 128 b.size;omega
theorem jsK(xs:vM):0 < (ja7 xs).size:=by
 unfold ja7;rw[bV];have:=jmj 192 (catB xs).size;omega
theorem jdI(b:vB)(hb:b.size<=100000)(h0:0 < (jao b).size):jrj (jao b):=⟨h0,fun w y h=>(jgg w b y hb h).mono fun e w' ⟨o,A⟩=>⟨_,_,o,A⟩⟩
theorem jq0(xs:vM)(hb:(catB xs).size<=100000)(h0:0 < (ja7 xs).size):jrj (ja7 xs):=⟨h0,fun w y h=>(ji8 w xs y hb h).mono fun e w' ⟨o,A⟩=>⟨_,_,o,A⟩⟩
theorem jiR{W0 W:vW}{v:vV}{n:Nat}{xs:vM}(h:ORow 9 1 W0 W v n (xs.map Value.string))(hn:0 < n):∃ g c,v=.slice (some ⟨g,0,none⟩) n c/\∀ (j:Nat) t,xs[j]?=some t->W.cell? ⟨g,j,none⟩=some (.string t):=by
 have E:=h.own
 obtain⟨O,⟨o,H⟩ |⟨g,A,J,o,H⟩⟩:=h.own
 ·obtain⟨a,c,e⟩:=h.sl
  rw[e]at o
  have:=(cN o).2.1
  omega
 ·subst o
  refine⟨g,A,rfl,fun j t K=>?_⟩
  have q:=E.cells (g:=g) rfl j (.string t) (by rw[bX,K];rfl)
  rwa [Addr.add_lit,cH]at q
theorem jhx(w:vW)(xs:vM)(hb:(catB xs).size<=100000)(hs:(ja7 xs).size<=1000000):vR 180 #[.string (ja7 xs)] w (.tuple #[.bool true,.string (catB xs),.string ⟨#[]⟩,.int .i64 0]):=by
 have e:ja7 xs++(⟨#[]⟩:vB)=ja7 xs:=iE;have h:=ji8 w xs ⟨#[]⟩ hb (by rw[e];exact hs)
 rwa [e]at h
section
variable {I:vB->jad->Prop} (HP:InlP I)
include HP
theorem jpK{r:vB}(h:MayP I r):r.size<=33:=by
 rcases h with h |⟨m,h⟩
 ·exact Nat.le_of_eq h.size
 ·have:=HP.small r m h;omega
theorem jpJ{r:vB}(h:MayP I r):jrj r:=by
 rcases h with⟨h,hs,rfl⟩ |⟨m,h⟩
 ·exact jdI h vO (jeB h)
 ·have e:=HP.small r m h
  obtain⟨xs,rfl,_⟩:=HP.list r m h
  exact jq0 xs (by unfold ja7 at e;rw[bV]at e;omega) (jsK xs)
end
section
variable {I:vB->jad->Prop} (HP:InlP I) (HI:InlR I)
include HP HI
theorem joo(w:vW)(p v:vB)(h2:(⟨1,p,v,jan 16⟩:jad).pathOk 0=true)(h3:0 < v.size)(h4:v.size<=80):vR 168 #[.string (jaQ ⟨1,p,v,jan 16⟩)] w (.tuple #[jad.V ⟨1,p,v,jan 16⟩,.bool true]):=by
 have hG:jbS I ⟨1,p,v,jan 16⟩:=.leaf p v h2 h3 h4
 obtain⟨z1,z2,z3⟩:=jbR h2
 have c6:=jbn p true;have c7:=jaN (putB p true);have e4:=jaN v;have z2:p.size<=12:=z2;have J:=Hd (fun w1=>ji7 HP HI w1 _ hG);have a0:=Hd (fun w1=>jwR w1 p true vO z3)
 obtain⟨E,O⟩:=vE (putB p true)
 have c8:jaQ ⟨1,p,v,jan 16⟩=ja7 [jao E,jao v]:=by rw[O];rfl
 rw[<-O]at c6 c7 a0;have hc:(catB [jao E,jao v]).size<=200:=by rw[ja4,ja4,jcK];omega
 have e5:=jcS [jao E,jao v];rw[c8]at J ⊢;have c9:=Hd (fun w1=>jhx w1 [jao E,jao v] vO vO);have d0:=jeB E;have d1:=jeB v;have d2:=Hd (fun w1=>jh5 w1 [jao E,jao v] (fun x hx=>by
  simp only[bM,cM,or_false]at hx;rcases hx with rfl | rfl
  ·exact jdI E vO d0
  ·exact jdI v vO d1) (by simp) vO)
 have d3:=Hd (fun w1=>jh6 w1 E vO);have d4:=Hd (fun w1=>jh6 w1 v vO)
 obtain⟨s,hs⟩:=vE (ja7 [jao E,jao v])
 obtain⟨b,hb⟩:=vE (catB [jao E,jao v])
 obtain⟨t1,a7⟩:=vE (jao E)
 obtain⟨t2,a8⟩:=vE (jao v)
 have c0:¬(1000:Int) < (s.size:Int):=by rw[hs];omega
 rw[<-hs, <-hb]at c9;rw[<-hb, <-a7, <-a8]at d2;rw[<-a7]at d3;rw[<-a8]at d4;rw[<-hs]at J ⊢;clear hG h2 z1 z2 z3 c6 c7 e4 O c8 hc e5 d0 d1 hs hb a7 a8;unfold jad.V at J ⊢;unfold vR vQ;go_in;go_wp2_with (first |(refine jaj Tryz.allocNode rfl rfl ?_;have e6:=Q.o;intro W2 d5 a9) |(refine jaj Tryz.allocNode rfl rfl ?_;intro W1 d6 a5;have Q:=Hd d6) |(refine jah (vs:=jaH.cells) rfl rfl rfl rfl d5 rfl Tryz.szNode jaH.one ?_;intro W3 d7 b0))
 have b1:=Hd d7;have d8:=Hd ((Q.o.keeps a9 (fun h=>h)).keeps b0 (by have:=Q.o.lt;omega));have d9:Ext w W3:=(a5.trans a9).trans' b0 (fun x hx e=>by have e:x=W1.heap.size:=e;have:=a5.size;omega);have e7:=Hd d9
 obtain⟨gr,e0⟩:=vE w.heap.size
 obtain⟨A,e1⟩:=vE W1.heap.size
 have b2:=Hd (show gr≠A/\w.heap.size<=gr/\w.heap.size<=A from by have:=Q.o.lt;have:=a5.size;omega);rw[<-e0]at d8 ⊢;rw[<-e1]at b1 ⊢;clear d6 a5 Q e6 d5 a9 d7 b0 d9 e0 e1;refine vH (c9.o W3) fun w4 e2=>?_;go_wp2_with fail
 refine (d2.o w4).mono ?_;rintro e w5 ⟨lv,rfl,hL⟩
 obtain⟨g,c,rfl,H⟩:=jiR hL (Nat.zero_lt_succ _)
 rw[show [t1,t2].length=2 from rfl];have q1:=H 0 t1 rfl;have q2:=H 1 t2 rfl;have HQ:=Hd (bB q1 q2);have b3:=Hd (e2.o.trans hL.ext);have e9:w4.heap.size<=g:=hL.new g rfl;have b8:=b1.o.lt;have b9:=e2.o.size;have g1:¬ A=g:=vO
 have g2:¬ g=A:=vO
 clear H hL q2 e9 b8 b9;go_wp2_with fail
 refine vH (d3.o w5) fun w6 f3=>?_;clear q1;go_wp2_with fail
 refine vH (a0.o w6) fun w7 hE=>?_;have a6:=Hd (f3.o.trans hE);have X:=Hd (b1.o.keeps (b3.o.trans a6.o) (fun h=>h));have f4:=Hd (d8.o.keeps (b3.o.trans a6.o) (fun h=>h));have k0:=X.o.cellL (i:=0) (v:=.int .i64 0) rfl;have k1:=X.o.cellL (i:=1) (v:=.string ⟨#[]⟩) rfl;have f0:w7.frozen? ⟨A,0,none⟩=false:=X.o.frozen;have f1:w7.frozen? ⟨A,1,none⟩=false:=X.o.frozen;have q2:=jaa HQ.o.2 a6.o;go_wp2_with fail
 obtain⟨w8,b4⟩:=vE ((w7.setCell ⟨A,1,none⟩ (.string p)).setCell ⟨A,0,none⟩ (.int .i64 1))
 have b5:=(X.o.set_same (i:=1) (.string p)).set_same (i:=0) (.int .i64 1);have b6:jae (fun z=>z=A) w7 w8:=by rw[b4];exact ((jae.refl (fun z=>z=A) w7).setCell (p:=⟨A,1,none⟩) (.inl rfl) _).setCell (p:=⟨A,0,none⟩) (.inl rfl) _
 rw[<-b4]at b5 ⊢;have f5:=Hd (show Blk w8 A (.cells (jad.cells ⟨1,p,⟨#[]⟩,jan 16⟩).toArray 103)from b5);have f6:=Hd b6;have f7:=Hd (f4.o.keeps b6 b2.o.1);clear k0 k1 f0 f1 q2 b4 b5 b6;refine vC (d4.o w8) fun w9 hE=>?_;have e3:=Hd hE;have b7:=Hd (f5.o.keeps hE (fun h=>h));have k2:=b7.o.cellL (i:=2) (v:=.string ⟨#[]⟩) rfl;have f2:w9.frozen? ⟨A,2,none⟩=false:=b7.o.frozen;have Z:Blk (w9.setCell ⟨A,2,none⟩ (.string v)) A (.cells (jad.cells ⟨1,p,v,jan 16⟩).toArray 103):=b7.o.set_same (i:=2) (.string v);have K:=jaq _ A ⟨1,p,v,jan 16⟩ rfl Z;have a1:=Hd Z;unfold jad.V at K;clear hE Z;go_wp2_with (refine jaf 103 (.tmp 4) rfl rfl _ _ rfl K ?_)
 have a2:=Hd ((f7.o.keeps e3.o (fun h=>h)).keeps ((jae.refl (fun z=>z=A) w9).setCell (p:=⟨A,2,none⟩) (.inl rfl) (.string v)) b2.o.1);have a3:=Hd ((jae.refl (fun z=>z=A) w9).setCell (p:=⟨A,2,none⟩) (.inl rfl) (.string v))
 obtain⟨f8,a4⟩:=vE (w9.setCell ⟨A,2,none⟩ (.string v))
 rw[<-a4]at a2 a3 a1 ⊢;clear k2 f2 K a4;refine vC (J.o f8) fun g3 hE=>?_;have c1:=Hd hE;have c2:=a1.o.keeps hE (fun h=>h);have K:=jaq _ A ⟨1,p,v,jan 16⟩ rfl c2;have c3:=a2.o.keeps hE (fun h=>h);have g4:(s != s)=false:=by unfold bne;rw[show (s == s)=true by rw[jen];exact decide_eq_true rfl];rfl
 unfold jad.V at K;clear hE;go_wp2_with (first |(refine jaf 103 (.tmp 4) rfl rfl _ _ rfl K ?_) |(refine jah (vs:=jad.cells ⟨1,p,v,jan 16⟩) rfl rfl rfl rfl c3 rfl Tryz.szNode (jad.one _) ?_;intro f9 c4 c5))
 refine bodyPost_ret (jaF rfl rfl rfl (jaw f9 _ ⟨1,p,v,jan 16⟩ rfl c4)) rfl ?_;have hz:=b2.o;have e8:=((e7.o.trans b3.o).trans a6.o).trans' f6.o (fun x hx e=>by have e:x=A:=e;omega);have g0:=(e8.trans e3.o).trans' a3.o (fun x hx e=>by have e:x=A:=e;omega)
 exact⟨rfl,(g0.trans c1.o).trans' c5 (fun x hx e=>by have e:x=gr:=e;omega)⟩
theorem jq1(w:vW)(p r:vB)(h2:(⟨2,p,⟨#[]⟩,r :: jan 15⟩:jad).pathOk 1=true)(h3:r.size≠0)(h4:jfa r\/∃ m,I r m/\m.kind=3):vR 168 #[.string (jaQ ⟨2,p,⟨#[]⟩,r :: jan 15⟩)] w (.tuple #[jad.V ⟨2,p,⟨#[]⟩,r :: jan 15⟩,.bool true]):=by
 have hG:jbS I ⟨2,p,⟨#[]⟩,r :: jan 15⟩:=.ext p r h2 h3 h4
 obtain⟨z1,z2,z3⟩:=jbR h2
 have b9:=jbn p false;have c1:=jaN (putB p false);have d7:=jpK HP (h4.imp id (fun ⟨m,h,_⟩=>⟨m,h⟩):MayP I r);have c2:=jpJ HP (h4.imp id (fun ⟨m,h,_⟩=>⟨m,h⟩):MayP I r);have z2:p.size<=12:=z2;have K:=Hd (fun w1=>ji7 HP HI w1 _ hG);have a1:=Hd (fun w1=>jwR w1 p false vO z3)
 obtain⟨A,Q⟩:=vE (putB p false)
 have c3:jaQ ⟨2,p,⟨#[]⟩,r :: jan 15⟩=ja7 [jao A,r]:=by rw[Q];rfl
 rw[<-Q]at b9 c1 a1;have hc:(catB [jao A,r]).size<=200:=by rw[ja4,ja4,jcK];omega
 have d8:=jcS [jao A,r];rw[c3]at K ⊢;have c4:=Hd (fun w1=>jhx w1 [jao A,r] vO vO);have c5:=jeB A;have c6:=Hd (fun w1=>jh5 w1 [jao A,r] (fun x hx=>by
  simp only[bM,cM,or_false]at hx;rcases hx with rfl | rfl
  ·exact jdI A vO c5
  ·exact c2) (by simp) vO)
 have c7:=Hd (fun w1=>jh6 w1 A vO)
 obtain⟨s,hs⟩:=vE (ja7 [jao A,r])
 obtain⟨b,hb⟩:=vE (catB [jao A,r])
 obtain⟨t1,a7⟩:=vE (jao A)
 have c0:¬(1000:Int) < (s.size:Int):=by rw[hs];omega
 rw[<-hs, <-hb]at c4;rw[<-hb, <-a7]at c6;rw[<-a7]at c7;rw[<-hs]at K ⊢;clear hG h2 z1 z2 z3 b9 c1 d7 c2 h3 h4 Q c3 hc d8 c5 hs hb a7;unfold jad.V at K ⊢;unfold vR vQ;go_in;go_wp2_with (first |(refine jaj Tryz.allocNode rfl rfl ?_;have d9:=X.o;intro W2 c8 a8) |(refine jaj Tryz.allocNode rfl rfl ?_;intro W1 c9 a5;have X:=Hd c9) |(refine jah (vs:=jaH.cells) rfl rfl rfl rfl c8 rfl Tryz.szNode jaH.one ?_;intro W3 d0 a9))
 have b0:=Hd d0;have d1:=Hd ((X.o.keeps a8 (fun h=>h)).keeps a9 (by have:=X.o.lt;omega));have d2:Ext w W3:=(a5.trans a8).trans' a9 (fun x hx e=>by have e:x=W1.heap.size:=e;have:=a5.size;omega);have e0:=Hd d2
 obtain⟨gr,d3⟩:=vE w.heap.size
 obtain⟨E,d4⟩:=vE W1.heap.size
 have d5:=Hd (show gr≠E/\w.heap.size<=gr/\w.heap.size<=E from by have:=X.o.lt;have:=a5.size;omega);rw[<-d3]at d1 ⊢;rw[<-d4]at b0 ⊢;clear c9 a5 X d9 c8 a8 d0 a9 d2 d3 d4;refine vH (c4.o W3) fun w4 d6=>?_;go_wp2_with fail
 refine (c6.o w4).mono ?_;rintro e w5 ⟨lv,rfl,hL⟩
 obtain⟨g,c,rfl,H⟩:=jiR hL (Nat.zero_lt_succ _)
 rw[show [t1,r].length=2 from rfl];have q1:=H 0 t1 rfl;have q2:=H 1 r rfl;have HQ:=Hd (bB q1 q2);have b1:=Hd (d6.o.trans hL.ext);have e1:w4.heap.size<=g:=hL.new g rfl;have b2:=b0.o.lt;have b3:=d6.o.size;have e7:¬ E=g:=vO
 have e8:¬ g=E:=vO
 clear H hL q2 e1 b2 b3;go_wp2_with fail
 refine vH (c7.o w5) fun w6 e2=>?_;clear q1;go_wp2_with fail
 refine vH (a1.o w6) fun w7 hE=>?_;have a6:=Hd (e2.o.trans hE);have J:=Hd (b0.o.keeps (b1.o.trans a6.o) (fun h=>h));have e3:=Hd (d1.o.keeps (b1.o.trans a6.o) (fun h=>h));have k0:=J.o.cellL (i:=0) (v:=.int .i64 0) rfl;have k1:=J.o.cellL (i:=1) (v:=.string ⟨#[]⟩) rfl;have k3:=J.o.cellL (i:=3) (v:=.string ⟨#[]⟩) rfl;have f0:w7.frozen? ⟨E,0,none⟩=false:=J.o.frozen;have f1:w7.frozen? ⟨E,1,none⟩=false:=J.o.frozen;have f3:w7.frozen? ⟨E,3,none⟩=false:=J.o.frozen;have q2:=jaa HQ.o.2 a6.o;have Z:Blk (((w7.setCell ⟨E,1,none⟩ (.string p)).setCell ⟨E,0,none⟩ (.int .i64 2)).setCell ⟨E,3,none⟩ (.string r)) E (.cells (jad.cells ⟨2,p,⟨#[]⟩,r :: jan 15⟩).toArray 103):=((J.o.set_same (i:=1) (.string p)).set_same (i:=0) (.int .i64 2)).set_same (i:=3) (.string r);have O:=jaq _ E ⟨2,p,⟨#[]⟩,r :: jan 15⟩ rfl Z;have a2:=Hd Z;unfold jad.V at O;clear Z;go_wp2_with (refine jaf 103 (.tmp 4) rfl rfl _ _ rfl O ?_)
 have a0:=Hd ((((jae.refl (fun z=>z=E) w7).setCell (p:=⟨E,1,none⟩) (.inl rfl) (.string p)).setCell (p:=⟨E,0,none⟩) (.inl rfl) (.int .i64 2)).setCell (p:=⟨E,3,none⟩) (.inl rfl) (.string r));have a3:=Hd (e3.o.keeps a0.o d5.o.1)
 obtain⟨e4,a4⟩:=vE (((w7.setCell ⟨E,1,none⟩ (.string p)).setCell ⟨E,0,none⟩ (.int .i64 2)).setCell ⟨E,3,none⟩ (.string r))
 rw[<-a4]at a3 a0 a2 ⊢;clear k0 k1 k3 f0 f1 f3 q2 O a4;refine vC (K.o e4) fun e9 hE=>?_;have b4:=Hd hE;have b5:=a2.o.keeps hE (fun h=>h);have O:=jaq _ E ⟨2,p,⟨#[]⟩,r :: jan 15⟩ rfl b5;have b6:=a3.o.keeps hE (fun h=>h);have f2:(s != s)=false:=by unfold bne;rw[show (s == s)=true by rw[jen];exact decide_eq_true rfl];rfl
 unfold jad.V at O;clear hE;go_wp2_with (first |(refine jaf 103 (.tmp 4) rfl rfl _ _ rfl O ?_) |(refine jah (vs:=jad.cells ⟨2,p,⟨#[]⟩,r :: jan 15⟩) rfl rfl rfl rfl b6 rfl Tryz.szNode (jad.one _) ?_;intro e5 b7 b8))
 refine bodyPost_ret (jaF rfl rfl rfl (jaw e5 _ ⟨2,p,⟨#[]⟩,r :: jan 15⟩ rfl b7)) rfl ?_;have hz:=d5.o;have e6:=((e0.o.trans b1.o).trans a6.o).trans' a0.o (fun x hx e=>by have e:x=E:=e;omega)
 exact⟨rfl,(e6.trans b4.o).trans' b8 (fun x hx e=>by have e:x=gr:=e;omega)⟩
end
end
section
open Go Go.RowKit
attribute [local go_sem] Oper.semAt_some
theorem Tryz.enterText4(args:Array vV)(w:vW):(callFunc 156 args).run Tryz.prog w=.ok (.enter 156 args) w:=vY
section
variable {I:vB->jad->Prop} (HP:InlP I) (HI:InlR I)
include HP HI
theorem jop(w:vW):vR 168 #[.string (jaQ jaH)] w (.tuple #[jaH.V,.bool true]):=by
 have A:=Hd (fun w1=>ji7 HP HI w1 _ (jbS.none (I:=I)));have h0:jao ⟨#[]⟩++(⟨#[]⟩:vB)=jao ⟨#[]⟩:=iE;have O:=fun w1=>jgg w1 ⟨#[]⟩ ⟨#[]⟩ vI (by rw[h0];decide);rw[h0]at O;have a7:=Hd O;have a8:=Hd (fun w1=>jh5 w1 [] (fun x hx=>by cases hx) (by simp) vI);rw[show catB []=(⟨#[]⟩:vB)from rfl]at a8;rw[show jaQ jaH=jao ⟨#[]⟩from rfl]at A ⊢;have c0:¬(1000:Int) < ((jao ⟨#[]⟩).size:Int):=by decide
 obtain⟨s,hs⟩:=vE (jao ⟨#[]⟩)
 rw[<-hs]at A a7 c0 ⊢;clear h0 O hs;unfold jad.V at A ⊢;unfold vR vQ;go_in;go_wp2_with (first |(refine jaj Tryz.allocNode rfl rfl ?_;have b8:=H.o;intro W2 a9 Q) |(refine jaj Tryz.allocNode rfl rfl ?_;intro W1 b0 K;have H:=Hd b0) |(refine jah (vs:=jaH.cells) rfl rfl rfl rfl a9 rfl Tryz.szNode jaH.one ?_;intro W3 b1 X))
 have b2:=Hd b1;have b3:=Hd ((H.o.keeps Q (fun h=>h)).keeps X (by have:=H.o.lt;omega));have b4:Ext w W3:=(K.trans Q).trans' X (fun x hx e=>by have e:x=W1.heap.size:=e;have:=K.size;omega);have b9:=Hd b4
 obtain⟨gr,b5⟩:=vE w.heap.size
 obtain⟨gn,b6⟩:=vE W1.heap.size
 have c1:=Hd (show gr≠gn/\w.heap.size<=gr/\w.heap.size<=gn from by have:=H.o.lt;have:=K.size;omega);rw[<-b5]at b3 ⊢;rw[<-b6]at b2 ⊢;clear b0 K H b8 a9 Q b1 X b4 b5 b6;refine vH (a7.o W3) fun w4 c2=>?_;go_wp2_with fail
 refine (a8.o w4).mono ?_;rintro e w5 ⟨lv,rfl,hL⟩;have Z:=Hd (c2.o.trans hL.ext)
 obtain⟨la,lc,b7⟩:=hL.sl
 rw[show (List.length ([]:vM))=0 from rfl]at b7;subst b7;have J:=b2.o.keeps Z.o (fun h=>h);have E:=jaq _ gn jaH rfl J;have a0:=Hd J;have a1:=Hd (b3.o.keeps Z.o (fun h=>h));unfold jad.V at E;clear hL J;go_wp2_with (refine jaf 103 (.tmp 4) rfl rfl _ _ rfl E ?_)
 clear E;refine vC (A.o w5) fun c4 hE=>?_;have a2:=Hd hE;have a3:=a0.o.keeps hE (fun h=>h);have E:=jaq _ gn jaH rfl a3;have a4:=a1.o.keeps hE (fun h=>h);have c5:(s != s)=false:=by unfold bne;rw[show (s == s)=true by rw[jen];exact decide_eq_true rfl];rfl
 unfold jad.V at E;clear hE;go_wp2_with (first |(refine jaf 103 (.tmp 4) rfl rfl _ _ rfl E ?_) |(refine jah (vs:=jaH.cells) rfl rfl rfl rfl a4 rfl Tryz.szNode (jad.one _) ?_;intro c3 a5 a6))
 refine bodyPost_ret (jaF rfl rfl rfl (jaw c3 _ jaH rfl a5)) rfl ?_;have hz:=c1.o
 exact⟨rfl,((b9.o.trans Z.o).trans a2.o).trans' a6 (fun x hx e=>by have e:x=gr:=e;omega)⟩
end
def jd8(rs:vM)(k:Nat):vM:=rs.take k++jan (16 - k)
theorem jhv{rs:vM}(hr:rs.length=16){k:Nat}(hk:k<=16):(jd8 rs k).length=16:=by
 unfold jd8 jan;rw[bC,cI,List.length_replicate];omega
theorem jmX{rs:vM}(hr:rs.length=16):jd8 rs 16=rs:=by
 unfold jd8;rw[bN vO];simp[jan]
theorem ji3{rs:vM}(hr:rs.length=16){k:Nat}{r:vB}(h:rs[k]?=some r):(jd8 rs k).set k r=jd8 rs (k+1):=by
 have o:=(bP.1 h).1;have e:(rs.take k).length=k:=by rw[cI];omega
 unfold jd8 jan;rw[fK _ _ vO,e,iW,show 16 - k=(16 - (k+1))+1 by omega,fI,dL,bW,h]
 simp
theorem jmY{rs:vM}(hr:rs.length=16){k:Nat}(h:rs[k]?=some ⟨#[]⟩):jd8 rs (k+1)=jd8 rs k:=by
 rw[<-ji3 hr h];have A:=(bP.1 h).1;have o:(rs.take k).length=k:=by rw[cI];omega
 apply List.ext_getElem?;intro j;rw[List.getElem?_set];split
 ·rename_i e
  subst e;rw[if_pos (by rw[jhv hr vO];omega)];unfold jd8 jan;rw[cQ vO,o,iW,iV,if_pos vO]
 ·rfl
theorem jlV(rs:vM)(v x:vB)(k:Nat):(jad.cells ⟨3,⟨#[]⟩,v,rs⟩).toArray.setIfInBounds (3+k) (.string x)=(jad.cells ⟨3,⟨#[]⟩,v,rs.set k x⟩).toArray:=by
 unfold jad.cells;rw[show 3+k=k+1+1+1 by omega];simp only[gH,dG,iB]
theorem jvJ{I:vB->jad->Prop}(HP:InlP I){r:vB}(h:MayP I r):r≠jao ⟨#[]⟩:=fun e=>by
 have A:r.size=1:=by rw[e];rfl
 rcases h with h |⟨m,h⟩
 ·have:=h.size;omega
 ·obtain⟨xs,rfl,_⟩:=HP.list r m h
  have o:=congrArg (fun z:vB=>z.data.toList.head?) e;unfold ja7 jb9 at A o
  by_cases hn:(catB xs).size<=55
  ·rw[if_pos hn]at A o
   rw[bV]at A;have E:(catB xs).size=0:=by
    have:(⟨#[192+UInt8.ofNat (catB xs).size]⟩:vB).size=1:=rfl
    omega
   rw[E]at o;simp at o;revert o;decide
  ·rw[bV]at A;omega
section
variable {I:vB->jad->Prop} (HP:InlP I) (HI:InlR I)
include HP HI
def Rd4R(W:vW)(gn gr:Nat)(rs:vM)(iv:vV)(wr:vW):Prop:=∃ k:Nat,k<=16/\iv=.int .i64 k/\Blk wr gn (.cells (jad.cells ⟨3,⟨#[]⟩,⟨#[]⟩,jd8 rs k⟩).toArray 103)/\jae (fun z=>z=gn) W wr
theorem jlh(w:vW)(v:vB)(rs:vM)(h2:rs.length=16)(h3:v.size<=80)(h4:∀ r∈rs,r.size≠0->MayP I r)(h5:2<=min v.size 1+(jax 0 rs).length):vR 168 #[.string (jaQ ⟨3,⟨#[]⟩,v,rs⟩)] w (.tuple #[jad.V ⟨3,⟨#[]⟩,v,rs⟩,.bool true]):=by
 have hG:jbS I ⟨3,⟨#[]⟩,v,rs⟩:=.branch v rs h2 h3 h4 h5;have J:=Hd (fun w1=>ji7 HP HI w1 _ hG);have g4:=jaN v;have b6:∀ x∈rs.map itB,x.size<=33/\jrj x:=fun x E=>by
  obtain⟨r,hr,rfl⟩:=bK.1 E
  unfold itB
  by_cases Z:r.size=0
  ·rw[if_pos Z];exact⟨by decide,jdI ⟨#[]⟩ vI (jeB _)⟩
  ·rw[if_neg Z];exact⟨jpK HP (h4 r hr Z),jpJ HP (h4 r hr Z)⟩
 have O:ja3 rs v=rs.map itB++[jao v]:=rfl;have hc:(catB (ja3 rs v)).size<=700:=by
  have:∀ L:vM,(∀ x∈L,x.size<=33)->(catB L).size<=33 * L.length:=fun L=>by
   induction L with
   | nil=>intro _;exact bL _
   | cons y l ih =>
    intro h;rw[ja4,bF]
    have:=ih (fun x E=>h x (bD _ E))
    have:=h y bG
    omega
  have h6:=this (rs.map itB) (fun x E=>(b6 x E).1);rw[cC,h2]at h6;rw[O,jgr,bV,jdx];omega
 have d8:=jcS (ja3 rs v);rw[jiQ v rs h2]at J ⊢;have b7:=Hd (fun w1=>jhx w1 (ja3 rs v) vO vO);have d9:(ja3 rs v).length=17:=by rw[O,bC,cC,h2];rfl
 have b0:=Hd (fun w1=>jh5 w1 (ja3 rs v) (fun x E=>by
  rw[O]at E;rcases bU.1 E with E | E
  ·exact (b6 x E).2
  ·rw[bY.1 E];exact jdI v vO (jeB v)) vO vO)
 rw[d9]at b0;have e0:=Hd (fun w1=>jeg w1 ⟨#[]⟩ vI);have e1:=Hd (fun w1=>jh6 w1 v vO);have a2:=Hd (show (ja3 rs v)[16]?=some (jao v) by rw[O,cQ (by rw[cC];omega),cC,h2];rfl);have e2:=Hd (show ∀ k r,rs[k]?=some r->(ja3 rs v)[k]?=some (itB r)from fun k r hk=>by
  have:=(bP.1 hk).1
  rw[O,cS (by rw[cC];exact this),bX,hk];rfl)
 have e3:=Hd (show ∀ r∈rs,r.size≠0->r≠jao ⟨#[]⟩from fun r hr Z=>jvJ HP (h4 r hr Z));have H:=Hd h2
 obtain⟨X,hX⟩:=vE (ja3 rs v)
 rw[<-hX]at J b7 b0 a2 e2 d8 ⊢
 obtain⟨s,hs⟩:=vE (ja7 X)
 obtain⟨b,hb⟩:=vE (catB X)
 obtain⟨t2,e4⟩:=vE (jao v)
 obtain⟨t0,b8⟩:=vE (jao ⟨#[]⟩)
 have c0:¬(1000:Int) < (s.size:Int):=by rw[hs];rw[<-hX]at hc;omega
 rw[<-hs, <-hb]at b7;rw[<-hb]at b0;rw[<-e4]at e1 a2;rw[<-b8]at e0 e3;rw[<-hs]at J ⊢;have c9:=Hd b8;clear hG h2 h3 h4 h5 g4 b6 O hc d8 d9 hX hs hb e4 b8;unfold jad.V at J ⊢;unfold vR vQ;go_in;go_wp2_with (first |(refine jaj Tryz.allocNode rfl rfl ?_;have g5:=a5.o;intro W2 e5 b9) |(refine jaj Tryz.allocNode rfl rfl ?_;intro W1 e6 b3;have a5:=Hd e6) |(refine jah (vs:=jaH.cells) rfl rfl rfl rfl e5 rfl Tryz.szNode jaH.one ?_;intro W3 e7 c1))
 have c2:=Hd e7;have e8:=Hd ((a5.o.keeps b9 (fun h=>h)).keeps c1 (by have:=a5.o.lt;omega));have f1:Ext w W3:=(b3.trans b9).trans' c1 (fun x E e=>by have e:x=W1.heap.size:=e;have:=b3.size;omega);have g6:=Hd f1
 obtain⟨gr,f4⟩:=vE w.heap.size
 obtain⟨A,f5⟩:=vE W1.heap.size
 have b4:=Hd (show gr≠A/\w.heap.size<=gr/\w.heap.size<=A from by have:=a5.o.lt;have:=b3.size;omega);rw[<-f4]at e8 ⊢;rw[<-f5]at c2 ⊢;clear e6 b3 a5 g5 e5 b9 e7 c1 f1 f4 f5;refine vH (b7.o W3) fun w4 f6=>?_;go_wp2_with fail
 refine (b0.o w4).mono ?_;rintro e w5 ⟨lv,rfl,hL⟩
 obtain⟨g,c,rfl,a0⟩:=jiR hL (Nat.zero_lt_succ _)
 have g7:w4.heap.size<=g:=hL.new g rfl;have d0:=c2.o.lt;have d1:=f6.o.size;have i5:¬ A=g:=vO
 have K:¬ g=A:=vO
 have a1:=Hd a0;have c3:=Hd (f6.o.trans hL.ext);have c4:=Hd (c2.o.keeps c3.o (fun h=>h));have g8:=Hd (e8.o.keeps c3.o (fun h=>h));have k0:=c4.o.cellL (i:=0) (v:=.int .i64 0) rfl;have f0:w5.frozen? ⟨A,0,none⟩=false:=c4.o.frozen;clear a0 hL g7 d0 d1;go_wp2_with fail
 have c5:Blk (w5.setCell ⟨A,0,none⟩ (.int .i64 3)) A (.cells (jad.cells ⟨3,⟨#[]⟩,⟨#[]⟩,jan 16⟩).toArray 103):=c4.o.set_same (i:=0) (.int .i64 3);have a6:=Hd ((jae.refl (fun z=>z=A) w5).setCell (p:=⟨A,0,none⟩) (.inl rfl) (.int .i64 3))
 obtain⟨w6,f7⟩:=vE (w5.setCell ⟨A,0,none⟩ (.int .i64 3))
 rw[<-f7]at c5 a6 ⊢;have g9:=Hd c5;clear k0 f0 f7 c5;go_loopw [14] (fun iv wr=>Rd4R w6 A gr rs iv wr) (fun iv _=>16 - (intOf iv).toNat)
 case atStart=>exact⟨0,by omega,rfl,g9.o,jae.refl _ _⟩
 case round =>
  obtain⟨k,hk,rfl,hN,hK⟩:=hrel
  have HN:=Hd hN;have HK:=Hd hK;clear hN hK
  by_cases hlt:k < 16
  ·have b1:(k:Int) < 16:=vO
   have b2:k < 17:=vO
   obtain⟨r,hr⟩:∃ r,rs[k]?=some r:=⟨_,bA (by have:=H.o;omega)⟩
   have q1:wr.cell? ⟨g,k,none⟩=some (.string (itB r)):=jam (jam (a1.o k _ (e2.o k r hr)) a6.o K) HK.o K;have Q1:=Hd q1;have HR:=Hd hr
   obtain⟨x,E⟩:=vE (itB r)
   have HX:=Hd E;rw[<-E]at q1 Q1;clear hr E;go_wp2_with fail
   refine jag [0,1,2,3,4,5] Ext ExtR ExtT vY vY vY ?_;iterate 3 refine vK ?_
   refine qKL ⟨g,k,none⟩ _ rfl (fun w1 h1=>jab Tryz.uStr rfl (jaa Q1.o ((jai wr).trans h1))) ?_;refine vS ?_;refine qKC _ 156 #[.string ⟨#[]⟩] (.string t0) rfl (fun w1=>jat Tryz.enterText4 vY) (fun w1 h1=>e0.o w1) ?_;refine vS ?_
   refine vK ?_
   refine qKE (fun w7 he=>?_);have c6:=Hd ((jai wr).trans he);have f8:=HN.o.keeps c6.o (fun h=>h);have b5:=Hd f8;have f9:=Hd (HK.o.trans (c6.o.mono (fun _ _ h=>h.elim)));clear he q1 f8
   obtain⟨q,hq⟩:=vE (!(x.toList == t0.toList))
   rw[<-hq]
   by_cases hxt:x=t0
   ·have g0:rs[k]?=some ⟨#[]⟩:=by
     have h1:=HR.o
     by_cases Z:r.size=0
     ·rw[h1];exact congrArg some (jbo (bE Z))
     ·exfalso
      refine e3.o r (bI h1) Z ?_;rw[<-hxt,HX.o];unfold itB;rw[if_neg Z]
    have h7:=Hd (jmY H.o g0);have c7:(t0 != t0)=false:=by unfold bne;rw[show (t0 == t0)=true by rw[jen];exact decide_eq_true rfl];rfl
    obtain rfl:q=false:=by rw[hq,hxt,beq_self_eq_true];rfl
    clear g0 hxt hq c7;go_wp2_with fail
    go_roundw
    case rel=>exact⟨k+1,by omega,by go_num,by rw[h7.o];exact b5.o,f9.o⟩
    case measure=>exact vJ
   ·have g1:x=r:=by
     rw[HX.o];unfold itB;rw[if_neg (fun Z=>hxt (by rw[HX.o,c9.o];unfold itB;rw[if_pos Z]))]
    have h8:=Hd (show (jd8 rs k).set k x=jd8 rs (k+1) by rw[g1];exact ji3 H.o HR.o);have c7:(x != t0)=true:=by unfold bne;rw[show (x == t0)=false by rw[jen];exact decide_eq_false hxt];rfl
    obtain rfl:q=true:=by rw[hq,beq_eq_false_iff_ne.2 (fun e=>hxt (jdJ e))];rfl
    have q1:=jaa Q1.o c6.o
    obtain⟨old,k3⟩:∃ old,w7.cell? ⟨A,3+k,none⟩=some old:=⟨_,b5.o.cellL (bA (by rw[jad.cells_len _ (jhv H.o vO)];omega))⟩
    have f3:w7.frozen? ⟨A,3+k,none⟩=false:=b5.o.frozen;clear hxt g1 hq c7;go_wp2_with fail
    have g2:=b5.o.set_same (i:=3+k) (.string x);rw[jlV,h8.o]at g2
    exact⟨⟨k+1,by omega,by go_num,g2,f9.o.setCell (p:=⟨A,3+k,none⟩) (.inl rfl) (.string x)⟩,by simp[intOf];omega⟩
  ·have d2:k=16:=vO
   subst d2;have hN:=HN.o;rw[jmX H.o]at hN;have h9:=Hd hN;have q1:wr.cell? ⟨g,16,none⟩=some (.string t2):=jam (jam (a1.o 16 _ a2.o) a6.o K) HK.o K;have i0:=Hd ((g8.o.keeps a6.o b4.o.1).keeps HK.o b4.o.1);have i1:=Hd (a6.o.trans HK.o);have b1:¬((16:Nat):Int) < 16:=vO
   clear hN hlt;go_wp2_with fail
   refine vC (e1.o wr) fun w9 hE=>?_;have g3:=Hd hE;have c8:=Hd (h9.o.keeps hE (fun h=>h));have k2:=c8.o.cellL (i:=2) (v:=.string ⟨#[]⟩) rfl;have f2:w9.frozen? ⟨A,2,none⟩=false:=c8.o.frozen;have a3:Blk (w9.setCell ⟨A,2,none⟩ (.string v)) A (.cells (jad.cells ⟨3,⟨#[]⟩,v,rs⟩).toArray 103):=c8.o.set_same (i:=2) (.string v);have Q:=jaq _ A ⟨3,⟨#[]⟩,v,rs⟩ H.o a3;have a7:=Hd a3;unfold jad.V at Q;clear hE a3 q1;go_wp2_with (refine jaf 103 (.tmp 4) rfl rfl _ _ rfl Q ?_)
   have a4:=Hd ((jae.refl (fun z=>z=A) w9).setCell (p:=⟨A,2,none⟩) (.inl rfl) (.string v));have a8:=Hd ((i0.o.keeps g3.o (fun h=>h)).keeps a4.o b4.o.1)
   obtain⟨i2,a9⟩:=vE (w9.setCell ⟨A,2,none⟩ (.string v))
   rw[<-a9]at a8 a4 a7 ⊢;clear k2 f2 Q a9;refine vC (J.o i2) fun i6 hE=>?_;have d3:=Hd hE;have d4:=a7.o.keeps hE (fun h=>h);have Q:=jaq _ A ⟨3,⟨#[]⟩,v,rs⟩ H.o d4;have d5:=a8.o.keeps hE (fun h=>h);have i7:(s != s)=false:=by unfold bne;rw[show (s == s)=true by rw[jen];exact decide_eq_true rfl];rfl
   have HL:=Hd (jad.cells_len ⟨3,⟨#[]⟩,v,rs⟩ H.o);unfold jad.V at Q;clear hE;go_wp2_with (first |(refine jaf 103 (.tmp 4) rfl rfl _ _ rfl Q ?_) |(refine jah (vs:=jad.cells ⟨3,⟨#[]⟩,v,rs⟩) rfl rfl rfl rfl d5 (by rw[HL.o];rfl) (by rw[HL.o];exact Tryz.szNode) (jad.one _) ?_;intro i3 d6 d7))
   refine bodyPost_ret (jaF rfl rfl rfl (jaw i3 _ ⟨3,⟨#[]⟩,v,rs⟩ H.o d6)) rfl ?_;have hz:=b4.o;have e9:=((g6.o.trans c3.o).trans' i1.o (fun x E e=>by have e:x=A:=e;omega)).trans g3.o;have i4:=e9.trans' a4.o (fun x E e=>by have e:x=A:=e;omega)
   exact⟨rfl,(i4.trans d3.o).trans' d7 (fun x E e=>by have e:x=gr:=e;omega)⟩
end
section
variable {I:vB->jad->Prop} (HP:InlP I) (HI:InlR I)
include HP HI
theorem jwb(w:vW)(n:jad)(h:jbS I n):vR 168 #[.string (jaQ n)] w (.tuple #[n.V,.bool true]):=by
 cases h with
 | none=>exact jop HP HI w
 | leaf p v h2 h3 h4=>exact joo HP HI w p v h2 h3 h4
 | ext p r h2 h3 h4=>exact jq1 HP HI w p r h2 h3 h4
 | branch v rs h2 h3 h4 h5=>exact jlh HP HI w v rs h2 h3 h4 h5
end
theorem inlR:∀ d,InlR (InlD d)
 | 0=>⟨fun _ _ h=>h.elim,fun _ _ h=>h.elim,fun _ _ h=>h.elim⟩
 | d+1=>⟨fun r m h=>h.2.2.1,fun r m h=>(h.1.one (inlP d)).refs,fun r m h w=>by
  obtain⟨e,rfl,o,A⟩:=h
  exact jmZ w _ m (e.one (inlP d)).refs A o (fun w1=>jwb (inlP d) (inlR d) w1 m e)⟩
end
section
open Go Go.RowKit
attribute [local go_sem] Oper.semAt_some
theorem Tryz.enterPath1r(args:Array vV)(w:vW):(callFunc 101 args).run Tryz.prog w=.ok (.enter 101 args) w:=vY
def Pa5R(w:vW)(l:vL)(v iv:vV)(wr:vW):Prop:=∃ k:Nat,k<=l.length/\iv=.int .i64 k/\ERow w wr v k ((jaP l).take k)
theorem jwa(w:vW)(v:vV)(l:vL)(hv:RdP w v l)(hn:l.length<=1000000)(hs:∀ p∈l,p.1.size<=1000000) :
  vQ 56 #[v] w fun e w'=>∃ u,e=.returned u/\ERow w w' u l.length (jaP l):=by
 have HV:=Hd hv;have HS:=Hd hs
 obtain⟨a0,c0,rfl⟩:=hv.sl;clear hv hs;go_enter Tryz.func56,Tryz.ntmps56;go_wp2_with fail
 go_loopw [3,4] (fun v iv wr=>Pa5R w l v iv wr) (fun _ iv _=>l.length - (intOf iv).toNat)
 case atStart=>exact⟨0,by omega,rfl,ORow.nil _ _ (ExtR w)⟩
 case round =>
  obtain⟨k,hk,rfl,hR⟩:=hrel
  have H:=Hd hR
  obtain⟨la,lc,rfl⟩:=hR.sl;clear hR
  by_cases hlt:k < l.length
  ·have b1:(k:Int) < (l.length:Int):=vO
   obtain⟨⟨x,y⟩,hp⟩:∃ p,l[k]?=some p:=⟨_,bA hlt⟩
   rcases HV.o with⟨_,_,_,h0⟩ |⟨b,o,c1,hh,hb,hc,hcell⟩
   ·rw[h0]at hlt;cases hlt
   cases hh
   obtain⟨q1,q2⟩:=hcell k _ hp
   have Q1:=Hd (jaa q1 H.o.ext);have Q2:=Hd (jaa q2 H.o.ext);have a1:=Hd (HS.o _ (bI hp));have J:=Hd (show (jaP l).take (k+1)=(jaP l).take k++[(jbv x,y)] by
    unfold jaP;rw[bW,bX,hp];rfl)
   have NB:Hid (¬(Value.slice la k lc).ownBlock=some b):=(fun e=>by have:=H.o.new b e;omega);clear hcell hp q1 q2 hb hc;go_wp2_with fail
   refine jaC [0,1,2,3,4,5,6,7,8,9,10,11,12,13,14,15] [13,14] Ext (jae (fun b=>(Value.slice la k lc).ownBlock=some b)) ExtR ExtT (fun x y z h k=>jae.trans h k) (fun x y h=>h.mono (fun _ _ h=>h.elim)) vY vY vY ?_;iterate 5 refine vD ?_
   refine qDL ⟨b,o+k * 2,none⟩ _ rfl (fun w1 h1=>jab Tryz.uStr rfl (jam (jaa Q1.o (jai wr)) h1 NB.o)) ?_;refine vS ?_;refine jiP _ 101 #[.string x] (.string (jbv x)) rfl vY rfl (fun w1=>jat Tryz.enterPath1r vY) (fun w1 h1=>jon w1 x a1.o) ?_;refine vS ?_;iterate 4 refine vD ?_
   refine qDL ⟨b,o+k * 2+1,none⟩ _ rfl (fun w1 h1=>jab Tryz.uStr rfl (jam (jaa Q2.o (jai wr)) h1 NB.o)) ?_;refine vS ?_
   refine vD ?_
   refine qDH _ rfl (fun w2 A K O=>?_);have Q:=Hd (H.o.mono ((jai wr).trans A));clear A
   obtain⟨z,hz⟩:=vE (jbv x)
   rw[<-hz]at J ⊢;clear hz;go_simp;refine O _ _ ((jae.refl _ w2).alloc _) ?_;clear O K;refine qDH _ rfl (fun w3 A K O=>?_);have X:=Hd (Q.o.mono (((ExtR w2).alloc _).trans A));have hB:∀ j u,([.string z,.string y]:List vV)[j]?=some u->w3.cell? ((⟨w2.heap.size,0,none⟩:Addr).add j)=some u:=fun j u hj=>jaa (jaJ (Blk.new w2 (.cells [Value.string z,.string y].toArray 42)) j u hj) A;refine jfz Tryz.sEnts X.o (.tmp 11) (.tmp 24) rfl rfl hB (by intro u hu;simp at hu;rcases hu with rfl | rfl <;> rfl) rfl rfl (by unfold maxLen;omega) vO (fun v' w4 r1 r2 r3=>O _ _ r2 ?_);have Z:ERow w w4 v' (k+1) ((jaP l).take (k+1)):=by
    unfold ERow;rw[J.o,jbb];exact r1
   have E:=Hd Z;clear O K A r1 r2 r3 Z hB Q X
   obtain⟨a4,c4,rfl⟩:=E.o.sl
   refine vS ?_
   refine vD ?_
   refine qDE (fun w5 A=>?_);have a2:=Hd (E.o.mono A);clear A E;go_wp2_with fail
   go_roundw
   case rel=>exact⟨k+1,by omega,by go_num,a2.o⟩
   case measure=>exact vJ
  ·have a3:k=l.length:=vO
   subst a3;have HF:=Hd (show ERow w wr (.slice la l.length lc) l.length (jaP l) by
    have h:=H.o
    rwa [bN (by unfold jaP;rw[cC];exact bL _)]at h)
   go_wp2_with fail
   go_ret
   exact⟨_,rfl,HF.o⟩
def jfY(p x:vB):Bool:=decide (p.size<=x.size) && decide (x.extract 0 p.size=p)
def jc2(p:vB)(l:vL):vL:=(l.filter fun q=>jfY p q.1).map fun q=>(q.1.extract p.size q.1.size,q.2)
theorem jra(p:vB){l:vL}{k:Nat}{q:Pair}(h:l[k]?=some q):jc2 p (l.take (k+1))=jc2 p (l.take k)++(if jfY p q.1 then [(q.1.extract p.size q.1.size,q.2)]else []):=by
 unfold jc2;rw[bW,h,gO,cB,Option.toList_some,dR];split <;> rfl
def Un5R(w:vW)(p:vB)(l:vL)(v iv:vV)(wr:vW):Prop:=∃ k:Nat,k<=l.length/\iv=.int .i64 k/\ERow w wr v (jc2 p (l.take k)).length (jc2 p (l.take k))
theorem jq3(p:vB)(l:vL):(jc2 p l).length<=l.length:=by
 unfold jc2;rw[cC];exact dF _ _
theorem jh7(w:vW)(v:vV)(l:vL)(p:vB)(hv:RdP w v l)(hn:l.length<=1000000)(hs:∀ p∈l,p.1.size<=1000000)(hp:p.size<=1000000) :
  vQ 103 #[v,.string p] w fun e w'=>∃ u,e=.returned u/\ERow w w' u (jc2 p l).length (jc2 p l):=by
 have HV:=Hd hv;have HS:=Hd hs
 obtain⟨a0,c0,rfl⟩:=hv.sl;clear hv hs;go_enter Tryz.func103,Tryz.ntmps103;go_wp2_with fail
 go_loopw [5,6] (fun v iv wr=>Un5R w p l v iv wr) (fun _ iv _=>l.length - (intOf iv).toNat)
 case atStart=>exact⟨0,by omega,rfl,ORow.nil _ _ (ExtR w)⟩
 case round =>
  obtain⟨k,hk,rfl,hR⟩:=hrel
  have A:=Hd hR
  obtain⟨m,hm⟩:=vE (jc2 p (l.take k))
  have a7:m.length<=k:=by
   rw[hm];have Q:=jq3 p (l.take k);rw[cI]at Q;omega
  have HM:=Hd hm;rw[<-hm]at A
  obtain⟨la,lc,rfl⟩:=A.o.sl;clear hR hm
  by_cases hlt:k < l.length
  ·have b1:(k:Int) < (l.length:Int):=vO
   obtain⟨⟨x,y⟩,hq⟩:∃ p,l[k]?=some p:=⟨_,bA hlt⟩
   rcases HV.o with⟨_,_,_,h0⟩ |⟨b,o,c1,hh,hb,hc,hcell⟩
   ·rw[h0]at hlt;cases hlt
   cases hh
   obtain⟨q1,q2⟩:=hcell k _ hq
   have Q1:=Hd (jaa q1 A.o.ext);have Q2:=Hd (jaa q2 A.o.ext);have a8:=Hd (HS.o _ (bI hq));have X:=Hd (jra p hq);rw[<-HM.o]at X;have NB:Hid (¬(Value.slice la m.length lc).ownBlock=some b):=(fun e=>by have:=A.o.new b e;omega);have q1:=Q1.o;clear hcell hq q2 hb hc;have Z:∀ b,jfY p x=b->jc2 p (l.take (k+1))=m++(if b then [(x.extract p.size x.size,y)]else []):=fun b e=>by rw[X.o,e]
   have H:=Hd Z;clear Z
   by_cases hsz:p.size<=x.size
   case neg =>
    have c1:¬(p.size:Int)<=(x.size:Int):=vO
    have O:=Hd (H.o false (by unfold jfY;rw[decide_eq_false hsz];rfl));go_wp2_with fail
    go_roundw
    case rel=>exact⟨k+1,by omega,by go_num,by rw[O.o];simpa using A.o⟩
    case measure=>exact vJ
   have c1:(p.size:Int)<=(x.size:Int):=vO
   by_cases hbg:x.extract 0 p.size=p
   case neg =>
    have hx:((x.extract 0 p.size).toList == p.toList)=false:=beq_eq_false_iff_ne.2 (fun e=>hbg (jdJ e));have O:=Hd (H.o false (by unfold jfY;rw[decide_eq_false hbg,Bool.and_false]));clear hbg;go_wp2_with fail
    go_roundw
    case rel=>exact⟨k+1,by omega,by go_num,by rw[O.o];simpa using A.o⟩
    case measure=>exact vJ
   have hx:((x.extract 0 p.size).toList == p.toList)=true:=by rw[hbg];exact beq_self_eq_true _
   have O:=Hd (show jc2 p (l.take (k+1))=m++[(x.extract p.size x.size,y)]from H.o true (by unfold jfY;rw[decide_eq_true hbg,decide_eq_true hsz];rfl));clear hbg;go_wp2_with fail
   refine jaC [0,1,2,3,4,5,6,7,8,9,10,11,12,13,14,15,16,17] [15,16] Ext (jae (fun b=>(Value.slice la m.length lc).ownBlock=some b)) ExtR ExtT (fun x y z h k=>jae.trans h k) (fun x y h=>h.mono (fun _ _ h=>h.elim)) vY vY vY ?_;iterate 5 refine vD ?_
   refine qDL ⟨b,o+k * 2,none⟩ _ rfl (fun w1 Q=>jab Tryz.uStr rfl (jam (jaa Q1.o (jai wr)) Q NB.o)) ?_;refine vS ?_;iterate 7 refine vD ?_
   refine qDL ⟨b,o+k * 2+1,none⟩ _ rfl (fun w1 Q=>jab Tryz.uStr rfl (jam (jaa Q2.o (jai wr)) Q NB.o)) ?_;refine vS ?_
   refine vD ?_
   refine qDH _ rfl (fun w2 E K hK=>?_);have a1:=Hd (A.o.mono ((jai wr).trans E));clear E
   obtain⟨z,hz⟩:=vE (x.extract p.size x.size)
   rw[<-hz]at O ⊢;clear hz;go_simp;refine hK _ _ ((jae.refl _ w2).alloc _) ?_;clear hK K;refine qDH _ rfl (fun w3 E K hK=>?_);have a2:=Hd (a1.o.mono (((ExtR w2).alloc _).trans E));have hB:∀ j u,([.string z,.string y]:List vV)[j]?=some u->w3.cell? ((⟨w2.heap.size,0,none⟩:Addr).add j)=some u:=fun j u hj=>jaa (jaJ (Blk.new w2 (.cells [Value.string z,.string y].toArray 42)) j u hj) E;refine jfz Tryz.sEnts a2.o (.tmp 34) (.tmp 49) rfl rfl hB (by intro u hu;simp at hu;rcases hu with rfl | rfl <;> rfl) rfl rfl (by unfold maxLen;omega) vO (fun v' w4 r1 r2 r3=>hK _ _ r2 ?_);have a3:ERow w w4 v' (m.length+1) (m++[(z,y)]):=by
    unfold ERow;rw[jbb];exact r1
   have J:=Hd a3;clear hK K E r1 r2 r3 a3 hB a1 a2
   obtain⟨a4,c4,rfl⟩:=J.o.sl
   refine vS ?_
   refine vD ?_
   refine qDE (fun w5 E=>?_);have a5:=Hd (J.o.mono E);clear E J;go_wp2_with fail
   go_roundw
   case rel=>exact⟨k+1,by omega,by go_num,by rw[O.o,bC];exact a5.o⟩
   case measure=>exact vJ
  ·have a6:k=l.length:=vO
   subst a6;have HF:=Hd (show ERow w wr (.slice la m.length lc) (jc2 p l).length (jc2 p l) by
    have h:=A.o;have e:=HM.o;rw[bN (bL _)]at e;rw[<-e];exact h)
   go_wp2_with fail
   go_ret
   exact⟨_,rfl,HF.o⟩
end
section
open Go Go.RowKit
theorem jjK:∀ (a q:vN) (m:Nat),jaY (a.take m) q=min m (jaY a q)
 | [],q,m=>by simp[jaY]
 | x :: r,[],m=>by cases m <;> simp[jaY]
 | x :: r,y :: t,0=>by simp[jaY]
 | x :: r,y :: t,m+1=>by
  have:=jjK r t m
  rw[dV];show (if x=y then jaY (r.take m) t+1 else 0)=min (m+1) (if x=y then jaY r t+1 else 0);split <;> omega
def comF(l:vL)(p:vB):vB:=l.foldl (fun p q=>p.extract 0 (jal p q.1)) p
def comM(a:vB)(l:vL)(m:Nat):Nat:=l.foldl (fun m q=>min m (jal a q.1)) m
theorem jcO(b:vB)(k:Nat):(b.extract 0 k).data.toList=b.data.toList.take k:=by
 rw[dB,fM,dZ];simp
theorem jrV(a:vB):∀ (l:vL) (p:vB) (m:Nat),p.data.toList=a.data.toList.take m->(comF l p).data.toList=a.data.toList.take (comM a l m)
 | [],p,m,h=>h
 | q :: l,p,m,h=>by
  refine jrV a l (p.extract 0 (jal p q.1)) (min m (jal a q.1)) ?_;rw[jcO,h,List.take_take]
  congr 1
  show min (jaY p.data.toList q.1.data.toList) m=min m (jaY a.data.toList q.1.data.toList);rw[h,jjK];omega
theorem jrX(a:vB)(K:Nat):∀ (l:vL) (m:Nat),K<=m->(∀ q∈l,K<=jal a q.1)->K<=comM a l m
 | [],m,h,_=>h
 | q :: l,m,h,hq=>jrX a K l (min m (jal a q.1)) (by have:=hq q bG;omega) (fun x e=>hq x (bD _ e))
theorem joO(a:vB):∀ (l:vL) (m:Nat),comM a l m<=m
 | [],m=>bL _
 | q :: l,m=>bJ (joO a l _) (Nat.min_le_left _ _)
theorem jrY(a:vB):∀ (l:vL) (m:Nat) (q:Pair),q∈l->comM a l m<=jal a q.1
 | p :: l,m,q,h=>by
  rcases bM.1 h with rfl | h
  ·exact bJ (joO a l _) (Nat.min_le_right _ _)
  ·exact jrY a l _ q h
theorem jqr{a b:vN}{k:Nat}(h:a.take k=b.take k)(h1:k<=a.length)(h2:k<=b.length):k<=jaY a b:=by
 rw[jdP a b k h h1 h2];omega
theorem jhQ{f:Nat}{l:vL}(h:jap f l)(h2:2<=l.length):comF l (l.getD 0 pd).1=(l.getD 0 pd).1.extract 0 (comK l):=by
 refine jbo ?_
 obtain⟨a,o⟩:=vE (l.getD 0 pd).1
 have E:l.getD 0 pd∈l:=by
  rw[bH,bA vO];exact dD _
 have H:l.getD (l.length - 1) pd∈l:=by
  rw[bH,bA vO];exact dD _
 have e:=jbi h h2;have A:=(e _ E).2;rw[<-o,jrV a l a a.data.toList.length (bN (bL _)).symm,jcO]
 congr 1
 have J:∀ q∈l,comK l<=jal a q.1:=fun q K=>by
  obtain⟨O,Q⟩:=e q K
  exact jqr (by rw[o];exact O.symm) (by rw[o];exact A) Q
 have X:=jrX a (comK l) l a.data.toList.length (by rw[o];exact A) J;have Z:=jrY a l a.data.toList.length _ H;have h5:jal a (l.getD (l.length - 1) pd).1=comK l:=by rw[o];rfl
 omega
theorem jni{f:Nat}{l:vL}(h:jap f l)(h2:2<=l.length):jc2 ((l.getD 0 pd).1.extract 0 (comK l)) l=jak (comK l) l:=by
 have A:l.getD 0 pd∈l:=by
  rw[bH,bA vO];exact dD _
 have e:=jbi h h2;have o:((l.getD 0 pd).1.extract 0 (comK l)).size=comK l:=by
  rw[cJ];have:=(e _ A).2;omega
 unfold jc2 jak;rw[jI.2 (fun q E=>by
  obtain⟨H,J⟩:=e q E
  unfold jfY;rw[o,decide_eq_true J,Bool.true_and];refine decide_eq_true (jbo ?_);rw[jcO,jcO];exact H),o]
theorem jrD(i:Nat)(hi:i < 256)(q:Pair):jfY ⟨#[i.toUInt8]⟩ q.1=jeT i q:=by
 obtain⟨⟨⟨x⟩⟩,v⟩:=q
 cases x with
 | nil=>rfl
 | cons a r =>
  have o:(1:Nat)<=(⟨⟨a :: r⟩⟩:vB).size:=by show 1<=(a :: r).length;simp
  have A:(⟨⟨a :: r⟩⟩:vB).extract 0 1=⟨#[a]⟩:=jbo (by rw[jcO];rfl);unfold jfY;show (decide ((1:Nat)<=_) && decide ((⟨⟨a :: r⟩⟩:vB).extract 0 1=⟨#[i.toUInt8]⟩))=(a.toNat == i);rw[show (a.toNat == i)=decide (a.toNat=i)from rfl];rw[decide_eq_true o,Bool.true_and,A];refine decide_eq_decide.2 ⟨fun e=>?_,fun e=>?_⟩
  ·have:a=i.toUInt8:=by injection e with e;injection e with e;injection e
   rw[this];simp;omega
  ·rw[<-e];simp
theorem jnj(i:Nat)(hi:i < 256)(l:vL):jc2 ⟨#[i.toUInt8]⟩ l=jak 1 (cutL i l):=by
 unfold jc2 jak cutL;rw[show (fun q:Pair=>jfY ⟨#[i.toUInt8]⟩ q.1)=jeT i from funext (jrD i hi)];rfl
end
section
open Go Go.RowKit
attribute [local go_sem] Oper.semAt_some
theorem jkq{s:vB}(h:s.size=0):s=⟨#[]⟩:=by
 obtain⟨⟨l⟩⟩:=s
 cases l with
 | nil=>rfl
 | cons x r=>cases h
theorem jnF{s:vB}(h:s.size≠0):s.toList.isEmpty=false:=by
 rw[bR]
 obtain⟨⟨l⟩⟩:=s
 cases l with
 | nil=>exact absurd rfl h
 | cons x r=>rfl
theorem ji0(w:vW)(b:vB):vR 129 #[.string ⟨#[]⟩,.string b] w (.int .i64 (jal ⟨#[]⟩ b)):=by
  rw[show jal ⟨#[]⟩ b=0 from jha _ _ (.inl rfl)];unfold vR vQ;go_in;go_wp2_with fail
  refine jag [0,1,2,3,4,5,6,7,8,9,10,11,12] Ext ExtR ExtT vY vY vY ?_;iterate 3 refine vK ?_
  iterate 2 (refine qKS _ rfl ?_;refine vS ?_)
  iterate 2 refine vK ?_
  iterate 5 (refine qKS _ rfl ?_;refine vS ?_)
  refine vK ?_
  refine qKE (fun w1 e=>?_);have A:=Hd ((jai w).trans e);clear e;go_wp2_with fail
  go_ret
  exact⟨rfl,A.o⟩
theorem jmS(w:vW)(a:vB)(ha:a.size≠0):vR 129 #[.string a,.string ⟨#[]⟩] w (.int .i64 (jal a ⟨#[]⟩)):=by
  have A:=jnF ha;rw[show jal a ⟨#[]⟩=0 from jha _ _ (.inr rfl)];unfold vR vQ;go_in;go_wp2_with fail
  refine jag [0,1,2,3,4,5,6,7,8,9,10,11,12] Ext ExtR ExtT vY vY vY ?_;iterate 7 refine vK ?_
  iterate 5 (refine qKS _ rfl ?_;refine vS ?_)
  refine vK ?_
  refine qKE (fun w1 e=>?_);have E:=Hd ((jai w).trans e);clear e;go_wp2_with fail
  go_ret
  exact⟨rfl,E.o⟩
theorem jnP{a b:vB}(ha:0 < a.size)(hb:0 < b.size)(h:a[0]=b[0]):jal a b=1+jal (a.extract 1 a.size) (b.extract 1 b.size):=by
 have e:∀ {s:vB} (o:0 < s.size),s.data.toList=s[0] ::(s.extract 1 s.size).data.toList:=fun {s} o=>by
  have:=jkD s o
  rw[List.drop_zero]at this;rw[this]
  congr 1
  rw[dB]
  simp
  rw[bN (by rw[List.length_tail];exact bL _)]
 unfold jal;rw[e ha,e hb];show (if a[0]=b[0]then _ else 0)=_;rw[if_pos h];omega
theorem jg9:∀ a b:vN,jaY a b<=a.length
 | [],_=>by simp[jaY]
 | x :: r,[]=>by simp[jaY]
 | x :: r,y :: t=>by
  have:=jg9 r t
  show (if x=y then jaY r t+1 else 0)<=_;rw[bF];split <;> omega
theorem jqS(a b:vB):jal a b<=a.size:=jg9 _ _
theorem jnR{a b:vB}(ha:0 < a.size)(hb:0 < b.size)(h:a[0]≠b[0]):jal a b=0:=by
 have e:∀ {s:vB} (o:0 < s.size),s.data.toList=s[0] :: s.data.toList.drop 1:=fun {s} o=>by
  have:=jkD s o
  rwa [List.drop_zero]at this
 unfold jal;rw[e ha,e hb];show (if a[0]=b[0]then _ else 0)=_;rw[if_neg h]
theorem jtA:∀ (n:Nat) (w:vW) (a b:vB),a.size<=n->n<=1000000->b.size<=1000000->vR 129 #[.string a,.string b] w (.int .i64 (jal a b)):=by
 intro n;induction n with
 | zero =>
  intro w a b ha hn hb;have E:=jkq (s:=a) vO;subst E;exact ji0 w b
 | succ n ih =>
  intro w a b ha hn hb
  by_cases ha0:a.size=0
  ·have E:=jkq ha0
   subst E;exact ji0 w b
  by_cases hb0:b.size=0
  ·have E:=jkq hb0
   subst E;exact jmS w a ha0
  have a0:=jnF ha0;have a1:=jnF hb0;have O:0 < a.size:=vO
  have Q:0 < b.size:=vO
  have b1:(0:Int) < (a.size:Int):=vO
  have b2:(0:Int) < (b.size:Int):=vO
  by_cases heq:a[0]=b[0]
  ·rw[jnP O Q heq]
   have hh:((a[0].toNat:Int) !=(b[0].toNat:Int))=false:=by rw[heq];simp
   have b3:(1:Int)<=(a.size:Int):=vO
   have b4:(1:Int)<=(b.size:Int):=vO
   have H:=Hd (fun w1=>ih w1 (a.extract 1 a.size) (b.extract 1 b.size) (by rw[cJ];omega) vO (by rw[cJ];omega))
   obtain⟨c,X⟩:=vE (jal (a.extract 1 a.size) (b.extract 1 b.size))
   have a2:c<=1000000:=by have:=jqS (a.extract 1 a.size) (b.extract 1 b.size);rw[cJ]at this;omega
   rw[<-X]at H ⊢;clear ih heq X;go_enter Tryz.func129,Tryz.ntmps129;go_wp2_with fail
   refine jag [0,1,2,3,4,5,6,7,8,9,10,11,12] Ext ExtR ExtT vY vY vY ?_;iterate 13 refine vK ?_
   refine qKE (fun w1 A=>?_);have J:=Hd ((jai w).trans A);clear A;go_wp2_with fail
   refine jag [0,1,2,3,4,5,6] Ext ExtR ExtT vY vY vY ?_;iterate 4 refine vK ?_
   refine qKC _ 129 #[.string (a.extract 1 a.size),.string (b.extract 1 b.size)] (.int .i64 c) rfl (fun Z=>jat (vX 129) vY) (fun Z _=>H.o Z) ?_;refine vS ?_;iterate 2 refine vK ?_
   refine qKE (fun w3 A=>?_);have K:=Hd (J.o.trans ((jai w1).trans A));clear A;go_wp2_with fail
   go_ret
   exact⟨by simp,K.o⟩
  ·rw[jnR O Q heq]
   have hh:((a[0].toNat:Int) !=(b[0].toNat:Int))=true:=by
    have:a[0].toNat≠b[0].toNat:=fun e=>heq (dS.1 e)
    simp;omega
   clear ih heq;go_enter Tryz.func129,Tryz.ntmps129;go_wp2_with fail
   refine jag [0,1,2,3,4,5,6,7,8,9,10,11,12] Ext ExtR ExtT vY vY vY ?_;iterate 13 refine vK ?_
   refine qKE (fun w1 A=>?_);have J:=Hd ((jai w).trans A);clear A;go_wp2_with fail
   go_ret
   exact⟨rfl,J.o⟩
theorem jrW(h:vB){l:vL}{k:Nat}{q:Pair}(hq:l[k]?=some q):comF (l.take (k+1)) h=(comF (l.take k) h).extract 0 (jal (comF (l.take k) h) q.1):=by
 unfold comF;rw[bW,hq,Option.toList_some,dU];rfl
theorem jlW:∀ (l:vL) (h:vB),(comF l h).size<=h.size
 | [],h=>bL _
 | q :: l,h=>bJ (jlW l _) (by rw[cJ];omega)
def Co5R(w:vW)(h:vB)(l:vL)(v iv:vV)(wr:vW):Prop:=∃ k:Nat,k<=l.length/\v=.string (comF (l.take k) h)/\iv=.int .i64 k/\Ext w wr
theorem jk9(w:vW)(v:vV)(l:vL)(hv:RdP w v l)(hl:l≠[])(hn:l.length<=1000000)(hs:∀ p∈l,p.1.size<=1000000) :
  vR 102 #[v] w (.string (comF l (l.getD 0 pd).1)):=by
 have HS:=Hd hs;have e:0 < l.length:=gE.2 hl
 obtain⟨⟨J,y0⟩,A⟩:∃ p,l[0]?=some p:=⟨_,bA e⟩
 have K:(l.getD 0 pd).1=J:=by rw[bH,A];rfl
 rw[K];rcases hv with⟨_,_,_,h0⟩ |⟨b,o,c1,rfl,hb,hc,hcell⟩
 ·rw[h0]at e;cases e
 have q0:=(hcell 0 _ A).1;rw[gI,fN]at q0;have Z:=Hd (HS.o _ (bI A));have a0:=Hd hcell;have b0:(0:Int) < (l.length:Int):=vO
 clear hs hcell A K;go_enter Tryz.func102,Tryz.ntmps102;go_wp2_with fail
 go_loopw [3,4] (fun v iv wr=>Co5R w J l v iv wr) (fun _ iv _=>l.length - (intOf iv).toNat)
 case atStart=>exact⟨0,by omega,rfl,rfl,ExtR w⟩
 case round =>
  obtain⟨k,hk,rfl,rfl,O⟩:=hrel
  have HE:=Hd O
  obtain⟨p,Q⟩:=vE (comF (l.take k) J)
  have HP:=Hd Q;rw[<-Q];have a1:=Hd (show p.size<=1000000 by rw[Q];exact bJ (jlW _ _) Z.o);clear O Q
  by_cases hlt:k < l.length
  ·have b1:(k:Int) < (l.length:Int):=vO
   obtain⟨⟨x,y⟩,X⟩:∃ p,l[k]?=some p:=⟨_,bA hlt⟩
   have q1:=jaa (a0.o k _ X).1 HE.o;have a2:=Hd (HS.o _ (bI X));have E:=Hd (jrW J X);rw[<-HP.o]at E;clear X;go_wp2_with fail
   refine vH (jtA p.size wr p x (bL _) a1.o a2.o) fun w1 O=>?_
   obtain⟨cm,H⟩:=vE (jal p x)
   have a5:cm<=p.size:=by rw[H];exact jg9 _ _
   have a3:=Hd (HE.o.trans O);rw[<-H]at E ⊢;clear H;have c0:(cm:Int)<=(p.size:Int):=vO
   go_wp2_with fail
   go_roundw
   case rel=>exact⟨k+1,by omega,by rw[E.o],by go_num,a3.o⟩
   case measure=>exact vJ
  ·have a4:k=l.length:=vO
   have HF:=Hd (show p=comF l J by rw[HP.o,a4,bN (bL _)]);go_wp2_with fail
   go_ret
   exact⟨by rw[HF.o];rfl,HE.o⟩
def jgl(l:vL)(n:jad):Prop:=∀ w v,RdP w v l->vR 105 #[v] w n.V
theorem jgN(f:Nat)(l:vL)(hN:jgl l (jar (jac f) l))(h:jap f l)(w:vW)(v:vV)(hv:RdP w v l) :
  vR 58 #[v] w (.string (jac (f+1) l).text):=by
 have A:=Hd (good f l h).1;have J:=Hd hv;have E:=Hd hN
 obtain⟨n,H⟩:=vE (jar (jac f) l)
 rw[show (jac (f+1) l).text=jaQ (jar (jac f) l)from rfl];rw[<-H]at A E ⊢
 obtain⟨Q,X,rfl⟩:=hv.sl;clear hv hN H h;go_enter Tryz.func58,Tryz.ntmps58;go_wp2_with fail
 refine vH (E.o w _ J.o) fun w1 K=>?_;go_wp2_with fail
 refine vH (ji7 (inlP f) (inlR f) w1 n A.o) fun Z O=>?_;have e:=Hd (K.o.trans O);go_wp2_with fail
 go_ret
 exact⟨rfl,e.o⟩
theorem jtS(f:Nat)(l:vL)(hN:jgl l (jar (jac f) l))(h:jap f l)(w:vW)(v:vV)(hv:RdP w v l) :
  vR 132 #[v] w (.string (refB (jac (f+1) l).text)):=by
 have J:=Hd (jgN f l hN h w v hv);have A:Hid ((jac (f+1) l).text.size<=1000000):=(bJ (jhs (jar (jac f) l) ((good f l h).1.one (inlP f))) vI)
 obtain⟨t,K⟩:=vE (jac (f+1) l).text
 rw[<-K]at J A ⊢
 obtain⟨Q,X,rfl⟩:=hv.sl;clear hv hN K h;go_enter Tryz.func132,Tryz.ntmps132;go_wp2_with fail
 refine J.o.mono ?_;rintro e w1 ⟨rfl,E⟩;have O:=Hd E;clear E;go_wp2_with fail
 refine vH (jyt w1 t A.o) fun Z E=>?_;have H:=Hd (O.o.trans E);go_wp2_with fail
 go_ret
 exact⟨rfl,H.o⟩
theorem jqP(B:vL->PT):jgl [] (jar B []):=by
 intro w v J
 obtain⟨O,Q,rfl⟩:=J.sl;clear J;go_enter Tryz.func105,Tryz.ntmps105;go_wp2_with (first |(refine jaj Tryz.allocNode rfl rfl ?_;intro X o A) |(refine jah (vs:=jaH.cells) rfl rfl rfl rfl o rfl Tryz.szNode jaH.one ?_;intro K E H))
 refine bodyPost_ret (jbJ rfl rfl (jaw K _ jaH rfl E)) rfl ?_
 exact⟨rfl,A.trans' H (fun x Z e=>by have e:x=w.heap.size:=e;omega)⟩
theorem jta(B:vL->PT)(x y:vB):jgl [(x,y)] (jar B [(x,y)]):=by
 intro w v hv;rcases hv with⟨_,_,_,h0⟩ |⟨b,o,c1,rfl,hb,hc,hcell⟩
 ·cases h0
 obtain⟨Z,q2⟩:=hcell 0 (x,y) rfl
 rw[gI,fN]at Z;rw[gI,fN]at q2;have Q1:=Hd Z;have Q2:=Hd q2;rw[show List.length [(x,y)]=1 from rfl]at *;rw[show jar B [(x,y)]=⟨1,x,y,jan 16⟩from rfl];have NB:=Hd (show ¬(b=w.heap.size)from by omega);clear hcell Z q2 hc hb;go_enter Tryz.func105,Tryz.ntmps105;go_wp2_with (refine jaj Tryz.allocNode rfl rfl ?_;intro X J O)
 have a0:=Hd J;have A:=Hd O;clear J O;refine jaC [0,1,2,3,4,5,6,7,8,9] [9] Ext (jae (fun z=>z=w.heap.size)) ExtR ExtT (fun x y z h k=>jae.trans h k) (fun x y h=>h.mono (fun _ _ h=>h.elim)) vY vY vY ?_;iterate 3 refine vD ?_
 refine qDL ⟨b,o,none⟩ _ rfl (fun w1 h1=>jab Tryz.uStr rfl (jam (jaa (jaa Q1.o A.o) (jai X)) h1 NB.o)) ?_;refine vS ?_;iterate 3 refine vD ?_
 refine qDL ⟨b,o+1,none⟩ _ rfl (fun w1 h1=>jab Tryz.uStr rfl (jam (jaa (jaa Q2.o A.o) (jai X)) h1 NB.o)) ?_;refine vS ?_
 refine vD ?_
 refine qDH _ rfl (fun w2 E K hK=>?_);refine jjk (vs:=jad.cells ⟨1,x,y,jan 16⟩) rfl rfl rfl ((a0.o.keeps (jai X) (fun h=>h)).keeps E (fun h=>h)) rfl Tryz.szNode (jad.one _) ?_;intro W3 Q H;have a1:=Hd (((A.o.trans (jai X)).trans E).trans' H (fun x hx e=>by have e:x=w.heap.size:=e;omega));have a2:=Hd Q;refine hK _ _ H ?_;clear hK K E Q H;refine qDE (fun w4 E=>?_);have a3:=Hd (a2.o.keeps E (fun h=>h));have a4:=Hd (a1.o.trans E);clear E;go_wp2_with fail
 refine bodyPost_ret (jbJ rfl rfl (jaw w4 _ (jad.mk 1 x y (jan 16)) rfl a3.o)) rfl ?_
 exact⟨rfl,a4.o⟩
theorem js9(f:Nat)(l:vL)(h2:2<=l.length)(hln:l.length<=1000)(hok:jap (f+1) l)(hk:0 < comK l)(hB:jgl (jak (comK l) l) (jar (jac f) (jak (comK l) l)))(hok':jap f (jak (comK l) l)):jgl l (jar (jac (f+1)) l):=by
 intro w v hv;have HV:=Hd hv;have HO:=Hd hok;have d3:=Hd hok';have HB:=Hd hB;have a8:=Hd (jhQ hok h2);have a9:=Hd (jni hok h2);have A:=jbi hok h2;have b0:Hid (∀ p∈l,p.1.size<=1000000):=(fun p hp=>bJ (hok.size p hp).2.1 vI);have b1:((l.getD 0 pd).1.extract 0 (comK l)).size=comK l:=by
  have H:l.getD 0 pd∈l:=by
   rw[bH,bA vO];exact dD _
  rw[cJ];have:=(A _ H).2;omega
 have a4:comK l<=12:=by
  have H:l.getD 0 pd∈l:=by
   rw[bH,bA vO];exact dD _
  exact bJ (A _ H).2 (hok.size _ H).2.1
 have E:jar (jac (f+1)) l=⟨2,(l.getD 0 pd).1.extract 0 (comK l),⟨#[]⟩,refB (jac (f+1) (jak (comK l) l)).text :: jan 15⟩:=by
  unfold jar;rw[if_neg vO,if_neg vO,if_pos hk]
 rw[E]
 obtain⟨p,hp⟩:=vE ((l.getD 0 pd).1.extract 0 (comK l))
 rw[<-hp]at a8 a9 b1 ⊢
 obtain⟨r,hr⟩:=vE (refB (jac (f+1) (jak (comK l) l)).text)
 have HR:=Hd (jtS f _ hB hok');rw[<-hr]at HR ⊢;have b2:=Hd (show 0 < p.size/\p.size<=12 by omega);have O:=fun W (e:Ext w W)=>jk9 W v l (hv.ext e) (fun e=>by rw[e]at h2;simp at h2) vO b0.o;rw[a8.o]at O;have b3:=Hd O;clear O
 obtain⟨a0,c0,rfl⟩:=hv.sl;have g0:¬(l.length:Int)=0:=vO
 have g1:¬(l.length:Int)=1:=vO
 clear hv hok hok' hB A b1 a4 E hp hr hk;go_enter Tryz.func105,Tryz.ntmps105;go_wp2_with (refine jaj Tryz.allocNode rfl rfl ?_;intro W1 b4 b5)
 have b6:=Hd b4;have Q:=Hd b5;clear b4 b5;refine vC (b3.o W1 Q.o) fun w2 hE=>?_;have X:=Hd (Q.o.trans hE);have J:=Hd (b6.o.keeps hE (fun h=>h));clear hE Q b6 b3;have d4:p.toList.isEmpty=false:=by
  rw[bR];cases h:p.data.toList with
  | nil=>have:=b2.o.1;have e:p.data.toList.length=p.size:=rfl;rw[h]at e;simp at e;omega
  | cons=>rfl
 go_wp2_with (first |(refine jaj Tryz.allocNode rfl rfl ?_;intro W3 b7 Z) |(refine jah (vs:=jad.cells ⟨2,p,⟨#[]⟩,jan 16⟩) rfl rfl rfl rfl b7 rfl Tryz.szNode (jad.one _) ?_;intro W4 b8 a1))
 obtain⟨gr,b9⟩:=vE w.heap.size
 obtain⟨K,c1⟩:=vE w2.heap.size
 have c2:=Hd (show gr≠K/\w.heap.size<=gr/\w.heap.size<=K from by have:=J.o.lt;have:=X.o.size;omega);have c3:=Hd ((X.o.trans Z).trans' a1 (fun x hx e=>by have e:x=w2.heap.size:=e;have:=X.o.size;omega));have c4:=Hd ((J.o.keeps Z (fun h=>h)).keeps a1 (by have:=J.o.lt;omega));have c6:=Hd b8;rw[<-b9]at c4 ⊢;rw[<-c1]at c6 ⊢;clear b7 Z b8 a1 b9 c1 J;refine (jh7 W4 _ l p (HV.o.ext c3.o) vO b0.o (by have:=b2.o.2;omega)).mono ?_;rintro e w5 ⟨u,rfl,hU⟩;rw[a9.o]at hU
 obtain⟨a5,c5,rfl⟩:=hU.sl
 have HU:=Hd hU;clear hU;go_wp2_with fail
 refine vH (HR.o w5 _ (ERow.rd HU.o)) fun w6 hE=>?_;have a2:=Hd (HU.o.ext.trans hE);have a3:=Hd (c6.o.keeps a2.o (fun h=>h));have d0:=Hd (c4.o.keeps a2.o (fun h=>h));have k3:=a3.o.cellL (i:=3) (v:=.string ⟨#[]⟩) rfl;have f3:w6.frozen? ⟨K,3,none⟩=false:=a3.o.frozen;have c7:Blk (w6.setCell ⟨K,3,none⟩ (.string r)) K (.cells (jad.cells ⟨2,p,⟨#[]⟩,r :: jan 15⟩).toArray 103):=a3.o.set_same (i:=3) (.string r);have c8:=Hd ((jae.refl (fun z=>z=K) w6).setCell (p:=⟨K,3,none⟩) (.inl rfl) (.string r));have d1:=d0.o.keeps c8.o c2.o.1;have c9:=jaq _ K ⟨2,p,⟨#[]⟩,r :: jan 15⟩ rfl c7;unfold jad.V at c9;clear c7;go_wp2_with (first |(refine jaf 103 (.tmp 4) rfl rfl _ _ rfl c9 ?_) |(refine jah (vs:=jad.cells ⟨2,p,⟨#[]⟩,r :: jan 15⟩) rfl rfl rfl rfl d1 rfl Tryz.szNode (jad.one _) ?_;intro d2 a6 a7))
 refine bodyPost_ret (jbJ rfl rfl (jaw d2 _ ⟨2,p,⟨#[]⟩,r :: jan 15⟩ rfl a6)) rfl ?_;have hz:=c2.o
 exact⟨rfl,((c3.o.trans a2.o).trans' c8.o (fun x hx e=>by have e:x=K:=e;omega)).trans' a7 (fun x hx e=>by have e:x=gr:=e;omega)⟩
end
