/- Parts of the proof, one behind the other: RefRd, RefRe, RefPm, RefPe, RefRf, RefRg, EntRow, RefSa, RefSb, RefSc, RefPd, RefSd, RefSe, RefSf. Each is under no condition but those that it states. -/
import Derived.Test.YtcpnjmcipainpaaGreatDoorPc34
import Derived.Test.YtcpnjmcipainpaaGreatDoorPc31
import Derived.Test.YtcpnjmcipainpaaGreatDoorPc33
import Derived.Test.YtcpnjmcipainpaaGreatDoorPc16
import Derived.Test.YtcpnjmcipainpaaGreatDoorPc17
import Derived.Test.YtcpnjmcipainpaaGreatDoorPc24
import Derived.Test.YtcpnjmcipainpaaGreatDoorPc10
import Derived.Test.YtcpnjmcipainpaaGreatDoorPc15
namespace Go.Proofs.YtcpnjmcipainpaaGreatDoor
set_option linter.unusedSimpArgs false
set_option linter.unusedVariables false
set_option maxRecDepth 100000
set_option maxHeartbeats 16000000
section
open Go Go.RowKit
attribute [local go_sem] Oper.semAt_some
theorem jkl{x:ByteArray}(h:x.size≠0):x.toList.isEmpty=false:=by
 rw[ByteArray.toList_eq];cases e:x.data.toList with
 | nil=>exact absurd (show x.size=0 by show x.data.toList.length=0;rw[e];rfl) h
 | cons=>rfl
def Va4R(W:World)(rs:List ByteArray)(sv iv:Value)(wr:World):Prop:=∃ k:Nat,k≤16∧iv=.int .i64 k∧sv=.int .i64 ((jar 0 (rs.take k)).length:Nat)∧Ext W wr
theorem jk9(rs:List ByteArray){k:Nat}{x:ByteArray}(h:rs[k]?=some x):(jar 0 (rs.take (k+1))).length=(jar 0 (rs.take k)).length+(if x.size=0 then 0 else 1):=by
 have:=jgv ⟨0,⟨#[]⟩,⟨#[]⟩,rs⟩ h
 rw[show jar 0 (rs.take (k+1))=_ from this,List.length_append];split <;> rfl
theorem Tryz.eql_empty(w:World):(binOp .eql 144 jav.V (.agg #[.int .i64 0,.string ⟨#[]⟩,.string ⟨#[]⟩,.string ⟨#[]⟩,.string ⟨#[]⟩,.string ⟨#[]⟩,.string ⟨#[]⟩,.string ⟨#[]⟩,.string ⟨#[]⟩,.string ⟨#[]⟩,.string ⟨#[]⟩,.string ⟨#[]⟩,.string ⟨#[]⟩,.string ⟨#[]⟩,.string ⟨#[]⟩,.string ⟨#[]⟩,.string ⟨#[]⟩,.string ⟨#[]⟩,.string ⟨#[]⟩])).run Tryz.prog w=.ok (.bool true) w:=by kernel_rfl
section
variable {I:ByteArray→jac→Prop} (HI:InlR I)
include HI
theorem jnp(w:World)(n:jac)(h:jbj I n)(hr:n.refs.length=16):Calls Tryz.prog 167 #[n.V] w fun e w'=>e=.returned (.bool true)∧Ext w w':=by
 have HG:=Hd h;have HRL:=Hd hr;have e0:n.cells[0]?=some (.int .i64 (n.kind:Int)):=rfl;have e1:n.cells[1]?=some (.string n.path):=rfl;have e2:n.cells[2]?=some (.string n.value):=rfl;have eR:∀ (k:Nat) x,n.refs[k]?=some x→n.cells[3+k]?=some (.string x):=fun k x hx=>by
  show (Value.int .i64 (n.kind:Int) :: .string n.path :: .string n.value :: n.refs.map Value.string)[3+k]?=_;rw[show 3+k=k+1+1+1 by omega];simp[hx]
 have HCE:=Hd (And.intro e0 (And.intro e1 (And.intro e2 eR)));unfold jac.V
 obtain⟨C,hC⟩:∃ C,C=n.cells:=⟨_,rfl⟩
 rw[←hC]at HCE ⊢;have HCD:=Hd hC;clear h hr e0 e1 e2 eR hC;go_enter Tryz.func167,Tryz.ntmps167;go_wp2_with fail
 have hB0:=Blk.new w (.cells C.toArray 144)
 obtain⟨W0,hW0⟩:∃ W0,W0=w.alloc (.cells C.toArray 144):=⟨_,rfl⟩
 have HE0:=Hd (show Ext w W0 by rw[hW0];exact (ExtR w).alloc _);rw[←hW0]at hB0 ⊢
 obtain⟨g,hg⟩:∃ g,g=w.heap.size:=⟨_,rfl⟩
 rw[←hg]at hB0 ⊢;have HB0:=Hd hB0;clear hW0 hg hB0;go_loopw [3,4] (fun sv iv wr=>Va4R W0 n.refs sv iv wr) (fun _ iv _=>16 - (intOf iv).toNat)
 case atStart=>exact⟨0,by omega,rfl,rfl,ExtR W0⟩
 case round =>
  obtain⟨k,hk,rfl,rfl,hE⟩:=hrel
  have HE:=Hd hE;clear hE
  by_cases hlt:k < 16
  ·have b1:(k:Int) < 16:=by omega
   obtain⟨x,hx⟩:∃ x,n.refs[k]?=some x:=⟨_,List.getElem?_eq_getElem (by have:=HRL.o;omega)⟩
   have q1:wr.cell? ⟨g,3+k,none⟩=some (.string x):=(HB0.o.keeps HE.o (fun h=>h)).cellL (HCE.o.2.2.2 k x hx);have hst:=jk9 n.refs hx;have hle:(jar 0 (n.refs.take k)).length≤16:=by
    have:∀ (l:List ByteArray) (i:Nat),(jar i l).length≤l.length:=fun l=>by
     induction l with
     | nil=>intro i;exact Nat.le_refl _
     | cons y r ih=>intro i;unfold jar;have:=ih (i+1);split <;> simp <;> omega
    have h2:=this (n.refs.take k) 0;have h3:(n.refs.take k).length≤16:=by rw[List.length_take];omega
    omega
   obtain⟨c0,hc0⟩:∃ c0,c0=(jar 0 (n.refs.take k)).length:=⟨_,rfl⟩
   rw[←hc0]at hst hle ⊢;clear hx hc0
   by_cases hx0:x=⟨#[]⟩
   ·subst hx0
    rw[if_pos (show (⟨#[]⟩:ByteArray).size=0 from rfl)]at hst;have HST:=Hd hst;clear hst;go_wp2_with fail
    go_roundw
    case rel=>exact⟨k+1,by omega,by go_num,by rw[HST.o];rfl,HE.o⟩
    case measure=>simp[intOf];omega
   ·have hxs:x.size≠0:=fun e=>hx0 (jcx (List.eq_nil_of_length_eq_zero e))
    have hxm:=jkl hxs;rw[if_neg hxs]at hst;have HST:=Hd hst;clear hst hx0 hxs;go_wp2_with fail
    go_roundw
    case rel=>exact⟨k+1,by omega,by go_num,by rw[HST.o];go_num,HE.o⟩
    case measure=>simp[intOf];omega
  ·have hk16:k=16:=by omega
   subst hk16;have hcnt:(jar 0 (n.refs.take 16)).length=(jar 0 n.refs).length:=by rw[List.take_of_length_le (by have:=HRL.o;omega)]
   rw[hcnt];have b1:¬((16:Nat):Int) < 16:=by omega
   have hB:=HB0.o.keeps HE.o (fun h=>h);have HB:=Hd hB;have q0:=hB.cellL HCE.o.1;have q1:=hB.cellL HCE.o.2.1;have q2:=hB.cellL HCE.o.2.2.1;clear hcnt hB hlt;have hg2:=HG.o;cases hg2 with
   | none =>
    have hC:C=jav.cells:=HCD.o;subst hC;have hld:=jap wr g jav rfl HB.o;have heq:=Tryz.eql_empty wr;go_wp2_with (first |(refine jah 144 (.tmp 1) rfl rfl _ _ rfl hld ?_) |(refine jjf (.tmp 23) (.tmp 24) rfl rfl _ _ (.bool true) rfl rfl (by kernel_rfl) heq ?_))
    go_ret
    exact⟨rfl,HE0.o.trans HE.o⟩
   | leaf p v h2 h3 h4 =>
    rw[show (jar 0 (jat 16)).length=0 by rw[jcN];rfl]
    obtain⟨z1,z2,z3⟩:=jby h2
    have hp:=jkB wr p (by have z2:p.size≤12:=z2;omega);rw[show (jaA p && decide (p.size≤12))=true by rw[show jaA p=true from z3,decide_eq_true (show p.size≤12 from z2)];rfl]at hp;have HP:=Hd hp;have c1:(1:Int)≤(v.size:Int):=by omega
    have c2:(v.size:Int)≤80:=by omega
    clear hp h2 z1 z2 z3;go_wp2_with fail
    refine HP.o.mono ?_;rintro e w5 ⟨rfl,rfl⟩;go_wp2_with fail
    go_ret
    exact⟨rfl,HE0.o.trans HE.o⟩
   | ext p r h2 h3 h4 =>
    have hs1:jar 0 (r :: jat 15)=[(0,r)]:=by unfold jar;rw[if_neg h3,jcN]
    rw[show (jar 0 (r :: jat 15)).length=1 by rw[hs1];rfl]
    obtain⟨z1,z2,z3⟩:=jby h2
    have hp:=fun w1=>jkB w1 p (by have z2:p.size≤12:=z2;omega);rw[show (jaA p && decide (p.size≤12))=true by rw[show jaA p=true from z3,decide_eq_true (show p.size≤12 from z2)];rfl]at hp;have HP:=Hd hp;have hpe:=jkl (show p.size≠0 by have z1:1≤p.size:=z1;omega);have q3:wr.cell? ⟨g,3,none⟩=some (.string r):=HB.o.cellL (HCE.o.2.2.2 0 r rfl);have HQ:=Hd (And.intro q1 (And.intro q2 q3));have HM:=Hd (fun w1=>jhf HI w1 r (h4.imp id (fun ⟨m,h,_⟩=>⟨m,h⟩)));have HIN:=Hd (show ∃ (m:jac) (ok:Bool),m.refs.length=16∧(ok=true→m.kind=3)∧∀ w1,Calls Tryz.prog 209 #[.string r] w1 fun e w'=>e=.returned (.tuple #[m.V,.bool ok])∧Ext w1 w' from by
     rcases h4 with hh |⟨m,h5,h6⟩
     ·exact⟨jav,false,rfl,(fun e=>by cases e),fun w1=>jgw w1 r (by have:=hh.size;omega)⟩
     ·exact⟨m,true,HI.refs r m h5,fun _=>h6,fun w1=>HI.inl r m h5 w1⟩)
    clear hp h2 z1 z2 z3 h3 h4 hs1
    obtain⟨m,ok,hm,hk3,hin⟩:=HIN.o
    have HKK:=Hd hk3;have HL:=Hd (m.cells_len hm);have HI2:=Hd hin;unfold jac.V at HI2;clear hm hk3 hin;go_wp2_with fail
    refine (HI2.o wr).mono ?_;rintro e w5 ⟨rfl,hE⟩;have HE5:=Hd hE;clear hE;cases ok with
    | false =>
     go_wp2_with (first |(refine jai Tryz.allocNode rfl rfl ?_;intro W3 hB3 hE3;refine jaf (vs:=m.cells) rfl rfl rfl rfl hB3 (by rw[HL.o];rfl) (by rw[HL.o];exact Tryz.szNode) m.one ?_;intro W4 hB4 hE4;have hX4:Ext w5 W4:=hE3.trans' hE4 (fun x hx e=>by have e:x=w5.heap.size:=e;omega);have q1:=jab HQ.o.1 (HE5.o.trans hX4)))
     have HX4:=Hd (HE5.o.trans hX4);have HK4:=Hd (show W4.cell? ⟨w5.heap.size,0,none⟩=some (.int .i64 (m.kind:Int))from hB4.cellL (by rfl));clear hX4 hB4 hE4 hB3 hE3 q1;refine (HP.o W4).mono ?_;rintro e w6 ⟨rfl,rfl⟩;have q1:=jab HQ.o.1 HX4.o;have q2:=jab HQ.o.2.1 HX4.o;have q3:=jab HQ.o.2.2 HX4.o;go_wp2_with fail
     refine (HM.o w6).mono ?_;rintro e w7 ⟨rfl,hE⟩;have HE7:=Hd (HX4.o.trans hE);clear hE q1 q2 q3;go_wp2_with fail
     go_ret
     exact⟨rfl,HE0.o.trans (HE.o.trans HE7.o)⟩
    | true =>
     go_wp2_with (first |(refine jai Tryz.allocNode rfl rfl ?_;intro W3 hB3 hE3;refine jaf (vs:=m.cells) rfl rfl rfl rfl hB3 (by rw[HL.o];rfl) (by rw[HL.o];exact Tryz.szNode) m.one ?_;intro W4 hB4 hE4;have hX4:Ext w5 W4:=hE3.trans' hE4 (fun x hx e=>by have e:x=w5.heap.size:=e;omega);have q1:=jab HQ.o.1 (HE5.o.trans hX4)))
     have HX4:=Hd (HE5.o.trans hX4);have HK4:=Hd (show W4.cell? ⟨w5.heap.size,0,none⟩=some (.int .i64 (m.kind:Int))from hB4.cellL (by rfl));clear hX4 hB4 hE4 hB3 hE3 q1;refine (HP.o W4).mono ?_;rintro e w6 ⟨rfl,rfl⟩;have q1:=jab HQ.o.1 HX4.o;have q2:=jab HQ.o.2.1 HX4.o;have q3:=jab HQ.o.2.2 HX4.o;go_wp2_with fail
     refine (HM.o w6).mono ?_;rintro e w7 ⟨rfl,hE⟩;have HE7:=Hd (HX4.o.trans hE);have qk:=jab HK4.o hE;rw[HKK.o (by simp)]at qk;clear hE q1 q2 q3;go_wp2_with fail
     go_ret
     exact⟨rfl,HE0.o.trans (HE.o.trans HE7.o)⟩
   | branch v rs h2 h3 h4 h5 =>
    have HM:=Hd (fun w1 r hr hz=>jhf HI w1 r (h4 r hr hz));have hle:(jar 0 rs).length≤16:=by
     have:∀ (l:List ByteArray) (i:Nat),(jar i l).length≤l.length:=fun l=>by
      induction l with
      | nil=>intro i;exact Nat.le_refl _
      | cons y r ih=>intro i;unfold jar;have:=ih (i+1);split <;> simp <;> omega
     have:=this rs 0
     omega
    obtain⟨c0,hc0⟩:∃ c0,c0=(jar 0 rs).length:=⟨_,rfl⟩
    rw[←hc0]at h5 hle ⊢;have H5:=Hd h5;have HLE:=Hd hle;have HRL2:=Hd (show rs.length=16 from h2);clear hc0 h2 h4 h5 hle q1 q2;go_wp2_with fail
    obtain⟨W2,rfl⟩:∃ W2,W2=wr:=⟨_,rfl⟩
    go_loopw [7] (fun iv wr=>∃ k:Nat,k≤16∧iv=.int .i64 k∧Ext W2 wr) (fun iv _=>16 - (intOf iv).toNat)
    case atStart=>exact⟨0,by omega,rfl,ExtR W2⟩
    case round =>
     obtain⟨k,hk,rfl,hE⟩:=hrel
     have HE2:=Hd hE;clear hE
     by_cases hlt:k < 16
     ·have b1:(k:Int) < 16:=by omega
      obtain⟨x,hx⟩:∃ x,rs[k]?=some x:=⟨_,List.getElem?_eq_getElem (by have:=HRL2.o;omega)⟩
      have q1:wr.cell? ⟨g,3+k,none⟩=some (.string x):=jab (HB.o.cellL (HCE.o.2.2.2 k x hx)) HE2.o;have HXM:=Hd (List.mem_of_getElem? hx);clear hx
      by_cases hx0:x=⟨#[]⟩
      ·subst hx0
       go_wp2_with fail
       go_roundw
       case rel=>exact⟨k+1,by omega,by go_num,HE2.o⟩
       case measure=>simp[intOf];omega
      ·have hxs:x.size≠0:=fun e=>hx0 (jcx (List.eq_nil_of_length_eq_zero e))
       have hxm:=jkl hxs;have HMX:=Hd (HM.o wr x HXM.o hxs);clear hx0 hxs;go_wp2_with fail
       refine HMX.o.mono ?_;rintro e w5 ⟨rfl,hE⟩;have HE5:=Hd (HE2.o.trans hE);clear hE;go_wp2_with fail
       go_roundw
       case rel=>exact⟨k+1,by omega,by go_num,HE5.o⟩
       case measure=>simp[intOf];omega
     ·have q1:wr.cell? ⟨g,1,none⟩=some (.string ⟨#[]⟩):=jab (HB.o.cellL HCE.o.2.1) HE2.o
      have q2:wr.cell? ⟨g,2,none⟩=some (.string v):=jab (HB.o.cellL HCE.o.2.2.1) HE2.o;have b1:¬(k:Int) < 16:=by omega
      have c2:(v.size:Int)≤80:=by omega
      have h5:=H5.o;have hle:=HLE.o
      by_cases hv0:v=⟨#[]⟩
      ·subst hv0
       have hz:min (⟨#[]⟩:ByteArray).size 1=0:=rfl;rw[hz]at h5;have c3:(2:Int)≤(c0:Int):=by omega
       clear h5 hz hle;go_wp2_with fail
       go_ret
       exact⟨rfl,HE0.o.trans (HE.o.trans HE2.o)⟩
      ·have hvs:v.size≠0:=fun e=>hv0 (jcx (List.eq_nil_of_length_eq_zero e))
       have hvm:=jkl hvs;have c3:(2:Int)≤(c0:Int)+1:=by omega
       clear hv0 hvs h5;go_wp2_with fail
       go_ret
       exact⟨rfl,HE0.o.trans (HE.o.trans HE2.o)⟩
end
end
section
open Go Go.RowKit
attribute [local go_sem] Oper.semAt_some
theorem jnc{I:ByteArray→jac→Prop}(HI:InlP I)(w:World)(n:jac)(h:jbj I n):Calls Tryz.prog 168 #[n.V] w fun e w'=>e=.returned (.string (jaH n))∧Ext w w':=by
 have h1:=h.one HI;cases h with
 | none=>exact jiT w _ _ _ rfl
 | leaf p v h2 h3 h4 =>
  obtain⟨z1,z2,z3⟩:=jby h2
  exact jiS w p v _ rfl z2 h4 z3
 | ext p r h2 h3 h4 =>
  obtain⟨z1,z2,z3⟩:=jby h2
  exact jjG w p _ r _ z2 (by have:=h1.each r (List.mem_cons_self);omega) z3
 | branch v rs h2 h3 h4 h5 =>
  have hz:=jcq _ h1;rw[jcB _ h2]at hz;exact jgM w v rs h2 h3 (by have hz:(catB (jaR rs v)).size≤1513:=hz;omega)
section
variable {I:ByteArray→jac→Prop} (HP:InlP I) (HI:InlR I)
include HP HI
theorem jgx(w:World)(n:jac)(h:jbj I n):Calls Tryz.prog 121 #[n.V] w fun e w'=>e=.returned (.tuple #[.string (jaH n),.int .i64 0])∧Ext w w':=by
 have h1:=h.one HP;have hld:=jap (w.alloc (.cells n.cells.toArray 144)) _ n h1.refs (Blk.new w _);have H:=Hd h;have H1:=Hd h1;clear h h1;unfold jac.V at hld ⊢;go_enter Tryz.func121,Tryz.ntmps121;go_wp2_with (refine jah 144 (.tmp 1) rfl rfl _ _ rfl hld ?_)
 refine (jnp HI _ n H.o H1.o.refs).mono ?_;rintro e w2 ⟨rfl,hE⟩;have hB:=(Blk.new w (.cells n.cells.toArray 144)).keeps hE (fun h=>h);have hld2:=jap w2 _ n H1.o.refs hB;have HE:=Hd (((ExtR w).alloc _).trans hE);unfold jac.V at hld2;clear hld hE hB;go_wp2_with (refine jah 144 (.tmp 1) rfl rfl _ _ rfl hld2 ?_)
 refine (jnc HP w2 n H.o).mono ?_;rintro e w3 ⟨rfl,hE⟩;have HE3:=Hd (HE.o.trans hE);clear hE hld2
 obtain⟨R,hR⟩:∃ R,R=jaH n:=⟨_,rfl⟩
 rw[←hR];go_wp2_with fail
 go_ret2
 exact⟨rfl,HE3.o⟩
end
end
section
open Go Go.RowKit
attribute [local go_sem] Oper.semAt_some
def jlK(x:ByteArray):Prop:=0 < x.size∧∀ (w:World) (y:ByteArray),(x++y).size≤1000000→Calls Tryz.prog 253 #[.string (x++y)] w fun e w'=>∃ l b,e=.returned (.tuple #[.bool l,.string b,.string y,.int .i64 0])∧Ext w w'
def RIt(w:World)(xs:List ByteArray)(sv ov:Value)(wr:World):Prop:=∃ k:Nat,k≤xs.length∧sv=.string (catB (xs.drop k))∧ORow 9 1 w wr ov k ((xs.take k).map Value.string)
def strL(v:Value):Nat:=match v with | .string s=>s.size | _=>0
theorem jk5(x:ByteArray)(xs:List ByteArray):catB (x :: xs)=x++catB xs:=by
 have:=jeC [x] xs
 rw[jeB]at this;exact this
theorem jfO(w:World)(xs:List ByteArray)(hx:∀ x∈xs,jlK x)(hn:xs.length≤1000)(hl:(catB xs).size≤100000):Calls Tryz.prog 254 #[.string (catB xs)] w fun e w'=>∃ v,e=.returned (.tuple #[v,.int .i64 0])∧ORow 9 1 w w' v xs.length (xs.map Value.string):=by
 have HX:=Hd hx;have HL:=Hd hl
 obtain⟨s,hs⟩:∃ s,s=catB xs:=⟨_,rfl⟩
 have HS:=Hd hs;rw[←hs];clear hx hl hs;go_enter Tryz.func254,Tryz.ntmps254;go_wp2_with fail
 go_loopw [0,4] (fun sv ov wr=>RIt w xs sv ov wr) (fun sv _ _=>strL sv)
 case atStart=>exact⟨0,Nat.zero_le _,by rw[HS.o];rfl,ORow.nil _ _ (ExtR w)⟩
 case round =>
  obtain⟨k,hk,rfl,hR⟩:=hrel
  have HR:=Hd hR
  by_cases hlt:k < xs.length
  ·obtain⟨x,hxk⟩:∃ x,x=xs[k]:=⟨_,rfl⟩
   have hd:xs.drop k=x :: xs.drop (k+1):=by rw[hxk];exact List.drop_eq_getElem_cons hlt
   have ht:xs.take (k+1)=xs.take k++[x]:=by rw[List.take_add_one,List.getElem?_eq_getElem hlt,hxk];rfl
   obtain⟨hpos,hsp⟩:=HX.o x (by rw[hxk];exact List.getElem_mem hlt)
   have hle:(catB (xs.drop k)).size≤100000:=by
    have:=jeC (xs.take k) (xs.drop k)
    rw[List.take_append_drop]at this;have h1:=HL.o;rw[this,ByteArray.size_append]at h1;omega
   rw[hd,jk5]at hle ⊢
   obtain⟨y,hy⟩:∃ y,y=catB (xs.drop (k+1)):=⟨_,rfl⟩
   rw[←hy]at hle ⊢;have HY:=Hd hy;have HT:=Hd ht;have hsz:(x++y).size=x.size+y.size:=ByteArray.size_append;have hfr:=jhz x y;have HSP:=Hd (fun w1=>hsp w1 y (by omega))
   obtain⟨s1,hs1⟩:∃ s1,s1=x++y:=⟨_,rfl⟩
   rw[←hs1]at hle hsz hfr HSP ⊢;have hne:s1.toList.isEmpty=false:=ja2 (by omega);have d1:(s1.size:Int) - (y.size:Int)=(x.size:Int):=by omega
   have d2:(x.size:Int)≤(s1.size:Int):=by omega
   have d3 : -9223372036854775808≤(s1.size:Int) - (y.size:Int):=by omega
   have d4:(s1.size:Int) - (y.size:Int)≤9223372036854775807:=by omega
   have hmy:y.size < s1.size:=by omega
   have HMY:=Hd hmy
   obtain⟨ra,rc,rfl⟩:=hR.sl
   have hm1:k+1≤maxLen:=by unfold maxLen;omega
   have hm2:(k+1) * 16≤140737488355328:=by omega
   clear hR hxk hd ht hpos hsp hy hs1 hsz hmy;go_wp2_with fail
   refine (HSP.o wr).mono ?_;rintro e w1 ⟨l,b,rfl,hE⟩;have HR1:=Hd (HR.o.mono hE);have HNW:=Hd (jbg (Blk.new w1 (.cells #[.string x] 9)));clear hE
   obtain⟨i0,hi',hz0,hz1,hz2⟩:=info_parts Tryz.infoStr
   go_wp2_with (at_builtin;refine jck _ rfl (.tmp 21) (.tmp 29) 34 rfl 9 i0 _ 1 16 Tryz.uStrs hi' hz0 hz1 hz2 rfl (by decide) (.slice ra k rc) k _ rfl (jbx HR1.o.own ((ExtR w1).alloc _)) ⟨w1.heap.size,0,none⟩ 1 1 [.string x] rfl rfl HNW.o (by simp[Value.oneCell']) hm1 hm2 ?_;intro v' w6 r1 r2 r3;obtain⟨a6,c6,rfl⟩:=ja1 r1;have HR2:=Hd ((HR1.o.mono ((ExtR w1).alloc (.cells #[.string x] 9))).step r1 r2 r3);clear r1 r2 r3)
   go_roundw
   case rel=>exact⟨k+1,by omega,by rw[HY.o],by rw[HT.o,List.map_append];exact HR2.o⟩
   case measure=>exact HMY.o
  ·have hke:k=xs.length:=by omega
   subst hke;rw[List.take_length]at hR
   obtain⟨ra,rc,rfl⟩:=hR.sl
   have HR2:=Hd hR;rw[List.drop_length,show catB []=⟨#[]⟩from rfl];clear hR HR;go_wp2_with fail
   go_ret2
   exact⟨_,rfl,HR2.o⟩
theorem jom(a b c d:Bool)(h:jcZ a b=jcZ c d):a=c∧b=d:=by revert h;revert a b c d;decide
theorem jna{p q:ByteArray}{a b:Bool}(hp:jaA p=true)(hq:jaA q=true)(h:a≠b∨oddB q≠oddB p):putB q a≠putB p b:=fun e=>by
 have e:=congrArg jbe e;rw[jeP q a hq,jeP p b hp]at e;have e:(jbQ q a++q.data.toList)=(jbQ p b++p.data.toList):=congrArg (fun x:ByteArray=>x.data.toList) e;unfold jbQ at e;rw[List.cons_append,List.cons_append]at e
 obtain⟨h1,h2⟩:=jom _ _ _ _ (List.cons.inj e).1
 rcases h with h | h
 ·exact h h1
 ·exact h h2
def lfN(leaf:Bool):Nat:=if leaf then 1 else 0
def RGi(w:World)(n:Nat)(jv:Value)(wr:World):Prop:=∃ j:Nat,j≤n∧jv=.int .i64 j∧Ext w wr
def RGo(w:World)(jv:Value)(wr:World):Prop:=(jv=.int .i64 1∨jv=.int .i64 2)∧Ext w wr
theorem jpU{a:List UInt8}{p:ByteArray}{n:Nat}(h:a.length=n):(⟨(a++p.data.toList).toArray⟩:ByteArray).extract n (⟨(a++p.data.toList).toArray⟩:ByteArray).size=p:=by
 subst h;apply ByteArray.ext;rw[ByteArray.data_extract];show (a++p.data.toList).toArray.extract a.length (a++p.data.toList).length=_;have hl:p.data.toList.length=p.size:=rfl
 simp
 rw[List.take_of_length_le (by omega)]
theorem jew{a b:ByteArray}(h:a≠b):(a.toList == b.toList)=false:=by
 rw[ByteArray.toList_eq,ByteArray.toList_eq];exact beq_eq_false_iff_ne.2 fun e=>h (ByteArray.ext (Array.ext' e))
theorem joL(w:World)(p:ByteArray)(leaf:Bool)(hs:p.size≤10000)(hv:jaA p=true)(ho:oddB p=true):Calls Tryz.prog 255 #[.string (putB p leaf)] w fun e w'=>e=.returned (.tuple #[.string p,.bool leaf,.bool true])∧Ext w w':=by
 have hpath:=jhU w (putB p leaf) (by have:=jba p leaf;omega);have hfr:jbQ p leaf=[jcZ leaf true]:=by unfold jbQ;rw[ho,if_pos rfl]
 rw[jeP p leaf hv,hfr]at hpath
 obtain⟨all,hall⟩:∃ all:ByteArray,all=⟨([jcZ leaf true]++p.data.toList).toArray⟩:=⟨_,rfl⟩
 rw[←hall]at hpath;have hx:all.extract 1 all.size=p:=by rw[hall];exact jpU rfl
 have hsz:all.size=p.size+1:=by rw[hall];show (jcZ leaf true :: p.data.toList).length=_;rw[List.length_cons];rfl
 have b1:(1:Int)≤(all.size:Int):=by omega
 have HPT:=Hd hpath;have HPU:=Hd (fun w1 l=>ji5 w1 p l (by omega) hv);have HNE:=Hd (fun l (h:l≠leaf)=>jew (jna (p:=p) (q:=p) (a:=l) (b:=leaf) hv hv (.inl h)));have HEQ:=Hd (show ((putB p leaf).toList ==(putB p leaf).toList)=true by simp)
 obtain⟨s,hsd⟩:∃ s,s=putB p leaf:=⟨_,rfl⟩
 rw[←hsd]at HPT HNE ⊢;rw[show putB p leaf=s from hsd.symm]at HEQ;have HSD:=Hd hsd;clear hpath hall hv ho hfr hsd hsz;go_enter Tryz.func255,Tryz.ntmps255;go_wp2_with fail
 refine HPT.o.mono ?_;rintro e w1 ⟨rfl,hE⟩;have HE1:=Hd hE;clear hE HPT;go_wp2_with fail
 go_loopw [6] (fun kv wr=>kv=.int .i64 1∧Ext w wr) (fun _ _=>0)
 case atStart=>exact⟨rfl,HE1.o⟩
 case round =>
  obtain⟨rfl,hE⟩:=hrel
  have HE:=Hd hE;clear hE;go_wp2_with fail
  go_loopw [7] (fun jv wr=>RGi w (lfN leaf) jv wr) (fun jv _=>2 - (intOf jv).toNat)
  case atStart=>exact⟨0,Nat.zero_le _,rfl,HE.o⟩
  case round =>
   obtain⟨j,hj,rfl,hE⟩:=hrel
   have HE:=Hd hE;have hj2:j≤1:=by unfold lfN at hj;cases leaf <;> simp at hj <;> omega
   clear hE
   by_cases hjl:j=lfN leaf
   ·cases leaf with
    | true =>
     have hj1:j=1:=hjl;subst hj1;clear hjl hj hj2;have hpu:=HPU.o;have heq:=HEQ.o;go_wp2_with fail
     refine (hpu _ true).mono ?_;rintro e w2 ⟨rfl,hE⟩;have HE2:=Hd (HE.o.trans hE);rw[←HSD.o];clear hE hpu;go_wp2_with fail
     exact bodyPost_ret (v:=.tuple #[.string p,.bool true,.bool true]) (by kernel_rfl) rfl ⟨rfl,HE2.o⟩
    | false =>
     have hj1:j=0:=hjl;subst hj1;clear hjl hj hj2;have hpu:=HPU.o;have heq:=HEQ.o;go_wp2_with fail
     refine (hpu _ false).mono ?_;rintro e w2 ⟨rfl,hE⟩;have HE2:=Hd (HE.o.trans hE);rw[←HSD.o];clear hE hpu;go_wp2_with fail
     exact bodyPost_ret (v:=.tuple #[.string p,.bool false,.bool true]) (by kernel_rfl) rfl ⟨rfl,HE2.o⟩
   ·have hl:leaf=true:=by cases leaf with | true=>rfl | false=>unfold lfN at hj hjl;simp at hj hjl;omega
    subst hl;have hj0:j=0:=by have h1:¬ j=1:=hjl;omega
    subst hj0;have hne:=HNE.o false (by decide);have hpu:=HPU.o;clear hjl hj hj2;go_wp2_with fail
    refine (hpu _ false).mono ?_;rintro e w2 ⟨rfl,hE⟩;have HE2:=Hd (HE.o.trans hE);clear hE hpu;go_wp2_with fail
    go_roundw
    case rel=>exact⟨1,Nat.le_refl _,rfl,HE2.o⟩
    case measure=>simp[intOf]
theorem jnk(w:World)(p:ByteArray)(leaf:Bool)(hs:p.size≤10000)(hv:jaA p=true)(ho:oddB p=false):Calls Tryz.prog 255 #[.string (putB p leaf)] w fun e w'=>e=.returned (.tuple #[.string p,.bool leaf,.bool true])∧Ext w w':=by
 have hpath:=jhU w (putB p leaf) (by have:=jba p leaf;omega);have hfr:jbQ p leaf=[jcZ leaf false,0]:=by unfold jbQ;rw[ho,if_neg (by decide)]
 rw[jeP p leaf hv,hfr]at hpath
 obtain⟨all,hall⟩:∃ all:ByteArray,all=⟨([jcZ leaf false,0]++p.data.toList).toArray⟩:=⟨_,rfl⟩
 rw[←hall]at hpath;have hx:all.extract 2 all.size=p:=by rw[hall];exact jpU rfl
 obtain⟨z,hz⟩:∃ z:ByteArray,z=(⟨#[0]⟩:ByteArray)++p:=⟨_,rfl⟩
 have hzl:z.data.toList=0 :: p.data.toList:=by rw[hz,ByteArray.data_append];simp
 have hx1:all.extract 1 all.size=z:=by
  have:all=⟨([jcZ leaf false]++z.data.toList).toArray⟩:=by rw[hall,hzl];rfl
  rw[this];exact jpU rfl
 have hzv:jaA z=true:=by rw[hz];exact jea (by decide) hv
 have hzs:z.size=p.size+1:=by show z.data.toList.length=_;rw[hzl,List.length_cons];rfl
 have hzo:oddB z=true:=by
  unfold oddB at ho ⊢;rw[hzs]
  have:¬ p.size % 2=1:=by simpa using ho
  simp;omega
 have HPZ:=Hd (fun w1 l=>ji5 w1 z l (by omega) hzv);have HNZ:=Hd (fun l=>jew (jna (p:=p) (q:=z) (a:=l) (b:=leaf) hv hzv (.inr (by rw[hzo,ho];decide))));have hsz:all.size=p.size+2:=by rw[hall];show (jcZ leaf false :: 0 :: p.data.toList).length=_;rw[List.length_cons,List.length_cons];rfl
 have b1:(1:Int)≤(all.size:Int):=by omega
 have b2:(2:Int)≤(all.size:Int):=by omega
 have HPT:=Hd hpath;have HPU:=Hd (fun w1 l=>ji5 w1 p l (by omega) hv);have HNE:=Hd (fun l (h:l≠leaf)=>jew (jna (p:=p) (q:=p) (a:=l) (b:=leaf) hv hv (.inl h)));have HEQ:=Hd (show ((putB p leaf).toList ==(putB p leaf).toList)=true by simp)
 obtain⟨s,hsd⟩:∃ s,s=putB p leaf:=⟨_,rfl⟩
 rw[←hsd]at HPT HNE HNZ ⊢;rw[show putB p leaf=s from hsd.symm]at HEQ;have HSD:=Hd hsd;clear hpath hall hv ho hfr hsd hsz hz hzl hzv hzs hzo;go_enter Tryz.func255,Tryz.ntmps255;go_wp2_with fail
 refine HPT.o.mono ?_;rintro e w1 ⟨rfl,hE⟩;have HE1:=Hd hE;clear hE HPT;go_wp2_with fail
 go_loopw [6] (fun kv wr=>RGo w kv wr) (fun kv _=>3 - (intOf kv).toNat)
 case atStart=>exact⟨.inl rfl,HE1.o⟩
 case round =>
  obtain⟨hkk,hE⟩:=hrel
  have HE:=Hd hE;clear hE;rcases hkk with rfl | rfl
  ·go_wp2_with fail
   go_loopw [7] (fun jv wr=>RGi w 2 jv wr) (fun jv _=>2 - (intOf jv).toNat)
   case atStart=>exact⟨0,Nat.zero_le _,rfl,HE.o⟩
   case round =>
    obtain⟨j,hj,rfl,hE⟩:=hrel
    have HE:=Hd hE;clear hE
    by_cases h0:j=0
    ·subst h0
     have hne:=HNZ.o false;have hpu:=HPZ.o;clear hj;go_wp2_with fail
     refine (hpu _ false).mono ?_;rintro e w2 ⟨rfl,hE⟩;have HE2:=Hd (HE.o.trans hE);clear hE hpu;go_wp2_with fail
     go_roundw
     case rel=>exact⟨1,by omega,rfl,HE2.o⟩
     case measure=>simp[intOf]
    by_cases h1:j=1
    ·subst h1
     have hne:=HNZ.o true;have hpu:=HPZ.o;clear hj h0;go_wp2_with fail
     refine (hpu _ true).mono ?_;rintro e w2 ⟨rfl,hE⟩;have HE2:=Hd (HE.o.trans hE);clear hE hpu;go_wp2_with fail
     go_roundw
     case rel=>exact⟨2,by omega,rfl,HE2.o⟩
     case measure=>simp[intOf]
    ·have hj2:j=2:=by omega
     subst hj2;clear h0 h1 hj;go_wp2_with fail
     go_roundw
     case rel=>exact⟨.inr rfl,HE.o⟩
     case measure=>simp[intOf]
  go_wp2_with fail
  go_loopw [7] (fun jv wr=>RGi w (lfN leaf) jv wr) (fun jv _=>2 - (intOf jv).toNat)
  case atStart=>exact⟨0,Nat.zero_le _,rfl,HE.o⟩
  case round =>
   obtain⟨j,hj,rfl,hE⟩:=hrel
   have HE:=Hd hE;have hj2:j≤1:=by unfold lfN at hj;cases leaf <;> simp at hj <;> omega
   clear hE
   by_cases hjl:j=lfN leaf
   ·cases leaf with
    | true =>
     have hj1:j=1:=hjl;subst hj1;clear hjl hj hj2;have hpu:=HPU.o;have heq:=HEQ.o;go_wp2_with fail
     refine (hpu _ true).mono ?_;rintro e w2 ⟨rfl,hE⟩;have HE2:=Hd (HE.o.trans hE);rw[←HSD.o];clear hE hpu;go_wp2_with fail
     exact bodyPost_ret (v:=.tuple #[.string p,.bool true,.bool true]) (by kernel_rfl) rfl ⟨rfl,HE2.o⟩
    | false =>
     have hj1:j=0:=hjl;subst hj1;clear hjl hj hj2;have hpu:=HPU.o;have heq:=HEQ.o;go_wp2_with fail
     refine (hpu _ false).mono ?_;rintro e w2 ⟨rfl,hE⟩;have HE2:=Hd (HE.o.trans hE);rw[←HSD.o];clear hE hpu;go_wp2_with fail
     exact bodyPost_ret (v:=.tuple #[.string p,.bool false,.bool true]) (by kernel_rfl) rfl ⟨rfl,HE2.o⟩
   ·have hl:leaf=true:=by cases leaf with | true=>rfl | false=>unfold lfN at hj hjl;simp at hj hjl;omega
    subst hl;have hj0:j=0:=by have h1:¬ j=1:=hjl;omega
    subst hj0;have hne:=HNE.o false (by decide);have hpu:=HPU.o;clear hjl hj hj2;go_wp2_with fail
    refine (hpu _ false).mono ?_;rintro e w2 ⟨rfl,hE⟩;have HE2:=Hd (HE.o.trans hE);clear hE hpu;go_wp2_with fail
    go_roundw
    case rel=>exact⟨1,Nat.le_refl _,rfl,HE2.o⟩
    case measure=>simp[intOf]
theorem jpm(w:World)(p:ByteArray)(leaf:Bool)(hs:p.size≤10000)(hv:jaA p=true):Calls Tryz.prog 255 #[.string (putB p leaf)] w fun e w'=>e=.returned (.tuple #[.string p,.bool leaf,.bool true])∧Ext w w':=by
 cases ho:oddB p with
 | true=>exact joL w p leaf hs hv ho
 | false=>exact jnk w p leaf hs hv ho
end
section
open Go Go.RowKit
attribute [local go_sem] Oper.semAt_some
theorem jiA(b:UInt8)(n:Nat):0 < (jbM b n).size:=by
 unfold jbM;split
 ·exact Nat.zero_lt_one
 ·rw[ByteArray.size_append]
  exact Nat.lt_of_lt_of_le Nat.zero_lt_one (Nat.le_add_right 1 _)
theorem jdi(b:ByteArray):0 < (jam b).size:=by
 unfold jam;split
 ·rename_i h;omega
 ·rw[ByteArray.size_append];have:=jiA 128 b.size;omega
theorem jmN(xs:List ByteArray):0 < (jaU xs).size:=by
 unfold jaU;rw[ByteArray.size_append];have:=jiA 192 (catB xs).size;omega
theorem jcC(b:ByteArray)(hb:b.size≤100000)(h0:0 < (jam b).size):jlK (jam b):=⟨h0,fun w y h=>(jeu w b y hb h).mono fun e w' ⟨h1,h2⟩=>⟨_,_,h1,h2⟩⟩
theorem jlw(xs:List ByteArray)(hb:(catB xs).size≤100000)(h0:0 < (jaU xs).size):jlK (jaU xs):=⟨h0,fun w y h=>(jgy w xs y hb h).mono fun e w' ⟨h1,h2⟩=>⟨_,_,h1,h2⟩⟩
theorem jgn{W0 W:World}{v:Value}{n:Nat}{xs:List ByteArray}(h:ORow 9 1 W0 W v n (xs.map Value.string))(hn:0 < n):∃ g c,v=.slice (some ⟨g,0,none⟩) n c∧∀ (j:Nat) t,xs[j]?=some t→W.cell? ⟨g,j,none⟩=some (.string t):=by
 have ho:=h.own
 obtain⟨h1,⟨h2,h3⟩ |⟨g,cap,cur,h2,h3⟩⟩:=h.own
 ·obtain⟨a,c,e⟩:=h.sl
  rw[e]at h2
  have:=(Value.slice.inj h2).2.1
  omega
 ·subst h2
  refine⟨g,cap,rfl,fun j t ht=>?_⟩
  have q:=ho.cells (g:=g) rfl j (.string t) (by rw[List.getElem?_map,ht];rfl)
  rwa [Addr.add_lit,Nat.zero_add]at q
theorem jfm(w:World)(xs:List ByteArray)(hb:(catB xs).size≤100000)(hs:(jaU xs).size≤1000000):Calls Tryz.prog 253 #[.string (jaU xs)] w fun e w'=>e=.returned (.tuple #[.bool true,.string (catB xs),.string ⟨#[]⟩,.int .i64 0])∧Ext w w':=by
 have h0:jaU xs++(⟨#[]⟩:ByteArray)=jaU xs:=ByteArray.append_empty;have h:=jgy w xs ⟨#[]⟩ hb (by rw[h0];exact hs)
 rwa [h0]at h
section
variable {I:ByteArray→jac→Prop} (HP:InlP I)
include HP
theorem jky{r:ByteArray}(h:MayP I r):r.size≤33:=by
 rcases h with h |⟨m,h⟩
 ·exact Nat.le_of_eq h.size
 ·have:=HP.small r m h;omega
theorem jkx{r:ByteArray}(h:MayP I r):jlK r:=by
 rcases h with⟨h,hs,rfl⟩ |⟨m,h⟩
 ·exact jcC h (by omega) (jdi h)
 ·have hz:=HP.small r m h
  obtain⟨xs,rfl,_⟩:=HP.list r m h
  exact jlw xs (by unfold jaU at hz;rw[ByteArray.size_append]at hz;omega) (jmN xs)
end
section
variable {I:ByteArray→jac→Prop} (HP:InlP I) (HI:InlR I)
include HP HI
theorem jjK(w:World)(p v:ByteArray)(h2:(⟨1,p,v,jat 16⟩:jac).pathOk 0=true)(h3:0 < v.size)(h4:v.size≤80):Calls Tryz.prog 237 #[.string (jaH ⟨1,p,v,jat 16⟩)] w fun e w'=>e=.returned (.tuple #[jac.V ⟨1,p,v,jat 16⟩,.bool true])∧Ext w w':=by
 have hG:jbj I ⟨1,p,v,jat 16⟩:=.leaf p v h2 h3 h4
 obtain⟨z1,z2,z3⟩:=jby h2
 have hs1:=jba p true;have hs2:=jaC (putB p true);have hs3:=jaC v;have z2:p.size≤12:=z2;have HPUT:=Hd (fun w1=>jgx HP HI w1 _ hG);have HGET:=Hd (fun w1=>jpm w1 p true (by omega) z3)
 obtain⟨put,hput⟩:∃ put,put=putB p true:=⟨_,rfl⟩
 have hnb:jaH ⟨1,p,v,jat 16⟩=jaU [jam put,jam v]:=by rw[hput];rfl
 rw[←hput]at hs1 hs2 HGET;have hc:(catB [jam put,jam v]).size≤200:=by rw[jaS,jaS,jb2];omega
 have hls:=jb6 [jam put,jam v];rw[hnb]at HPUT ⊢;have HSP:=Hd (fun w1=>jfm w1 [jam put,jam v] (by omega) (by omega));have hpp:=jdi put;have hpv:=jdi v;have HIT:=Hd (fun w1=>jfO w1 [jam put,jam v] (fun x hx=>by
  simp only[List.mem_cons,List.not_mem_nil,or_false]at hx;rcases hx with rfl | rfl
  ·exact jcC put (by omega) hpp
  ·exact jcC v (by omega) hpv) (by simp) (by omega))
 have HT1:=Hd (fun w1=>jfP w1 put (by omega));have HT2:=Hd (fun w1=>jfP w1 v (by omega))
 obtain⟨s,hs⟩:∃ s,s=jaU [jam put,jam v]:=⟨_,rfl⟩
 obtain⟨b,hb⟩:∃ b,b=catB [jam put,jam v]:=⟨_,rfl⟩
 obtain⟨t1,ht1⟩:∃ t1,t1=jam put:=⟨_,rfl⟩
 obtain⟨t2,ht2⟩:∃ t2,t2=jam v:=⟨_,rfl⟩
 have c0:¬(1000:Int) < (s.size:Int):=by rw[hs];omega
 rw[←hs, ←hb]at HSP;rw[←hb, ←ht1, ←ht2]at HIT;rw[←ht1]at HT1;rw[←ht2]at HT2;rw[←hs]at HPUT ⊢;clear hG h2 z1 z2 z3 hs1 hs2 hs3 hput hnb hc hls hpp hpv hs hb ht1 ht2;unfold jac.V at HPUT ⊢;go_enter Tryz.func237,Tryz.ntmps237;go_wp2_with (first |(refine jai Tryz.allocNode rfl rfl ?_;have hx1:=HR1.o;intro W2 hB2 hE2) |(refine jai Tryz.allocNode rfl rfl ?_;intro W1 hB1 hE1;have HR1:=Hd hB1) |(refine jaf (vs:=jav.cells) rfl rfl rfl rfl hB2 rfl Tryz.szNode jav.one ?_;intro W3 hB3 hE3))
 have HN3:=Hd hB3;have HR3:=Hd ((HR1.o.keeps hE2 (fun h=>h)).keeps hE3 (by have:=HR1.o.lt;omega));have hX3:Ext w W3:=(hE1.trans hE2).trans' hE3 (fun x hx e=>by have e:x=W1.heap.size:=e;have:=hE1.size;omega);have HX3:=Hd hX3
 obtain⟨gr,hgr⟩:∃ gr,gr=w.heap.size:=⟨_,rfl⟩
 obtain⟨gn,hgn⟩:∃ gn,gn=W1.heap.size:=⟨_,rfl⟩
 have HGN:=Hd (show gr≠gn∧w.heap.size≤gr∧w.heap.size≤gn from by have:=HR1.o.lt;have:=hE1.size;omega);rw[←hgr]at HR3 ⊢;rw[←hgn]at HN3 ⊢;clear hB1 hE1 HR1 hx1 hB2 hE2 hB3 hE3 hX3 hgr hgn;refine (HSP.o W3).mono ?_;rintro e w4 ⟨rfl,hE⟩;have HE4:=Hd hE;clear hE;go_wp2_with fail
 refine (HIT.o w4).mono ?_;rintro e w5 ⟨lv,rfl,hL⟩
 obtain⟨g,c,rfl,hcell⟩:=jgn hL (Nat.zero_lt_succ _)
 rw[show [t1,t2].length=2 from rfl];have q1:=hcell 0 t1 rfl;have q2:=hcell 1 t2 rfl;have HQ:=Hd (And.intro q1 q2);have HE5:=Hd (HE4.o.trans hL.ext);have hg4:w4.heap.size≤g:=hL.new g rfl;have hgn4:=HN3.o.lt;have hgs4:=HE4.o.size;have hne1:¬ gn=g:=by omega
 have hne2:¬ g=gn:=by omega
 clear hcell hL q2 hg4 hgn4 hgs4;go_wp2_with fail
 refine (HT1.o w5).mono ?_;rintro e w6 ⟨rfl,hE⟩;have HE6:=Hd hE;clear hE q1;go_wp2_with fail
 refine (HGET.o w6).mono ?_;rintro e w7 ⟨rfl,hE⟩;have HE7:=Hd (HE6.o.trans hE);have HN7:=Hd (HN3.o.keeps (HE5.o.trans HE7.o) (fun h=>h));have HR7:=Hd (HR3.o.keeps (HE5.o.trans HE7.o) (fun h=>h));clear hE;have k0:=HN7.o.cellL (i:=0) (v:=.int .i64 0) rfl;have k1:=HN7.o.cellL (i:=1) (v:=.string ⟨#[]⟩) rfl;have f0:w7.frozen? ⟨gn,0,none⟩=false:=HN7.o.frozen;have f1:w7.frozen? ⟨gn,1,none⟩=false:=HN7.o.frozen;have q2:=jab HQ.o.2 HE7.o;go_wp2_with fail
 obtain⟨w8,hw8⟩:∃ w8,w8=(w7.setCell ⟨gn,1,none⟩ (.string p)).setCell ⟨gn,0,none⟩ (.int .i64 1):=⟨_,rfl⟩
 have hN8:=(HN7.o.set_same (i:=1) (.string p)).set_same (i:=0) (.int .i64 1);have hk8:jag (fun z=>z=gn) w7 w8:=by rw[hw8];exact ((jag.refl (fun z=>z=gn) w7).setCell (p:=⟨gn,1,none⟩) (.inl rfl) _).setCell (p:=⟨gn,0,none⟩) (.inl rfl) _
 rw[←hw8]at hN8 ⊢;have HN8:=Hd (show Blk w8 gn (.cells (jac.cells ⟨1,p,⟨#[]⟩,jat 16⟩).toArray 144)from hN8);have HK8:=Hd hk8;have HR8:=Hd (HR7.o.keeps hk8 HGN.o.1);clear k0 k1 f0 f1 q2 hw8 hN8 hk8;refine (HT2.o w8).mono ?_;rintro e w9 ⟨rfl,hE⟩;have HE9:=Hd hE;have HN9:=Hd (HN8.o.keeps hE (fun h=>h));have k2:=HN9.o.cellL (i:=2) (v:=.string ⟨#[]⟩) rfl;have f2:w9.frozen? ⟨gn,2,none⟩=false:=HN9.o.frozen;have hN10:Blk (w9.setCell ⟨gn,2,none⟩ (.string v)) gn (.cells (jac.cells ⟨1,p,v,jat 16⟩).toArray 144):=HN9.o.set_same (i:=2) (.string v);have hld:=jap _ gn ⟨1,p,v,jat 16⟩ rfl hN10;have HN10:=Hd hN10;unfold jac.V at hld;clear hE hN10;go_wp2_with (refine jah 144 (.tmp 4) rfl rfl _ _ rfl hld ?_)
 have HR10:=Hd ((HR8.o.keeps HE9.o (fun h=>h)).keeps ((jag.refl (fun z=>z=gn) w9).setCell (p:=⟨gn,2,none⟩) (.inl rfl) (.string v)) HGN.o.1);have HK10:=Hd ((jag.refl (fun z=>z=gn) w9).setCell (p:=⟨gn,2,none⟩) (.inl rfl) (.string v))
 obtain⟨w10,hw10⟩:∃ w10,w10=w9.setCell ⟨gn,2,none⟩ (.string v):=⟨_,rfl⟩
 rw[←hw10]at HR10 HK10 HN10 ⊢;clear k2 f2 hld hw10;refine (HPUT.o w10).mono ?_;rintro e w11 ⟨rfl,hE⟩;have HE11:=Hd hE;have hN11:=HN10.o.keeps hE (fun h=>h);have hld:=jap _ gn ⟨1,p,v,jat 16⟩ rfl hN11;have hR11:=HR10.o.keeps hE (fun h=>h);have hss:(s != s)=false:=by unfold bne;rw[show (s == s)=true by rw[jdz];exact decide_eq_true rfl];rfl
 unfold jac.V at hld;clear hE;go_wp2_with (first |(refine jah 144 (.tmp 4) rfl rfl _ _ rfl hld ?_) |(refine jaf (vs:=jac.cells ⟨1,p,v,jat 16⟩) rfl rfl rfl rfl hR11 rfl Tryz.szNode (jac.one _) ?_;intro W12 hB12 hE12))
 refine bodyPost_ret (jaj rfl rfl rfl (jao W12 _ ⟨1,p,v,jat 16⟩ rfl hB12)) rfl ?_;have hz:=HGN.o;have e8:=((HX3.o.trans HE5.o).trans HE7.o).trans' HK8.o (fun x hx e=>by have e:x=gn:=e;omega);have e10:=(e8.trans HE9.o).trans' HK10.o (fun x hx e=>by have e:x=gn:=e;omega)
 exact⟨rfl,(e10.trans HE11.o).trans' hE12 (fun x hx e=>by have e:x=gr:=e;omega)⟩
theorem jlx(w:World)(p r:ByteArray)(h2:(⟨2,p,⟨#[]⟩,r :: jat 15⟩:jac).pathOk 1=true)(h3:r.size≠0)(h4:jdH r∨∃ m,I r m∧m.kind=3):Calls Tryz.prog 237 #[.string (jaH ⟨2,p,⟨#[]⟩,r :: jat 15⟩)] w fun e w'=>e=.returned (.tuple #[jac.V ⟨2,p,⟨#[]⟩,r :: jat 15⟩,.bool true])∧Ext w w':=by
 have hG:jbj I ⟨2,p,⟨#[]⟩,r :: jat 15⟩:=.ext p r h2 h3 h4
 obtain⟨z1,z2,z3⟩:=jby h2
 have hs1:=jba p false;have hs2:=jaC (putB p false);have hrs:=jky HP (h4.imp id (fun ⟨m,h,_⟩=>⟨m,h⟩):MayP I r);have hri:=jkx HP (h4.imp id (fun ⟨m,h,_⟩=>⟨m,h⟩):MayP I r);have z2:p.size≤12:=z2;have HPUT:=Hd (fun w1=>jgx HP HI w1 _ hG);have HGET:=Hd (fun w1=>jpm w1 p false (by omega) z3)
 obtain⟨put,hput⟩:∃ put,put=putB p false:=⟨_,rfl⟩
 have hnb:jaH ⟨2,p,⟨#[]⟩,r :: jat 15⟩=jaU [jam put,r]:=by rw[hput];rfl
 rw[←hput]at hs1 hs2 HGET;have hc:(catB [jam put,r]).size≤200:=by rw[jaS,jaS,jb2];omega
 have hls:=jb6 [jam put,r];rw[hnb]at HPUT ⊢;have HSP:=Hd (fun w1=>jfm w1 [jam put,r] (by omega) (by omega));have hpp:=jdi put;have HIT:=Hd (fun w1=>jfO w1 [jam put,r] (fun x hx=>by
  simp only[List.mem_cons,List.not_mem_nil,or_false]at hx;rcases hx with rfl | rfl
  ·exact jcC put (by omega) hpp
  ·exact hri) (by simp) (by omega))
 have HT1:=Hd (fun w1=>jfP w1 put (by omega))
 obtain⟨s,hs⟩:∃ s,s=jaU [jam put,r]:=⟨_,rfl⟩
 obtain⟨b,hb⟩:∃ b,b=catB [jam put,r]:=⟨_,rfl⟩
 obtain⟨t1,ht1⟩:∃ t1,t1=jam put:=⟨_,rfl⟩
 have c0:¬(1000:Int) < (s.size:Int):=by rw[hs];omega
 rw[←hs, ←hb]at HSP;rw[←hb, ←ht1]at HIT;rw[←ht1]at HT1;rw[←hs]at HPUT ⊢;clear hG h2 z1 z2 z3 hs1 hs2 hrs hri h3 h4 hput hnb hc hls hpp hs hb ht1;unfold jac.V at HPUT ⊢;go_enter Tryz.func237,Tryz.ntmps237;go_wp2_with (first |(refine jai Tryz.allocNode rfl rfl ?_;have hx1:=HR1.o;intro W2 hB2 hE2) |(refine jai Tryz.allocNode rfl rfl ?_;intro W1 hB1 hE1;have HR1:=Hd hB1) |(refine jaf (vs:=jav.cells) rfl rfl rfl rfl hB2 rfl Tryz.szNode jav.one ?_;intro W3 hB3 hE3))
 have HN3:=Hd hB3;have HR3:=Hd ((HR1.o.keeps hE2 (fun h=>h)).keeps hE3 (by have:=HR1.o.lt;omega));have hX3:Ext w W3:=(hE1.trans hE2).trans' hE3 (fun x hx e=>by have e:x=W1.heap.size:=e;have:=hE1.size;omega);have HX3:=Hd hX3
 obtain⟨gr,hgr⟩:∃ gr,gr=w.heap.size:=⟨_,rfl⟩
 obtain⟨gn,hgn⟩:∃ gn,gn=W1.heap.size:=⟨_,rfl⟩
 have HGN:=Hd (show gr≠gn∧w.heap.size≤gr∧w.heap.size≤gn from by have:=HR1.o.lt;have:=hE1.size;omega);rw[←hgr]at HR3 ⊢;rw[←hgn]at HN3 ⊢;clear hB1 hE1 HR1 hx1 hB2 hE2 hB3 hE3 hX3 hgr hgn;refine (HSP.o W3).mono ?_;rintro e w4 ⟨rfl,hE⟩;have HE4:=Hd hE;clear hE;go_wp2_with fail
 refine (HIT.o w4).mono ?_;rintro e w5 ⟨lv,rfl,hL⟩
 obtain⟨g,c,rfl,hcell⟩:=jgn hL (Nat.zero_lt_succ _)
 rw[show [t1,r].length=2 from rfl];have q1:=hcell 0 t1 rfl;have q2:=hcell 1 r rfl;have HQ:=Hd (And.intro q1 q2);have HE5:=Hd (HE4.o.trans hL.ext);have hg4:w4.heap.size≤g:=hL.new g rfl;have hgn4:=HN3.o.lt;have hgs4:=HE4.o.size;have hne1:¬ gn=g:=by omega
 have hne2:¬ g=gn:=by omega
 clear hcell hL q2 hg4 hgn4 hgs4;go_wp2_with fail
 refine (HT1.o w5).mono ?_;rintro e w6 ⟨rfl,hE⟩;have HE6:=Hd hE;clear hE q1;go_wp2_with fail
 refine (HGET.o w6).mono ?_;rintro e w7 ⟨rfl,hE⟩;have HE7:=Hd (HE6.o.trans hE);have HN7:=Hd (HN3.o.keeps (HE5.o.trans HE7.o) (fun h=>h));have HR7:=Hd (HR3.o.keeps (HE5.o.trans HE7.o) (fun h=>h));clear hE;have k0:=HN7.o.cellL (i:=0) (v:=.int .i64 0) rfl;have k1:=HN7.o.cellL (i:=1) (v:=.string ⟨#[]⟩) rfl;have k3:=HN7.o.cellL (i:=3) (v:=.string ⟨#[]⟩) rfl;have f0:w7.frozen? ⟨gn,0,none⟩=false:=HN7.o.frozen;have f1:w7.frozen? ⟨gn,1,none⟩=false:=HN7.o.frozen;have f3:w7.frozen? ⟨gn,3,none⟩=false:=HN7.o.frozen;have q2:=jab HQ.o.2 HE7.o;have hN10:Blk (((w7.setCell ⟨gn,1,none⟩ (.string p)).setCell ⟨gn,0,none⟩ (.int .i64 2)).setCell ⟨gn,3,none⟩ (.string r)) gn (.cells (jac.cells ⟨2,p,⟨#[]⟩,r :: jat 15⟩).toArray 144):=((HN7.o.set_same (i:=1) (.string p)).set_same (i:=0) (.int .i64 2)).set_same (i:=3) (.string r);have hld:=jap _ gn ⟨2,p,⟨#[]⟩,r :: jat 15⟩ rfl hN10;have HN10:=Hd hN10;unfold jac.V at hld;clear hN10;go_wp2_with (refine jah 144 (.tmp 4) rfl rfl _ _ rfl hld ?_)
 have HK10:=Hd ((((jag.refl (fun z=>z=gn) w7).setCell (p:=⟨gn,1,none⟩) (.inl rfl) (.string p)).setCell (p:=⟨gn,0,none⟩) (.inl rfl) (.int .i64 2)).setCell (p:=⟨gn,3,none⟩) (.inl rfl) (.string r));have HR10:=Hd (HR7.o.keeps HK10.o HGN.o.1)
 obtain⟨w10,hw10⟩:∃ w10,w10=((w7.setCell ⟨gn,1,none⟩ (.string p)).setCell ⟨gn,0,none⟩ (.int .i64 2)).setCell ⟨gn,3,none⟩ (.string r):=⟨_,rfl⟩
 rw[←hw10]at HR10 HK10 HN10 ⊢;clear k0 k1 k3 f0 f1 f3 q2 hld hw10;refine (HPUT.o w10).mono ?_;rintro e w11 ⟨rfl,hE⟩;have HE11:=Hd hE;have hN11:=HN10.o.keeps hE (fun h=>h);have hld:=jap _ gn ⟨2,p,⟨#[]⟩,r :: jat 15⟩ rfl hN11;have hR11:=HR10.o.keeps hE (fun h=>h);have hss:(s != s)=false:=by unfold bne;rw[show (s == s)=true by rw[jdz];exact decide_eq_true rfl];rfl
 unfold jac.V at hld;clear hE;go_wp2_with (first |(refine jah 144 (.tmp 4) rfl rfl _ _ rfl hld ?_) |(refine jaf (vs:=jac.cells ⟨2,p,⟨#[]⟩,r :: jat 15⟩) rfl rfl rfl rfl hR11 rfl Tryz.szNode (jac.one _) ?_;intro W12 hB12 hE12))
 refine bodyPost_ret (jaj rfl rfl rfl (jao W12 _ ⟨2,p,⟨#[]⟩,r :: jat 15⟩ rfl hB12)) rfl ?_;have hz:=HGN.o;have e10:=((HX3.o.trans HE5.o).trans HE7.o).trans' HK10.o (fun x hx e=>by have e:x=gn:=e;omega)
 exact⟨rfl,(e10.trans HE11.o).trans' hE12 (fun x hx e=>by have e:x=gr:=e;omega)⟩
end
end
section
open Go Go.RowKit
attribute [local go_sem] Oper.semAt_some
theorem Tryz.enterText4(args:Array Value)(w:World):(callFunc 212 args).run Tryz.prog w=.ok (.enter 212 args) w:=by kernel_rfl
section
variable {I:ByteArray→jac→Prop} (HP:InlP I) (HI:InlR I)
include HP HI
theorem jjL(w:World):Calls Tryz.prog 237 #[.string (jaH jav)] w fun e w'=>e=.returned (.tuple #[jav.V,.bool true])∧Ext w w':=by
 have HPUT:=Hd (fun w1=>jgx HP HI w1 _ (jbj.none (I:=I)));have h0:jam ⟨#[]⟩++(⟨#[]⟩:ByteArray)=jam ⟨#[]⟩:=ByteArray.append_empty;have hsp:=fun w1=>jeu w1 ⟨#[]⟩ ⟨#[]⟩ (by decide) (by rw[h0];decide);rw[h0]at hsp;have HSP:=Hd hsp;have HIT:=Hd (fun w1=>jfO w1 [] (fun x hx=>by cases hx) (by simp) (by decide));rw[show catB []=(⟨#[]⟩:ByteArray)from rfl]at HIT;rw[show jaH jav=jam ⟨#[]⟩from rfl]at HPUT ⊢;have c0:¬(1000:Int) < ((jam ⟨#[]⟩).size:Int):=by decide
 obtain⟨s,hs⟩:∃ s,s=jam ⟨#[]⟩:=⟨_,rfl⟩
 rw[←hs]at HPUT HSP c0 ⊢;clear h0 hsp hs;unfold jac.V at HPUT ⊢;go_enter Tryz.func237,Tryz.ntmps237;go_wp2_with (first |(refine jai Tryz.allocNode rfl rfl ?_;have hx1:=HR1.o;intro W2 hB2 hE2) |(refine jai Tryz.allocNode rfl rfl ?_;intro W1 hB1 hE1;have HR1:=Hd hB1) |(refine jaf (vs:=jav.cells) rfl rfl rfl rfl hB2 rfl Tryz.szNode jav.one ?_;intro W3 hB3 hE3))
 have HN3:=Hd hB3;have HR3:=Hd ((HR1.o.keeps hE2 (fun h=>h)).keeps hE3 (by have:=HR1.o.lt;omega));have hX3:Ext w W3:=(hE1.trans hE2).trans' hE3 (fun x hx e=>by have e:x=W1.heap.size:=e;have:=hE1.size;omega);have HX3:=Hd hX3
 obtain⟨gr,hgr⟩:∃ gr,gr=w.heap.size:=⟨_,rfl⟩
 obtain⟨gn,hgn⟩:∃ gn,gn=W1.heap.size:=⟨_,rfl⟩
 have HGN:=Hd (show gr≠gn∧w.heap.size≤gr∧w.heap.size≤gn from by have:=HR1.o.lt;have:=hE1.size;omega);rw[←hgr]at HR3 ⊢;rw[←hgn]at HN3 ⊢;clear hB1 hE1 HR1 hx1 hB2 hE2 hB3 hE3 hX3 hgr hgn;refine (HSP.o W3).mono ?_;rintro e w4 ⟨rfl,hE⟩;have HE4:=Hd hE;clear hE;go_wp2_with fail
 refine (HIT.o w4).mono ?_;rintro e w5 ⟨lv,rfl,hL⟩;have HE5:=Hd (HE4.o.trans hL.ext)
 obtain⟨la,lc,hsl⟩:=hL.sl
 rw[show (List.length ([]:List ByteArray))=0 from rfl]at hsl;subst hsl;have hN10:=HN3.o.keeps HE5.o (fun h=>h);have hld:=jap _ gn jav rfl hN10;have HN10:=Hd hN10;have HR10:=Hd (HR3.o.keeps HE5.o (fun h=>h));unfold jac.V at hld;clear hL hN10;go_wp2_with (refine jah 144 (.tmp 4) rfl rfl _ _ rfl hld ?_)
 clear hld;refine (HPUT.o w5).mono ?_;rintro e w11 ⟨rfl,hE⟩;have HE11:=Hd hE;have hN11:=HN10.o.keeps hE (fun h=>h);have hld:=jap _ gn jav rfl hN11;have hR11:=HR10.o.keeps hE (fun h=>h);have hss:(s != s)=false:=by unfold bne;rw[show (s == s)=true by rw[jdz];exact decide_eq_true rfl];rfl
 unfold jac.V at hld;clear hE;go_wp2_with (first |(refine jah 144 (.tmp 4) rfl rfl _ _ rfl hld ?_) |(refine jaf (vs:=jav.cells) rfl rfl rfl rfl hR11 rfl Tryz.szNode (jac.one _) ?_;intro W12 hB12 hE12))
 refine bodyPost_ret (jaj rfl rfl rfl (jao W12 _ jav rfl hB12)) rfl ?_;have hz:=HGN.o
 exact⟨rfl,((HX3.o.trans HE5.o).trans HE11.o).trans' hE12 (fun x hx e=>by have e:x=gr:=e;omega)⟩
end
def jcU(rs:List ByteArray)(k:Nat):List ByteArray:=rs.take k++jat (16 - k)
theorem jfl{rs:List ByteArray}(hr:rs.length=16){k:Nat}(hk:k≤16):(jcU rs k).length=16:=by
 unfold jcU jat;rw[List.length_append,List.length_take,List.length_replicate];omega
theorem jiZ{rs:List ByteArray}(hr:rs.length=16):jcU rs 16=rs:=by
 unfold jcU;rw[List.take_of_length_le (by omega)];simp[jat]
theorem jgu{rs:List ByteArray}(hr:rs.length=16){k:Nat}{r:ByteArray}(h:rs[k]?=some r):(jcU rs k).set k r=jcU rs (k+1):=by
 have hk:=(List.getElem?_eq_some_iff.1 h).1;have ht:(rs.take k).length=k:=by rw[List.length_take];omega
 unfold jcU jat;rw[List.set_append_right _ _ (by omega),ht,Nat.sub_self,show 16 - k=(16 - (k+1))+1 by omega,List.replicate_succ,List.set_cons_zero,List.take_add_one,h]
 simp
theorem ji0{rs:List ByteArray}(hr:rs.length=16){k:Nat}(h:rs[k]?=some ⟨#[]⟩):jcU rs (k+1)=jcU rs k:=by
 rw[←jgu hr h];have hk:=(List.getElem?_eq_some_iff.1 h).1;have ht:(rs.take k).length=k:=by rw[List.length_take];omega
 apply List.ext_getElem?;intro j;rw[List.getElem?_set];split
 ·rename_i e
  subst e;rw[if_pos (by rw[jfl hr (by omega)];omega)];unfold jcU jat;rw[List.getElem?_append_right (by omega),ht,Nat.sub_self,List.getElem?_replicate,if_pos (by omega)]
 ·rfl
theorem jin(rs:List ByteArray)(v x:ByteArray)(k:Nat):(jac.cells ⟨3,⟨#[]⟩,v,rs⟩).toArray.setIfInBounds (3+k) (.string x)=(jac.cells ⟨3,⟨#[]⟩,v,rs.set k x⟩).toArray:=by
 unfold jac.cells;rw[show 3+k=k+1+1+1 by omega];simp only[List.setIfInBounds_toArray,List.set_cons_succ,List.map_set]
theorem joA{I:ByteArray→jac→Prop}(HP:InlP I){r:ByteArray}(h:MayP I r):r≠jam ⟨#[]⟩:=fun e=>by
 have e1:r.size=1:=by rw[e];rfl
 rcases h with h |⟨m,h⟩
 ·have:=h.size;omega
 ·obtain⟨xs,rfl,_⟩:=HP.list r m h
  have e2:=congrArg (fun z:ByteArray=>z.data.toList.head?) e;unfold jaU jbM at e1 e2
  by_cases hn:(catB xs).size≤55
  ·rw[if_pos hn]at e1 e2
   rw[ByteArray.size_append]at e1;have hz:(catB xs).size=0:=by
    have:(⟨#[192+UInt8.ofNat (catB xs).size]⟩:ByteArray).size=1:=rfl
    omega
   rw[hz]at e2;simp at e2;revert e2;decide
  ·rw[ByteArray.size_append]at e1;omega
section
variable {I:ByteArray→jac→Prop} (HP:InlP I) (HI:InlR I)
include HP HI
def Rd4R(W:World)(gn gr:Nat)(rs:List ByteArray)(iv:Value)(wr:World):Prop:=∃ k:Nat,k≤16∧iv=.int .i64 k∧Blk wr gn (.cells (jac.cells ⟨3,⟨#[]⟩,⟨#[]⟩,jcU rs k⟩).toArray 144)∧jag (fun z=>z=gn) W wr
theorem jhV(w:World)(v:ByteArray)(rs:List ByteArray)(h2:rs.length=16)(h3:v.size≤80)(h4:∀ r∈rs,r.size≠0→MayP I r)(h5:2≤min v.size 1+(jar 0 rs).length):Calls Tryz.prog 237 #[.string (jaH ⟨3,⟨#[]⟩,v,rs⟩)] w fun e w'=>e=.returned (.tuple #[jac.V ⟨3,⟨#[]⟩,v,rs⟩,.bool true])∧Ext w w':=by
 have hG:jbj I ⟨3,⟨#[]⟩,v,rs⟩:=.branch v rs h2 h3 h4 h5;have HPUT:=Hd (fun w1=>jgx HP HI w1 _ hG);have hs3:=jaC v;have hit:∀ x∈rs.map itB,x.size≤33∧jlK x:=fun x hx=>by
  obtain⟨r,hr,rfl⟩:=List.mem_map.1 hx
  unfold itB
  by_cases h0:r.size=0
  ·rw[if_pos h0];exact⟨by decide,jcC ⟨#[]⟩ (by decide) (jdi _)⟩
  ·rw[if_neg h0];exact⟨jky HP (h4 r hr h0),jkx HP (h4 r hr h0)⟩
 have hbx:jaR rs v=rs.map itB++[jam v]:=rfl;have hc:(catB (jaR rs v)).size≤700:=by
  have:∀ L:List ByteArray,(∀ x∈L,x.size≤33)→(catB L).size≤33 * L.length:=fun L=>by
   induction L with
   | nil=>intro _;exact Nat.le_refl _
   | cons y l ih =>
    intro h;rw[jaS,List.length_cons]
    have:=ih (fun x hx=>h x (List.mem_cons_of_mem _ hx))
    have:=h y List.mem_cons_self
    omega
  have h6:=this (rs.map itB) (fun x hx=>(hit x hx).1);rw[List.length_map,h2]at h6;rw[hbx,jeC,ByteArray.size_append,jcl];omega
 have hls:=jb6 (jaR rs v);rw[jgl v rs h2]at HPUT ⊢;have HSP:=Hd (fun w1=>jfm w1 (jaR rs v) (by omega) (by omega));have hln:(jaR rs v).length=17:=by rw[hbx,List.length_append,List.length_map,h2];rfl
 have HIT:=Hd (fun w1=>jfO w1 (jaR rs v) (fun x hx=>by
  rw[hbx]at hx;rcases List.mem_append.1 hx with hx | hx
  ·exact (hit x hx).2
  ·rw[List.mem_singleton.1 hx];exact jcC v (by omega) (jdi v)) (by omega) (by omega))
 rw[hln]at HIT;have HT0:=Hd (fun w1=>jc2 w1 ⟨#[]⟩ (by decide));have HTV:=Hd (fun w1=>jfP w1 v (by omega));have HX16:=Hd (show (jaR rs v)[16]?=some (jam v) by rw[hbx,List.getElem?_append_right (by rw[List.length_map];omega),List.length_map,h2];rfl);have HXK:=Hd (show ∀ k r,rs[k]?=some r→(jaR rs v)[k]?=some (itB r)from fun k r hk=>by
  have:=(List.getElem?_eq_some_iff.1 hk).1
  rw[hbx,List.getElem?_append_left (by rw[List.length_map];exact this),List.getElem?_map,hk];rfl)
 have HNN:=Hd (show ∀ r∈rs,r.size≠0→r≠jam ⟨#[]⟩from fun r hr h0=>joA HP (h4 r hr h0));have HRL:=Hd h2
 obtain⟨X,hX⟩:∃ X,X=jaR rs v:=⟨_,rfl⟩
 rw[←hX]at HPUT HSP HIT HX16 HXK hls ⊢
 obtain⟨s,hs⟩:∃ s,s=jaU X:=⟨_,rfl⟩
 obtain⟨b,hb⟩:∃ b,b=catB X:=⟨_,rfl⟩
 obtain⟨t2,ht2⟩:∃ t2,t2=jam v:=⟨_,rfl⟩
 obtain⟨t0,ht0⟩:∃ t0,t0=jam ⟨#[]⟩:=⟨_,rfl⟩
 have c0:¬(1000:Int) < (s.size:Int):=by rw[hs];rw[←hX]at hc;omega
 rw[←hs, ←hb]at HSP;rw[←hb]at HIT;rw[←ht2]at HTV HX16;rw[←ht0]at HT0 HNN;rw[←hs]at HPUT ⊢;have HT00:=Hd ht0;clear hG h2 h3 h4 h5 hs3 hit hbx hc hls hln hX hs hb ht2 ht0;unfold jac.V at HPUT ⊢;go_enter Tryz.func237,Tryz.ntmps237;go_wp2_with (first |(refine jai Tryz.allocNode rfl rfl ?_;have hx1:=HR1.o;intro W2 hB2 hE2) |(refine jai Tryz.allocNode rfl rfl ?_;intro W1 hB1 hE1;have HR1:=Hd hB1) |(refine jaf (vs:=jav.cells) rfl rfl rfl rfl hB2 rfl Tryz.szNode jav.one ?_;intro W3 hB3 hE3))
 have HN3:=Hd hB3;have HR3:=Hd ((HR1.o.keeps hE2 (fun h=>h)).keeps hE3 (by have:=HR1.o.lt;omega));have hX3:Ext w W3:=(hE1.trans hE2).trans' hE3 (fun x hx e=>by have e:x=W1.heap.size:=e;have:=hE1.size;omega);have HX3:=Hd hX3
 obtain⟨gr,hgr⟩:∃ gr,gr=w.heap.size:=⟨_,rfl⟩
 obtain⟨gn,hgn⟩:∃ gn,gn=W1.heap.size:=⟨_,rfl⟩
 have HGN:=Hd (show gr≠gn∧w.heap.size≤gr∧w.heap.size≤gn from by have:=HR1.o.lt;have:=hE1.size;omega);rw[←hgr]at HR3 ⊢;rw[←hgn]at HN3 ⊢;clear hB1 hE1 HR1 hx1 hB2 hE2 hB3 hE3 hX3 hgr hgn;refine (HSP.o W3).mono ?_;rintro e w4 ⟨rfl,hE⟩;have HE4:=Hd hE;clear hE;go_wp2_with fail
 refine (HIT.o w4).mono ?_;rintro e w5 ⟨lv,rfl,hL⟩
 obtain⟨g,c,rfl,hcell⟩:=jgn hL (Nat.zero_lt_succ _)
 have hg4:w4.heap.size≤g:=hL.new g rfl;have hgn4:=HN3.o.lt;have hgs4:=HE4.o.size;have hne1:¬ gn=g:=by omega
 have hne2:¬ g=gn:=by omega
 have HCELL:=Hd hcell;have HE5:=Hd (HE4.o.trans hL.ext);have HN5:=Hd (HN3.o.keeps HE5.o (fun h=>h));have HR5:=Hd (HR3.o.keeps HE5.o (fun h=>h));have k0:=HN5.o.cellL (i:=0) (v:=.int .i64 0) rfl;have f0:w5.frozen? ⟨gn,0,none⟩=false:=HN5.o.frozen;clear hcell hL hg4 hgn4 hgs4;go_wp2_with fail
 have hN6:Blk (w5.setCell ⟨gn,0,none⟩ (.int .i64 3)) gn (.cells (jac.cells ⟨3,⟨#[]⟩,⟨#[]⟩,jat 16⟩).toArray 144):=HN5.o.set_same (i:=0) (.int .i64 3);have HK6:=Hd ((jag.refl (fun z=>z=gn) w5).setCell (p:=⟨gn,0,none⟩) (.inl rfl) (.int .i64 3))
 obtain⟨w6,hw6⟩:∃ w6,w6=w5.setCell ⟨gn,0,none⟩ (.int .i64 3):=⟨_,rfl⟩
 rw[←hw6]at hN6 HK6 ⊢;have HN6:=Hd hN6;clear k0 f0 hw6 hN6;go_loopw [14] (fun iv wr=>Rd4R w6 gn gr rs iv wr) (fun iv _=>16 - (intOf iv).toNat)
 case atStart=>exact⟨0,by omega,rfl,HN6.o,jag.refl _ _⟩
 case round =>
  obtain⟨k,hk,rfl,hN,hK⟩:=hrel
  have HN:=Hd hN;have HK:=Hd hK;clear hN hK
  by_cases hlt:k < 16
  ·have b1:(k:Int) < 16:=by omega
   have b2:k < 17:=by omega
   obtain⟨r,hr⟩:∃ r,rs[k]?=some r:=⟨_,List.getElem?_eq_getElem (by have:=HRL.o;omega)⟩
   have q1:wr.cell? ⟨g,k,none⟩=some (.string (itB r)):=jaD (jaD (HCELL.o k _ (HXK.o k r hr)) HK6.o hne2) HK.o hne2;have Q1:=Hd q1;have HR:=Hd hr
   obtain⟨x,hx⟩:∃ x,x=itB r:=⟨_,rfl⟩
   have HX:=Hd hx;rw[←hx]at q1 Q1;clear hr hx;go_wp2_with fail
   refine jan [0,1,2,3,4,5] Ext ExtR ExtT (by kernel_rfl) (by kernel_rfl) (by kernel_rfl) ?_;iterate 3 (refine jae _ rfl (by kernel_rfl) rfl rfl (fun K hK=>?_);go_big_quiet_op;refine hK _ ?_;clear hK K)
   refine jak ⟨g,k,none⟩ _ rfl (by kernel_rfl) rfl rfl (fun w1 h1=>jaa Tryz.uStr rfl (jab Q1.o ((jas wr).trans h1))) ?_;simp only[Act.put,sA,sB,sC];refine jaN _ 212 #[.string ⟨#[]⟩] (.string t0) rfl (by kernel_rfl) rfl (fun w1=>jau Tryz.enterText4 (by kernel_rfl)) (fun w1 h1=>HT0.o w1) ?_;simp only[Act.put,sA,sB,sC]
   (refine jae _ rfl (by kernel_rfl) rfl rfl (fun K hK=>?_);go_big_quiet_op;refine hK _ ?_;clear hK K)
   refine jaJ (by kernel_rfl) (fun w7 he=>?_);have HX7:=Hd ((jas wr).trans he);have hN7:=HN.o.keeps HX7.o (fun h=>h);have HN7:=Hd hN7;have HK7:=Hd (HK.o.trans (HX7.o.mono (fun _ _ h=>h.elim)));clear he q1 hN7
   obtain⟨q,hq⟩:∃ q,q=(!(x.toList == t0.toList)):=⟨_,rfl⟩
   rw[←hq]
   by_cases hxt:x=t0
   ·have hr0:rs[k]?=some ⟨#[]⟩:=by
     have h1:=HR.o
     by_cases h0:r.size=0
     ·rw[h1];exact congrArg some (jcx (List.eq_nil_of_length_eq_zero h0))
     ·exfalso
      refine HNN.o r (List.mem_of_getElem? h1) h0 ?_;rw[←hxt,HX.o];unfold itB;rw[if_neg h0]
    have HKN:=Hd (ji0 HRL.o hr0);have hq1:(t0 != t0)=false:=by unfold bne;rw[show (t0 == t0)=true by rw[jdz];exact decide_eq_true rfl];rfl
    obtain rfl:q=false:=by rw[hq,hxt,beq_self_eq_true];rfl
    clear hr0 hxt hq hq1;go_wp2_with fail
    go_roundw
    case rel=>exact⟨k+1,by omega,by go_num,by rw[HKN.o];exact HN7.o,HK7.o⟩
    case measure=>simp[intOf];omega
   ·have hr1:x=r:=by
     rw[HX.o];unfold itB;rw[if_neg (fun h0=>hxt (by rw[HX.o,HT00.o];unfold itB;rw[if_pos h0]))]
    have HKS:=Hd (show (jcU rs k).set k x=jcU rs (k+1) by rw[hr1];exact jgu HRL.o HR.o);have hq1:(x != t0)=true:=by unfold bne;rw[show (x == t0)=false by rw[jdz];exact decide_eq_false hxt];rfl
    obtain rfl:q=true:=by rw[hq,beq_eq_false_iff_ne.2 (fun e=>hxt (jcj e))];rfl
    have q1:=jab Q1.o HX7.o
    obtain⟨old,k3⟩:∃ old,w7.cell? ⟨gn,3+k,none⟩=some old:=⟨_,HN7.o.cellL (List.getElem?_eq_getElem (by rw[jac.cells_len _ (jfl HRL.o (by omega))];omega))⟩
    have f3:w7.frozen? ⟨gn,3+k,none⟩=false:=HN7.o.frozen;clear hxt hr1 hq hq1;go_wp2_with fail
    have hN8:=HN7.o.set_same (i:=3+k) (.string x);rw[jin,HKS.o]at hN8
    exact⟨⟨k+1,by omega,by go_num,hN8,HK7.o.setCell (p:=⟨gn,3+k,none⟩) (.inl rfl) (.string x)⟩,by simp[intOf];omega⟩
  ·have hk16:k=16:=by omega
   subst hk16;have hN:=HN.o;rw[jiZ HRL.o]at hN;have HNA:=Hd hN;have q1:wr.cell? ⟨g,16,none⟩=some (.string t2):=jaD (jaD (HCELL.o 16 _ HX16.o) HK6.o hne2) HK.o hne2;have HRA:=Hd ((HR5.o.keeps HK6.o HGN.o.1).keeps HK.o HGN.o.1);have HKA:=Hd (HK6.o.trans HK.o);have b1:¬((16:Nat):Int) < 16:=by omega
   clear hN hlt;go_wp2_with fail
   refine (HTV.o wr).mono ?_;rintro e w9 ⟨rfl,hE⟩;have HE9:=Hd hE;have HN9:=Hd (HNA.o.keeps hE (fun h=>h));have k2:=HN9.o.cellL (i:=2) (v:=.string ⟨#[]⟩) rfl;have f2:w9.frozen? ⟨gn,2,none⟩=false:=HN9.o.frozen;have hN10:Blk (w9.setCell ⟨gn,2,none⟩ (.string v)) gn (.cells (jac.cells ⟨3,⟨#[]⟩,v,rs⟩).toArray 144):=HN9.o.set_same (i:=2) (.string v);have hld:=jap _ gn ⟨3,⟨#[]⟩,v,rs⟩ HRL.o hN10;have HN10:=Hd hN10;unfold jac.V at hld;clear hE hN10 q1;go_wp2_with (refine jah 144 (.tmp 4) rfl rfl _ _ rfl hld ?_)
   have HK10:=Hd ((jag.refl (fun z=>z=gn) w9).setCell (p:=⟨gn,2,none⟩) (.inl rfl) (.string v));have HR10:=Hd ((HRA.o.keeps HE9.o (fun h=>h)).keeps HK10.o HGN.o.1)
   obtain⟨w10,hw10⟩:∃ w10,w10=w9.setCell ⟨gn,2,none⟩ (.string v):=⟨_,rfl⟩
   rw[←hw10]at HR10 HK10 HN10 ⊢;clear k2 f2 hld hw10;refine (HPUT.o w10).mono ?_;rintro e w11 ⟨rfl,hE⟩;have HE11:=Hd hE;have hN11:=HN10.o.keeps hE (fun h=>h);have hld:=jap _ gn ⟨3,⟨#[]⟩,v,rs⟩ HRL.o hN11;have hR11:=HR10.o.keeps hE (fun h=>h);have hss:(s != s)=false:=by unfold bne;rw[show (s == s)=true by rw[jdz];exact decide_eq_true rfl];rfl
   have HL:=Hd (jac.cells_len ⟨3,⟨#[]⟩,v,rs⟩ HRL.o);unfold jac.V at hld;clear hE;go_wp2_with (first |(refine jah 144 (.tmp 4) rfl rfl _ _ rfl hld ?_) |(refine jaf (vs:=jac.cells ⟨3,⟨#[]⟩,v,rs⟩) rfl rfl rfl rfl hR11 (by rw[HL.o];rfl) (by rw[HL.o];exact Tryz.szNode) (jac.one _) ?_;intro W12 hB12 hE12))
   refine bodyPost_ret (jaj rfl rfl rfl (jao W12 _ ⟨3,⟨#[]⟩,v,rs⟩ HRL.o hB12)) rfl ?_;have hz:=HGN.o;have e9:=((HX3.o.trans HE5.o).trans' HKA.o (fun x hx e=>by have e:x=gn:=e;omega)).trans HE9.o;have e10:=e9.trans' HK10.o (fun x hx e=>by have e:x=gn:=e;omega)
   exact⟨rfl,(e10.trans HE11.o).trans' hE12 (fun x hx e=>by have e:x=gr:=e;omega)⟩
end
section
variable {I:ByteArray→jac→Prop} (HP:InlP I) (HI:InlR I)
include HP HI
theorem joR(w:World)(n:jac)(h:jbj I n):Calls Tryz.prog 237 #[.string (jaH n)] w fun e w'=>e=.returned (.tuple #[n.V,.bool true])∧Ext w w':=by
 cases h with
 | none=>exact jjL HP HI w
 | leaf p v h2 h3 h4=>exact jjK HP HI w p v h2 h3 h4
 | ext p r h2 h3 h4=>exact jlx HP HI w p r h2 h3 h4
 | branch v rs h2 h3 h4 h5=>exact jhV HP HI w v rs h2 h3 h4 h5
end
theorem inlR:∀ d,InlR (InlD d)
 | 0=>⟨fun _ _ h=>h.elim,fun _ _ h=>h.elim,fun _ _ h=>h.elim⟩
 | d+1=>⟨fun r m h=>h.2.2.1,fun r m h=>(h.1.one (inlP d)).refs,fun r m h w=>by
  obtain⟨h1,rfl,h3,h4⟩:=h
  exact ji1 w _ m (h1.one (inlP d)).refs h4 h3 (fun w1=>joR (inlP d) (inlR d) w1 m h1)⟩
end
section
open Go Go.RowKit
theorem Tryz.infoEnt:(Tryz.prog.info? 95).map (fun i=>(i.zero,i.size,i.bytes))=some (some (.agg #[.string ⟨#[]⟩,.string ⟨#[]⟩]),2,32):=by kernel_rfl
theorem Tryz.uEnts:Tryz.prog.underlying 22=some (.slice 95):=by kernel_rfl
theorem Tryz.sEnts:jec Tryz.prog 22 95 2 32:=jec.mk' Tryz.uEnts Tryz.infoEnt rfl (by decide)
abbrev ERow(w0 w:World)(v:Value)(n:Nat)(xs:List Pair):Prop:=ORow 95 2 w0 w v n (jdK xs)
theorem ERow.rd{w0 w:World}{v:Value}{n:Nat}{xs:List Pair}(h:ERow w0 w v n xs):RdP w v xs:=by
 have hl:xs.length=n:=by have:=h.len;rw[jgT]at this;omega
 obtain⟨_,⟨rfl,h2⟩ |⟨g,cap,cur,rfl,h3,h4,h5,h6,h7⟩⟩:=h.own
 ·exact .inl ⟨none,0,rfl,List.eq_nil_of_length_eq_zero (by omega)⟩
 ·subst hl
  refine .inr ⟨g,0,cap,rfl,(Array.getElem?_eq_some_iff.1 h4).1,h5,fun j x hx=>?_⟩;have hj:=(List.getElem?_eq_some_iff.1 hx).1
  obtain⟨e1,e2⟩:=jd2 xs j x hx
  exact⟨by rw[Nat.zero_add,h.own.cellAt (j * 2) (by omega),e1],by rw[Nat.zero_add,h.own.cellAt (j * 2+1) (by omega),e2]⟩
end
section
open Go Go.RowKit
attribute [local go_sem] Oper.semAt_some
theorem Tryz.enterPath1r(args:Array Value)(w:World):(callFunc 74 args).run Tryz.prog w=.ok (.enter 74 args) w:=by kernel_rfl
def Pa5R(w:World)(l:List Pair)(v iv:Value)(wr:World):Prop:=∃ k:Nat,k≤l.length∧iv=.int .i64 k∧ERow w wr v k ((ja3 l).take k)
theorem joQ(w:World)(v:Value)(l:List Pair)(hv:RdP w v l)(hn:l.length≤1000000)(hs:∀ p∈l,p.1.size≤1000000) :
  Calls Tryz.prog 73 #[v] w fun e w'=>∃ u,e=.returned u∧ERow w w' u l.length (ja3 l):=by
 have HV:=Hd hv;have HS:=Hd hs
 obtain⟨a0,c0,hsl⟩:=hv.sl
 subst hsl;clear hv hs;go_enter Tryz.func73,Tryz.ntmps73;go_wp2_with fail
 go_loopw [3,4] (fun v iv wr=>Pa5R w l v iv wr) (fun _ iv _=>l.length - (intOf iv).toNat)
 case atStart=>exact⟨0,by omega,rfl,ORow.nil _ _ (ExtR w)⟩
 case round =>
  obtain⟨k,hk,rfl,hR⟩:=hrel
  have HR:=Hd hR
  obtain⟨la,lc,hsl⟩:=hR.sl
  subst hsl;clear hR
  by_cases hlt:k < l.length
  ·have b1:(k:Int) < (l.length:Int):=by omega
   obtain⟨⟨x,y⟩,hp⟩:∃ p,l[k]?=some p:=⟨_,List.getElem?_eq_getElem hlt⟩
   rcases HV.o with⟨_,_,_,h0⟩ |⟨b,o,c1,hh,hb,hc,hcell⟩
   ·rw[h0]at hlt;cases hlt
   cases hh
   obtain⟨q1,q2⟩:=hcell k _ hp
   have Q1:=Hd (jab q1 HR.o.ext);have Q2:=Hd (jab q2 HR.o.ext);have HXS:=Hd (HS.o _ (List.mem_of_getElem? hp));have HTK:=Hd (show (ja3 l).take (k+1)=(ja3 l).take k++[(jbe x,y)] by
    unfold ja3;rw[List.take_add_one,List.getElem?_map,hp];rfl)
   have NB:=Hd (show ¬(Value.slice la k lc).ownBlock=some b from fun e=>by have:=HR.o.new b e;omega);clear hcell hp q1 q2 hb hc;go_wp2_with fail
   refine jaL [0,1,2,3,4,5,6,7,8,9,10,11,12,13,14,15] [13,14] Ext (jag (fun b=>(Value.slice la k lc).ownBlock=some b)) ExtR ExtT (fun x y z h k=>jag.trans h k) (fun x y h=>h.mono (fun _ _ h=>h.elim)) (by kernel_rfl) (by kernel_rfl) (by kernel_rfl) ?_;iterate 5 (refine jaq _ rfl (by kernel_rfl) rfl rfl (fun K hK=>?_);go_big_quiet_op;refine hK _ ?_;clear hK K)
   refine jaQ ⟨b,o+k * 2,none⟩ _ rfl (by kernel_rfl) rfl rfl (fun w1 h1=>jaa Tryz.uStr rfl (jaD (jab Q1.o (jas wr)) h1 NB.o)) ?_;simp only[Act.put,sA,sB,sC];refine jeL _ 74 #[.string x] (.string (jbe x)) rfl (by kernel_rfl) rfl (fun w1=>jau Tryz.enterPath1r (by kernel_rfl)) (fun w1 h1=>jhU w1 x HXS.o) ?_;simp only[Act.put,sA,sB,sC];iterate 4 (refine jaq _ rfl (by kernel_rfl) rfl rfl (fun K hK=>?_);go_big_quiet_op;refine hK _ ?_;clear hK K)
   refine jaQ ⟨b,o+k * 2+1,none⟩ _ rfl (by kernel_rfl) rfl rfl (fun w1 h1=>jaa Tryz.uStr rfl (jaD (jab Q2.o (jas wr)) h1 NB.o)) ?_;simp only[Act.put,sA,sB,sC]
   (refine jaq _ rfl (by kernel_rfl) rfl rfl (fun K hK=>?_);go_big_quiet_op;refine hK _ ?_;clear hK K)
   refine jaV _ rfl (by kernel_rfl) rfl (fun w2 he K hK=>?_);have HR2:=Hd (HR.o.mono ((jas wr).trans he));clear he
   obtain⟨z,hz⟩:∃ z,z=jbe x:=⟨_,rfl⟩
   rw[←hz]at HTK ⊢;clear hz;go_simp;refine hK _ _ ((jag.refl _ w2).alloc _) ?_;clear hK K;refine jaV _ rfl (by kernel_rfl) rfl (fun w3 he K hK=>?_);have HR3:=Hd (HR2.o.mono (((ExtR w2).alloc _).trans he));have hB:∀ j u,([.string z,.string y]:List Value)[j]?=some u→w3.cell? ((⟨w2.heap.size,0,none⟩:Addr).add j)=some u:=fun j u hj=>jab (jbg (Blk.new w2 (.cells [Value.string z,.string y].toArray 95)) j u hj) he;refine jjh Tryz.sEnts HR3.o (.tmp 11) (.tmp 24) rfl rfl hB (by intro u hu;simp at hu;rcases hu with rfl | rfl <;> rfl) rfl rfl (by unfold maxLen;omega) (by omega) (fun v' w4 r1 r2 r3=>hK _ _ r2 ?_);have r1':ERow w w4 v' (k+1) ((ja3 l).take (k+1)):=by
    unfold ERow;rw[HTK.o,jb9];exact r1
   have HR4:=Hd r1';clear hK K he r1 r2 r3 r1' hB HR2 HR3
   obtain⟨a4,c4,rfl⟩:=HR4.o.sl
   simp only[Act.put,sA,sB,sC]
   (refine jaq _ rfl (by kernel_rfl) rfl rfl (fun K hK=>?_);go_big_quiet_op;refine hK _ ?_;clear hK K)
   refine jbI (by kernel_rfl) (fun w5 he=>?_);have HR5:=Hd (HR4.o.mono he);clear he HR4;go_wp2_with fail
   go_roundw
   case rel=>exact⟨k+1,by omega,by go_num,HR5.o⟩
   case measure=>simp[intOf];omega
  ·have hkn:k=l.length:=by omega
   subst hkn;have HF:=Hd (show ERow w wr (.slice la l.length lc) l.length (ja3 l) by
    have h:=HR.o
    rwa [List.take_of_length_le (by unfold ja3;rw[List.length_map];exact Nat.le_refl _)]at h)
   go_wp2_with fail
   go_ret
   exact⟨_,rfl,HF.o⟩
def jee(p x:ByteArray):Bool:=decide (p.size≤x.size) && decide (x.extract 0 p.size=p)
def jb0(p:ByteArray)(l:List Pair):List Pair:=(l.filter fun q=>jee p q.1).map fun q=>(q.1.extract p.size q.1.size,q.2)
theorem jlD(p:ByteArray){l:List Pair}{k:Nat}{q:Pair}(h:l[k]?=some q):jb0 p (l.take (k+1))=jb0 p (l.take k)++(if jee p q.1 then [(q.1.extract p.size q.1.size,q.2)]else []):=by
 unfold jb0;rw[List.take_add_one,h,List.filter_append,List.map_append,Option.toList_some,List.filter_cons];split <;> rfl
def Un5R(w:World)(p:ByteArray)(l:List Pair)(v iv:Value)(wr:World):Prop:=∃ k:Nat,k≤l.length∧iv=.int .i64 k∧ERow w wr v (jb0 p (l.take k)).length (jb0 p (l.take k))
theorem jly(p:ByteArray)(l:List Pair):(jb0 p l).length≤l.length:=by
 unfold jb0;rw[List.length_map];exact List.length_filter_le _ _
theorem jeX(w:World)(v:Value)(l:List Pair)(p:ByteArray)(hv:RdP w v l)(hn:l.length≤1000000)(hs:∀ p∈l,p.1.size≤1000000)(hp:p.size≤1000000) :
  Calls Tryz.prog 77 #[v,.string p] w fun e w'=>∃ u,e=.returned u∧ERow w w' u (jb0 p l).length (jb0 p l):=by
 have HV:=Hd hv;have HS:=Hd hs
 obtain⟨a0,c0,hsl⟩:=hv.sl
 subst hsl;clear hv hs;go_enter Tryz.func77,Tryz.ntmps77;go_wp2_with fail
 go_loopw [5,6] (fun v iv wr=>Un5R w p l v iv wr) (fun _ iv _=>l.length - (intOf iv).toNat)
 case atStart=>exact⟨0,by omega,rfl,ORow.nil _ _ (ExtR w)⟩
 case round =>
  obtain⟨k,hk,rfl,hR⟩:=hrel
  have HR:=Hd hR
  obtain⟨m,hm⟩:∃ m,m=jb0 p (l.take k):=⟨_,rfl⟩
  have hml:m.length≤k:=by
   rw[hm];have h1:=jly p (l.take k);rw[List.length_take]at h1;omega
  have HM:=Hd hm;rw[←hm]at HR
  obtain⟨la,lc,hsl⟩:=HR.o.sl
  subst hsl;clear hR hm
  by_cases hlt:k < l.length
  ·have b1:(k:Int) < (l.length:Int):=by omega
   obtain⟨⟨x,y⟩,hq⟩:∃ p,l[k]?=some p:=⟨_,List.getElem?_eq_getElem hlt⟩
   rcases HV.o with⟨_,_,_,h0⟩ |⟨b,o,c1,hh,hb,hc,hcell⟩
   ·rw[h0]at hlt;cases hlt
   cases hh
   obtain⟨q1,q2⟩:=hcell k _ hq
   have Q1:=Hd (jab q1 HR.o.ext);have Q2:=Hd (jab q2 HR.o.ext);have HXS:=Hd (HS.o _ (List.mem_of_getElem? hq));have HST:=Hd (jlD p hq);rw[←HM.o]at HST;have NB:=Hd (show ¬(Value.slice la m.length lc).ownBlock=some b from fun e=>by have:=HR.o.new b e;omega);have q1:=Q1.o;clear hcell hq q2 hb hc;have hbe:∀ b,jee p x=b→jb0 p (l.take (k+1))=m++(if b then [(x.extract p.size x.size,y)]else []):=fun b e=>by rw[HST.o,e]
   have HBE:=Hd hbe;clear hbe
   by_cases hsz:p.size≤x.size
   case neg =>
    have c1:¬(p.size:Int)≤(x.size:Int):=by omega
    have HB:=Hd (HBE.o false (by unfold jee;rw[decide_eq_false hsz];rfl));go_wp2_with fail
    go_roundw
    case rel=>exact⟨k+1,by omega,by go_num,by rw[HB.o];simpa using HR.o⟩
    case measure=>simp[intOf];omega
   have c1:(p.size:Int)≤(x.size:Int):=by omega
   by_cases hbg:x.extract 0 p.size=p
   case neg =>
    have hx:((x.extract 0 p.size).toList == p.toList)=false:=beq_eq_false_iff_ne.2 (fun e=>hbg (jcj e));have HB:=Hd (HBE.o false (by unfold jee;rw[decide_eq_false hbg,Bool.and_false]));clear hbg;go_wp2_with fail
    go_roundw
    case rel=>exact⟨k+1,by omega,by go_num,by rw[HB.o];simpa using HR.o⟩
    case measure=>simp[intOf];omega
   have hx:((x.extract 0 p.size).toList == p.toList)=true:=by rw[hbg];exact beq_self_eq_true _
   have HB:=Hd (show jb0 p (l.take (k+1))=m++[(x.extract p.size x.size,y)]from HBE.o true (by unfold jee;rw[decide_eq_true hbg,decide_eq_true hsz];rfl));clear hbg;go_wp2_with fail
   refine jaL [0,1,2,3,4,5,6,7,8,9,10,11,12,13,14,15,16,17] [15,16] Ext (jag (fun b=>(Value.slice la m.length lc).ownBlock=some b)) ExtR ExtT (fun x y z h k=>jag.trans h k) (fun x y h=>h.mono (fun _ _ h=>h.elim)) (by kernel_rfl) (by kernel_rfl) (by kernel_rfl) ?_;iterate 5 (refine jaq _ rfl (by kernel_rfl) rfl rfl (fun K hK=>?_);go_big_quiet_op;refine hK _ ?_;clear hK K)
   refine jaQ ⟨b,o+k * 2,none⟩ _ rfl (by kernel_rfl) rfl rfl (fun w1 h1=>jaa Tryz.uStr rfl (jaD (jab Q1.o (jas wr)) h1 NB.o)) ?_;simp only[Act.put,sA,sB,sC];iterate 7 (refine jaq _ rfl (by kernel_rfl) rfl rfl (fun K hK=>?_);go_big_quiet_op;refine hK _ ?_;clear hK K)
   refine jaQ ⟨b,o+k * 2+1,none⟩ _ rfl (by kernel_rfl) rfl rfl (fun w1 h1=>jaa Tryz.uStr rfl (jaD (jab Q2.o (jas wr)) h1 NB.o)) ?_;simp only[Act.put,sA,sB,sC]
   (refine jaq _ rfl (by kernel_rfl) rfl rfl (fun K hK=>?_);go_big_quiet_op;refine hK _ ?_;clear hK K)
   refine jaV _ rfl (by kernel_rfl) rfl (fun w2 he K hK=>?_);have HR2:=Hd (HR.o.mono ((jas wr).trans he));clear he
   obtain⟨z,hz⟩:∃ z,z=x.extract p.size x.size:=⟨_,rfl⟩
   rw[←hz]at HB ⊢;clear hz;go_simp;refine hK _ _ ((jag.refl _ w2).alloc _) ?_;clear hK K;refine jaV _ rfl (by kernel_rfl) rfl (fun w3 he K hK=>?_);have HR3:=Hd (HR2.o.mono (((ExtR w2).alloc _).trans he));have hB:∀ j u,([.string z,.string y]:List Value)[j]?=some u→w3.cell? ((⟨w2.heap.size,0,none⟩:Addr).add j)=some u:=fun j u hj=>jab (jbg (Blk.new w2 (.cells [Value.string z,.string y].toArray 95)) j u hj) he;refine jjh Tryz.sEnts HR3.o (.tmp 34) (.tmp 49) rfl rfl hB (by intro u hu;simp at hu;rcases hu with rfl | rfl <;> rfl) rfl rfl (by unfold maxLen;omega) (by omega) (fun v' w4 r1 r2 r3=>hK _ _ r2 ?_);have r1':ERow w w4 v' (m.length+1) (m++[(z,y)]):=by
    unfold ERow;rw[jb9];exact r1
   have HR4:=Hd r1';clear hK K he r1 r2 r3 r1' hB HR2 HR3
   obtain⟨a4,c4,rfl⟩:=HR4.o.sl
   simp only[Act.put,sA,sB,sC]
   (refine jaq _ rfl (by kernel_rfl) rfl rfl (fun K hK=>?_);go_big_quiet_op;refine hK _ ?_;clear hK K)
   refine jbI (by kernel_rfl) (fun w5 he=>?_);have HR5:=Hd (HR4.o.mono he);clear he HR4;go_wp2_with fail
   go_roundw
   case rel=>exact⟨k+1,by omega,by go_num,by rw[HB.o,List.length_append];exact HR5.o⟩
   case measure=>simp[intOf];omega
  ·have hkn:k=l.length:=by omega
   subst hkn;have HF:=Hd (show ERow w wr (.slice la m.length lc) (jb0 p l).length (jb0 p l) by
    have h:=HR.o;have e:=HM.o;rw[List.take_of_length_le (Nat.le_refl _)]at e;rw[←e];exact h)
   go_wp2_with fail
   go_ret
   exact⟨_,rfl,HF.o⟩
end
section
open Go Go.RowKit
theorem jgY:∀ (a q:List UInt8) (m:Nat),ja4 (a.take m) q=min m (ja4 a q)
 | [],q,m=>by simp[ja4]
 | x :: r,[],m=>by cases m <;> simp[ja4]
 | x :: r,y :: t,0=>by simp[ja4]
 | x :: r,y :: t,m+1=>by
  have:=jgY r t m
  rw[List.take_succ_cons];show (if x=y then ja4 (r.take m) t+1 else 0)=min (m+1) (if x=y then ja4 r t+1 else 0);split <;> omega
def comF(l:List Pair)(p:ByteArray):ByteArray:=l.foldl (fun p q=>p.extract 0 (jaX p q.1)) p
def comM(a:ByteArray)(l:List Pair)(m:Nat):Nat:=l.foldl (fun m q=>min m (jaX a q.1)) m
theorem jbG(b:ByteArray)(k:Nat):(b.extract 0 k).data.toList=b.data.toList.take k:=by
 rw[ByteArray.data_extract,Array.toList_extract,List.extract_eq_take_drop];simp
theorem jmi(a:ByteArray):∀ (l:List Pair) (p:ByteArray) (m:Nat),p.data.toList=a.data.toList.take m→(comF l p).data.toList=a.data.toList.take (comM a l m)
 | [],p,m,h=>h
 | q :: l,p,m,h=>by
  refine jmi a l (p.extract 0 (jaX p q.1)) (min m (jaX a q.1)) ?_;rw[jbG,h,List.take_take]
  congr 1
  show min (ja4 p.data.toList q.1.data.toList) m=min m (ja4 a.data.toList q.1.data.toList);rw[h,jgY];omega
theorem jmk(a:ByteArray)(K:Nat):∀ (l:List Pair) (m:Nat),K≤m→(∀ q∈l,K≤jaX a q.1)→K≤comM a l m
 | [],m,h,_=>h
 | q :: l,m,h,hq=>jmk a K l (min m (jaX a q.1)) (by have:=hq q List.mem_cons_self;omega) (fun x hx=>hq x (List.mem_cons_of_mem _ hx))
theorem jj2(a:ByteArray):∀ (l:List Pair) (m:Nat),comM a l m≤m
 | [],m=>Nat.le_refl _
 | q :: l,m=>Nat.le_trans (jj2 a l _) (Nat.min_le_left _ _)
theorem jml(a:ByteArray):∀ (l:List Pair) (m:Nat) (q:Pair),q∈l→comM a l m≤jaX a q.1
 | p :: l,m,q,h=>by
  rcases List.mem_cons.1 h with rfl | h
  ·exact Nat.le_trans (jj2 a l _) (Nat.min_le_right _ _)
  ·exact jml a l _ q h
theorem jk8{a b:List UInt8}{k:Nat}(h:a.take k=b.take k)(h1:k≤a.length)(h2:k≤b.length):k≤ja4 a b:=by
 rw[jcH a b k h h1 h2];omega
theorem jhu{f:Nat}{l:List Pair}(h:jaG f l)(h2:2≤l.length):comF l (l.getD 0 pd).1=(l.getD 0 pd).1.extract 0 (comK l):=by
 refine jcx ?_
 obtain⟨a,ha⟩:∃ a,a=(l.getD 0 pd).1:=⟨_,rfl⟩
 have hm0:l.getD 0 pd∈l:=by
  rw[List.getD_eq_getElem?_getD,List.getElem?_eq_getElem (by omega)];exact List.getElem_mem _
 have hm1:l.getD (l.length - 1) pd∈l:=by
  rw[List.getD_eq_getElem?_getD,List.getElem?_eq_getElem (by omega)];exact List.getElem_mem _
 have hall:=jbF h h2;have hk0:=(hall _ hm0).2;rw[←ha,jmi a l a a.data.toList.length (List.take_of_length_le (Nat.le_refl _)).symm,jbG]
 congr 1
 have hK:∀ q∈l,comK l≤jaX a q.1:=fun q hq=>by
  obtain⟨e1,e2⟩:=hall q hq
  exact jk8 (by rw[ha];exact e1.symm) (by rw[ha];exact hk0) e2
 have h3:=jmk a (comK l) l a.data.toList.length (by rw[ha];exact hk0) hK;have h4:=jml a l a.data.toList.length _ hm1;have h5:jaX a (l.getD (l.length - 1) pd).1=comK l:=by rw[ha];rfl
 omega
theorem jjc{f:Nat}{l:List Pair}(h:jaG f l)(h2:2≤l.length):jb0 ((l.getD 0 pd).1.extract 0 (comK l)) l=jax (comK l) l:=by
 have hm0:l.getD 0 pd∈l:=by
  rw[List.getD_eq_getElem?_getD,List.getElem?_eq_getElem (by omega)];exact List.getElem_mem _
 have hall:=jbF h h2;have hsz:((l.getD 0 pd).1.extract 0 (comK l)).size=comK l:=by
  rw[ByteArray.size_extract];have:=(hall _ hm0).2;omega
 unfold jb0 jax;rw[List.filter_eq_self.2 (fun q hq=>by
  obtain⟨e1,e2⟩:=hall q hq
  unfold jee;rw[hsz,decide_eq_true e2,Bool.true_and];refine decide_eq_true (jcx ?_);rw[jbG,jbG];exact e1),hsz]
theorem jlY(i:Nat)(hi:i < 256)(q:Pair):jee ⟨#[i.toUInt8]⟩ q.1=jdR i q:=by
 obtain⟨⟨⟨x⟩⟩,v⟩:=q
 cases x with
 | nil=>rfl
 | cons a r =>
  have h1:(1:Nat)≤(⟨⟨a :: r⟩⟩:ByteArray).size:=by show 1≤(a :: r).length;simp
  have h2:(⟨⟨a :: r⟩⟩:ByteArray).extract 0 1=⟨#[a]⟩:=jcx (by rw[jbG];rfl);unfold jee;show (decide ((1:Nat)≤_) && decide ((⟨⟨a :: r⟩⟩:ByteArray).extract 0 1=⟨#[i.toUInt8]⟩))=(a.toNat == i);rw[show (a.toNat == i)=decide (a.toNat=i)from rfl];rw[decide_eq_true h1,Bool.true_and,h2];refine decide_eq_decide.2 ⟨fun e=>?_,fun e=>?_⟩
  ·have:a=i.toUInt8:=by injection e with e;injection e with e;injection e
   rw[this];simp;omega
  ·rw[←e];simp
theorem jgE(i:Nat)(hi:i < 256)(l:List Pair):jb0 ⟨#[i.toUInt8]⟩ l=jax 1 (cutL i l):=by
 unfold jb0 jax cutL;rw[show (fun q:Pair=>jee ⟨#[i.toUInt8]⟩ q.1)=jdR i from funext (jlY i hi)];rfl
end
section
open Go Go.RowKit
attribute [local go_sem] Oper.semAt_some
theorem jhq{s:ByteArray}(h:s.size=0):s=⟨#[]⟩:=by
 obtain⟨⟨l⟩⟩:=s
 cases l with
 | nil=>rfl
 | cons x r=>cases h
theorem jjl{s:ByteArray}(h:s.size≠0):s.toList.isEmpty=false:=by
 rw[ByteArray.toList_eq]
 obtain⟨⟨l⟩⟩:=s
 cases l with
 | nil=>exact absurd rfl h
 | cons x r=>rfl
theorem Tryz.enterCommon01:∀ args w,(callFunc 123 args).run Tryz.prog w=.ok (.enter 123 args) w:=fun _ _=>by kernel_rfl
theorem jgs(w:World)(b:ByteArray):Calls Tryz.prog 123 #[.string ⟨#[]⟩,.string b] w fun e w'=>e=.returned (.int .i64 (jaX ⟨#[]⟩ b))∧Ext w w':=by
  rw[show jaX ⟨#[]⟩ b=0 from jfa _ _ (.inl rfl)];go_enter Tryz.func123,Tryz.ntmps123;go_wp2_with fail
  refine jan [0,1,2,3,4,5,6,7,8,9,10,11,12] Ext ExtR ExtT (by kernel_rfl) (by kernel_rfl) (by kernel_rfl) ?_;iterate 3 (refine jae _ rfl (by kernel_rfl) rfl rfl (fun K hK=>?_);go_big_quiet_op;refine hK _ ?_;clear hK K)
  iterate 2 (refine jbu _ rfl (by kernel_rfl) rfl ?_;simp only[Act.put,sA,sB,sC])
  iterate 2 (refine jae _ rfl (by kernel_rfl) rfl rfl (fun K hK=>?_);go_big_quiet_op;refine hK _ ?_;clear hK K)
  iterate 5 (refine jbu _ rfl (by kernel_rfl) rfl ?_;simp only[Act.put,sA,sB,sC])
  (refine jae _ rfl (by kernel_rfl) rfl rfl (fun K hK=>?_);go_big_quiet_op;refine hK _ ?_;clear hK K)
  refine jaJ (by kernel_rfl) (fun w1 he=>?_);have HE:=Hd ((jas w).trans he);clear he;go_wp2_with fail
  go_ret
  exact⟨rfl,HE.o⟩
theorem jiU(w:World)(a:ByteArray)(ha:a.size≠0):Calls Tryz.prog 123 #[.string a,.string ⟨#[]⟩] w fun e w'=>e=.returned (.int .i64 (jaX a ⟨#[]⟩))∧Ext w w':=by
  have hna:=jjl ha;rw[show jaX a ⟨#[]⟩=0 from jfa _ _ (.inr rfl)];go_enter Tryz.func123,Tryz.ntmps123;go_wp2_with fail
  refine jan [0,1,2,3,4,5,6,7,8,9,10,11,12] Ext ExtR ExtT (by kernel_rfl) (by kernel_rfl) (by kernel_rfl) ?_;iterate 7 (refine jae _ rfl (by kernel_rfl) rfl rfl (fun K hK=>?_);go_big_quiet_op;refine hK _ ?_;clear hK K)
  iterate 5 (refine jbu _ rfl (by kernel_rfl) rfl ?_;simp only[Act.put,sA,sB,sC])
  (refine jae _ rfl (by kernel_rfl) rfl rfl (fun K hK=>?_);go_big_quiet_op;refine hK _ ?_;clear hK K)
  refine jaJ (by kernel_rfl) (fun w1 he=>?_);have HE:=Hd ((jas w).trans he);clear he;go_wp2_with fail
  go_ret
  exact⟨rfl,HE.o⟩
theorem jjq{a b:ByteArray}(ha:0 < a.size)(hb:0 < b.size)(h:a[0]=b[0]):jaX a b=1+jaX (a.extract 1 a.size) (b.extract 1 b.size):=by
 have e:∀ {s:ByteArray} (hs:0 < s.size),s.data.toList=s[0] ::(s.extract 1 s.size).data.toList:=fun {s} hs=>by
  have:=jhw s hs
  rw[List.drop_zero]at this;rw[this]
  congr 1
  rw[ByteArray.data_extract]
  simp
  rw[List.take_of_length_le (by rw[List.length_tail];exact Nat.le_refl _)]
 unfold jaX;rw[e ha,e hb];show (if a[0]=b[0]then _ else 0)=_;rw[if_pos h];omega
theorem je9:∀ a b:List UInt8,ja4 a b≤a.length
 | [],_=>by simp[ja4]
 | x :: r,[]=>by simp[ja4]
 | x :: r,y :: t=>by
  have:=je9 r t
  show (if x=y then ja4 r t+1 else 0)≤_;rw[List.length_cons];split <;> omega
theorem jlq(a b:ByteArray):jaX a b≤a.size:=je9 _ _
theorem jjs{a b:ByteArray}(ha:0 < a.size)(hb:0 < b.size)(h:a[0]≠b[0]):jaX a b=0:=by
 have e:∀ {s:ByteArray} (hs:0 < s.size),s.data.toList=s[0] :: s.data.toList.drop 1:=fun {s} hs=>by
  have:=jhw s hs
  rwa [List.drop_zero]at this
 unfold jaX;rw[e ha,e hb];show (if a[0]=b[0]then _ else 0)=_;rw[if_neg h]
theorem jnd:∀ (n:Nat) (w:World) (a b:ByteArray),a.size≤n→n≤1000000→b.size≤1000000→Calls Tryz.prog 123 #[.string a,.string b] w fun e w'=>e=.returned (.int .i64 (jaX a b))∧Ext w w':=by
 intro n;induction n with
 | zero =>
  intro w a b ha hn hb;have h0:=jhq (s:=a) (by omega);subst h0;exact jgs w b
 | succ n ih =>
  intro w a b ha hn hb
  by_cases ha0:a.size=0
  ·have h0:=jhq ha0
   subst h0;exact jgs w b
  by_cases hb0:b.size=0
  ·have h0:=jhq hb0
   subst h0;exact jiU w a ha0
  have hna:=jjl ha0;have hnb:=jjl hb0;have l1:0 < a.size:=by omega
  have l2:0 < b.size:=by omega
  have b1:(0:Int) < (a.size:Int):=by omega
  have b2:(0:Int) < (b.size:Int):=by omega
  by_cases heq:a[0]=b[0]
  ·rw[jjq l1 l2 heq]
   have hh:((a[0].toNat:Int) !=(b[0].toNat:Int))=false:=by rw[heq];simp
   have b3:(1:Int)≤(a.size:Int):=by omega
   have b4:(1:Int)≤(b.size:Int):=by omega
   have HIH:=Hd (fun w1=>ih w1 (a.extract 1 a.size) (b.extract 1 b.size) (by rw[ByteArray.size_extract];omega) (by omega) (by rw[ByteArray.size_extract];omega))
   obtain⟨c,hc⟩:∃ c,c=jaX (a.extract 1 a.size) (b.extract 1 b.size):=⟨_,rfl⟩
   have hcl:c≤1000000:=by have:=jlq (a.extract 1 a.size) (b.extract 1 b.size);rw[ByteArray.size_extract]at this;omega
   rw[←hc]at HIH ⊢;clear ih heq hc;go_enter Tryz.func123,Tryz.ntmps123;go_wp2_with fail
   refine jan [0,1,2,3,4,5,6,7,8,9,10,11,12] Ext ExtR ExtT (by kernel_rfl) (by kernel_rfl) (by kernel_rfl) ?_;iterate 13 (refine jae _ rfl (by kernel_rfl) rfl rfl (fun K hK=>?_);go_big_quiet_op;refine hK _ ?_;clear hK K)
   refine jaJ (by kernel_rfl) (fun w1 he=>?_);have HE:=Hd ((jas w).trans he);clear he;go_wp2_with fail
   refine jan [0,1,2,3,4,5,6] Ext ExtR ExtT (by kernel_rfl) (by kernel_rfl) (by kernel_rfl) ?_;iterate 4 (refine jae _ rfl (by kernel_rfl) rfl rfl (fun K hK=>?_);go_big_quiet_op;refine hK _ ?_;clear hK K)
   refine jaN _ 123 #[.string (a.extract 1 a.size),.string (b.extract 1 b.size)] (.int .i64 c) rfl (by kernel_rfl) rfl (fun w2=>jau Tryz.enterCommon01 (by kernel_rfl)) (fun w2 _=>HIH.o w2) ?_;simp only[Act.put,sA,sB,sC];iterate 2 (refine jae _ rfl (by kernel_rfl) rfl rfl (fun K hK=>?_);go_big_quiet_op;refine hK _ ?_;clear hK K)
   refine jaJ (by kernel_rfl) (fun w3 he=>?_);have HE3:=Hd (HE.o.trans ((jas w1).trans he));clear he;go_wp2_with fail
   go_ret
   exact⟨by simp,HE3.o⟩
  ·rw[jjs l1 l2 heq]
   have hh:((a[0].toNat:Int) !=(b[0].toNat:Int))=true:=by
    have:a[0].toNat≠b[0].toNat:=fun e=>heq (UInt8.toNat_inj.1 e)
    simp;omega
   clear ih heq;go_enter Tryz.func123,Tryz.ntmps123;go_wp2_with fail
   refine jan [0,1,2,3,4,5,6,7,8,9,10,11,12] Ext ExtR ExtT (by kernel_rfl) (by kernel_rfl) (by kernel_rfl) ?_;iterate 13 (refine jae _ rfl (by kernel_rfl) rfl rfl (fun K hK=>?_);go_big_quiet_op;refine hK _ ?_;clear hK K)
   refine jaJ (by kernel_rfl) (fun w1 he=>?_);have HE:=Hd ((jas w).trans he);clear he;go_wp2_with fail
   go_ret
   exact⟨rfl,HE.o⟩
theorem jmj(h:ByteArray){l:List Pair}{k:Nat}{q:Pair}(hq:l[k]?=some q):comF (l.take (k+1)) h=(comF (l.take k) h).extract 0 (jaX (comF (l.take k) h) q.1):=by
 unfold comF;rw[List.take_add_one,hq,Option.toList_some,List.foldl_append];rfl
theorem jio:∀ (l:List Pair) (h:ByteArray),(comF l h).size≤h.size
 | [],h=>Nat.le_refl _
 | q :: l,h=>Nat.le_trans (jio l _) (by rw[ByteArray.size_extract];omega)
def Co5R(w:World)(h:ByteArray)(l:List Pair)(v iv:Value)(wr:World):Prop:=∃ k:Nat,k≤l.length∧v=.string (comF (l.take k) h)∧iv=.int .i64 k∧Ext w wr
theorem jjH(w:World)(v:Value)(l:List Pair)(hv:RdP w v l)(hl:l≠[])(hn:l.length≤1000000)(hs:∀ p∈l,p.1.size≤1000000) :
  Calls Tryz.prog 76 #[v] w fun e w'=>e=.returned (.string (comF l (l.getD 0 pd).1))∧Ext w w':=by
 have HS:=Hd hs;have hpos:0 < l.length:=List.length_pos_iff.2 hl
 obtain⟨⟨x0,y0⟩,hq0⟩:∃ p,l[0]?=some p:=⟨_,List.getElem?_eq_getElem hpos⟩
 have hx0:(l.getD 0 pd).1=x0:=by rw[List.getD_eq_getElem?_getD,hq0];rfl
 rw[hx0];rcases hv with⟨_,_,_,h0⟩ |⟨b,o,c1,rfl,hb,hc,hcell⟩
 ·rw[h0]at hpos;cases hpos
 have q0:=(hcell 0 _ hq0).1;rw[Nat.zero_mul,Nat.add_zero]at q0;have HX0:=Hd (HS.o _ (List.mem_of_getElem? hq0));have HCL:=Hd hcell;have b0:(0:Int) < (l.length:Int):=by omega
 clear hs hcell hq0 hx0;go_enter Tryz.func76,Tryz.ntmps76;go_wp2_with fail
 go_loopw [3,4] (fun v iv wr=>Co5R w x0 l v iv wr) (fun _ iv _=>l.length - (intOf iv).toNat)
 case atStart=>exact⟨0,by omega,rfl,rfl,ExtR w⟩
 case round =>
  obtain⟨k,hk,rfl,rfl,hE⟩:=hrel
  have HE:=Hd hE
  obtain⟨p,hp⟩:∃ p,p=comF (l.take k) x0:=⟨_,rfl⟩
  have HP:=Hd hp;rw[←hp];have HPS:=Hd (show p.size≤1000000 by rw[hp];exact Nat.le_trans (jio _ _) HX0.o);clear hE hp
  by_cases hlt:k < l.length
  ·have b1:(k:Int) < (l.length:Int):=by omega
   obtain⟨⟨x,y⟩,hq⟩:∃ p,l[k]?=some p:=⟨_,List.getElem?_eq_getElem hlt⟩
   have q1:=jab (HCL.o k _ hq).1 HE.o;have HXS:=Hd (HS.o _ (List.mem_of_getElem? hq));have HST:=Hd (jmj x0 hq);rw[←HP.o]at HST;clear hq;go_wp2_with fail
   refine (jnd p.size wr p x (Nat.le_refl _) HPS.o HXS.o).mono ?_;rintro e w1 ⟨rfl,hE⟩
   obtain⟨cm,hcm⟩:∃ cm,cm=jaX p x:=⟨_,rfl⟩
   have hcl:cm≤p.size:=by rw[hcm];exact je9 _ _
   have HE1:=Hd (HE.o.trans hE);rw[←hcm]at HST ⊢;clear hE hcm;have c0:(cm:Int)≤(p.size:Int):=by omega
   go_wp2_with fail
   go_roundw
   case rel=>exact⟨k+1,by omega,by rw[HST.o],by go_num,HE1.o⟩
   case measure=>simp[intOf];omega
  ·have hkn:k=l.length:=by omega
   have HF:=Hd (show p=comF l x0 by rw[HP.o,hkn,List.take_of_length_le (Nat.le_refl _)]);go_wp2_with fail
   go_ret
   exact⟨by rw[HF.o];rfl,HE.o⟩
def jey(l:List Pair)(n:jac):Prop:=∀ w v,RdP w v l→Calls Tryz.prog 122 #[v] w fun e w'=>e=.returned n.V∧Ext w w'
theorem jeT(f:Nat)(l:List Pair)(hN:jey l (jay (jad f) l))(h:jaG f l)(w:World)(v:Value)(hv:RdP w v l) :
  Calls Tryz.prog 75 #[v] w fun e w'=>e=.returned (.string (jad (f+1) l).text)∧Ext w w':=by
 have HG:=Hd (good f l h).1;have HV:=Hd hv;have HN:=Hd hN
 obtain⟨n,hn⟩:∃ n,n=jay (jad f) l:=⟨_,rfl⟩
 rw[show (jad (f+1) l).text=jaH (jay (jad f) l)from rfl];rw[←hn]at HG HN ⊢
 obtain⟨a0,c0,hsl⟩:=hv.sl
 subst hsl;clear hv hN hn h;go_enter Tryz.func75,Tryz.ntmps75;go_wp2_with fail
 refine (HN.o w _ HV.o).mono ?_;rintro e w1 ⟨rfl,hE⟩;have HE:=Hd hE;clear hE;go_wp2_with fail
 refine (jgx (inlP f) (inlR f) w1 n HG.o).mono ?_;rintro e w2 ⟨rfl,hE⟩;have HE2:=Hd (HE.o.trans hE);clear hE;go_wp2_with fail
 go_ret
 exact⟨rfl,HE2.o⟩
theorem jno(f:Nat)(l:List Pair)(hN:jey l (jay (jad f) l))(h:jaG f l)(w:World)(v:Value)(hv:RdP w v l) :
  Calls Tryz.prog 169 #[v] w fun e w'=>e=.returned (.string (refB (jad (f+1) l).text))∧Ext w w':=by
 have HB:=Hd (jeT f l hN h w v hv);have HSZ:=Hd (show (jad (f+1) l).text.size≤1000000 from Nat.le_trans (jha (jay (jad f) l) ((good f l h).1.one (inlP f))) (by decide))
 obtain⟨t,ht⟩:∃ t,t=(jad (f+1) l).text:=⟨_,rfl⟩
 rw[←ht]at HB HSZ ⊢
 obtain⟨a0,c0,hsl⟩:=hv.sl
 subst hsl;clear hv hN ht h;go_enter Tryz.func169,Tryz.ntmps169;go_wp2_with fail
 refine HB.o.mono ?_;rintro e w1 ⟨rfl,hE⟩;have HE:=Hd hE;clear hE;go_wp2_with fail
 refine (jqz w1 t HSZ.o).mono ?_;rintro e w2 ⟨rfl,hE⟩;have HE2:=Hd (HE.o.trans hE);clear hE;go_wp2_with fail
 go_ret
 exact⟨rfl,HE2.o⟩
theorem jlk(B:List Pair→PT):jey [] (jay B []):=by
 intro w v hv
 obtain⟨a0,c0,hsl⟩:=hv.sl
 subst hsl;clear hv;go_enter Tryz.func122,Tryz.ntmps122;go_wp2_with (first |(refine jai Tryz.allocNode rfl rfl ?_;intro W1 hB1 hE1) |(refine jaf (vs:=jav.cells) rfl rfl rfl rfl hB1 rfl Tryz.szNode jav.one ?_;intro W2 hB2 hE2))
 refine bodyPost_ret (jbd rfl rfl (jao W2 _ jav rfl hB2)) rfl ?_
 exact⟨rfl,hE1.trans' hE2 (fun x hx e=>by have e:x=w.heap.size:=e;omega)⟩
theorem jmW(B:List Pair→PT)(x y:ByteArray):jey [(x,y)] (jay B [(x,y)]):=by
 intro w v hv;rcases hv with⟨_,_,_,h0⟩ |⟨b,o,c1,rfl,hb,hc,hcell⟩
 ·cases h0
 obtain⟨q1,q2⟩:=hcell 0 (x,y) rfl
 rw[Nat.zero_mul,Nat.add_zero]at q1;rw[Nat.zero_mul,Nat.add_zero]at q2;have Q1:=Hd q1;have Q2:=Hd q2;rw[show List.length [(x,y)]=1 from rfl]at *;rw[show jay B [(x,y)]=⟨1,x,y,jat 16⟩from rfl];have NB:=Hd (show ¬(b=w.heap.size)from by omega);clear hcell q1 q2 hc hb;go_enter Tryz.func122,Tryz.ntmps122;go_wp2_with (refine jai Tryz.allocNode rfl rfl ?_;intro W1 hB1 hE1)
 have HB1:=Hd hB1;have HE1:=Hd hE1;clear hB1 hE1;refine jaL [0,1,2,3,4,5,6,7,8,9] [9] Ext (jag (fun z=>z=w.heap.size)) ExtR ExtT (fun x y z h k=>jag.trans h k) (fun x y h=>h.mono (fun _ _ h=>h.elim)) (by kernel_rfl) (by kernel_rfl) (by kernel_rfl) ?_;iterate 3 (refine jaq _ rfl (by kernel_rfl) rfl rfl (fun K hK=>?_);go_big_quiet_op;refine hK _ ?_;clear hK K)
 refine jaQ ⟨b,o,none⟩ _ rfl (by kernel_rfl) rfl rfl (fun w1 h1=>jaa Tryz.uStr rfl (jaD (jab (jab Q1.o HE1.o) (jas W1)) h1 NB.o)) ?_;simp only[Act.put,sA,sB,sC];iterate 3 (refine jaq _ rfl (by kernel_rfl) rfl rfl (fun K hK=>?_);go_big_quiet_op;refine hK _ ?_;clear hK K)
 refine jaQ ⟨b,o+1,none⟩ _ rfl (by kernel_rfl) rfl rfl (fun w1 h1=>jaa Tryz.uStr rfl (jaD (jab (jab Q2.o HE1.o) (jas W1)) h1 NB.o)) ?_;simp only[Act.put,sA,sB,sC]
 (refine jaq _ rfl (by kernel_rfl) rfl rfl (fun K hK=>?_);go_big_quiet_op;refine hK _ ?_;clear hK K)
 refine jaV _ rfl (by kernel_rfl) rfl (fun w2 he K hK=>?_);refine jcw (vs:=jac.cells ⟨1,x,y,jat 16⟩) rfl rfl rfl ((HB1.o.keeps (jas W1) (fun h=>h)).keeps he (fun h=>h)) rfl Tryz.szNode (jac.one _) ?_;intro W3 hB3 hE3;have HE3:=Hd (((HE1.o.trans (jas W1)).trans he).trans' hE3 (fun x hx e=>by have e:x=w.heap.size:=e;omega));have HB3:=Hd hB3;refine hK _ _ hE3 ?_;clear hK K he hB3 hE3;refine jbI (by kernel_rfl) (fun w4 he=>?_);have HB4:=Hd (HB3.o.keeps he (fun h=>h));have HE4:=Hd (HE3.o.trans he);clear he;go_wp2_with fail
 refine bodyPost_ret (jbd rfl rfl (jao w4 _ (jac.mk 1 x y (jat 16)) rfl HB4.o)) rfl ?_
 exact⟨rfl,HE4.o⟩
theorem jmV(f:Nat)(l:List Pair)(h2:2≤l.length)(hln:l.length≤1000)(hok:jaG (f+1) l)(hk:0 < comK l)(hB:jey (jax (comK l) l) (jay (jad f) (jax (comK l) l)))(hok':jaG f (jax (comK l) l)):jey l (jay (jad (f+1)) l):=by
 intro w v hv;have HV:=Hd hv;have HO:=Hd hok;have HO':=Hd hok';have HB:=Hd hB;have HCF:=Hd (jhu hok h2);have HUN:=Hd (jjc hok h2);have hall:=jbF hok h2;have HSZ:=Hd (show ∀ p∈l,p.1.size≤1000000 from fun p hp=>Nat.le_trans (hok.size p hp).2.1 (by decide));have hps:((l.getD 0 pd).1.extract 0 (comK l)).size=comK l:=by
  have hm0:l.getD 0 pd∈l:=by
   rw[List.getD_eq_getElem?_getD,List.getElem?_eq_getElem (by omega)];exact List.getElem_mem _
  rw[ByteArray.size_extract];have:=(hall _ hm0).2;omega
 have hk12:comK l≤12:=by
  have hm0:l.getD 0 pd∈l:=by
   rw[List.getD_eq_getElem?_getD,List.getElem?_eq_getElem (by omega)];exact List.getElem_mem _
  exact Nat.le_trans (hall _ hm0).2 (hok.size _ hm0).2.1
 have hnode:jay (jad (f+1)) l=⟨2,(l.getD 0 pd).1.extract 0 (comK l),⟨#[]⟩,refB (jad (f+1) (jax (comK l) l)).text :: jat 15⟩:=by
  unfold jay;rw[if_neg (by omega),if_neg (by omega),if_pos hk]
 rw[hnode]
 obtain⟨p,hp⟩:∃ p,p=(l.getD 0 pd).1.extract 0 (comK l):=⟨_,rfl⟩
 rw[←hp]at HCF HUN hps ⊢
 obtain⟨r,hr⟩:∃ r,r=refB (jad (f+1) (jax (comK l) l)).text:=⟨_,rfl⟩
 have HR:=Hd (jno f _ hB hok');rw[←hr]at HR ⊢;have HPZ:=Hd (show 0 < p.size∧p.size≤12 by omega);have hco:=fun W (e:Ext w W)=>jjH W v l (hv.ext e) (fun e=>by rw[e]at h2;simp at h2) (by omega) HSZ.o;rw[HCF.o]at hco;have HCO:=Hd hco;clear hco
 obtain⟨a0,c0,hsl⟩:=hv.sl
 subst hsl;have g0:¬(l.length:Int)=0:=by omega
 have g1:¬(l.length:Int)=1:=by omega
 clear hv hok hok' hB hall hps hk12 hnode hp hr hk;go_enter Tryz.func122,Tryz.ntmps122;go_wp2_with (refine jai Tryz.allocNode rfl rfl ?_;intro W1 hB1 hE1)
 have HB1:=Hd hB1;have HE1:=Hd hE1;clear hB1 hE1;refine (HCO.o W1 HE1.o).mono ?_;rintro e w2 ⟨rfl,hE⟩;have HE2:=Hd (HE1.o.trans hE);have HB2:=Hd (HB1.o.keeps hE (fun h=>h));clear hE HE1 HB1 HCO;have hpe:p.toList.isEmpty=false:=by
  rw[ByteArray.toList_eq];cases h:p.data.toList with
  | nil=>have:=HPZ.o.1;have e:p.data.toList.length=p.size:=rfl;rw[h]at e;simp at e;omega
  | cons=>rfl
 go_wp2_with (first |(refine jai Tryz.allocNode rfl rfl ?_;intro W3 hB3 hE3) |(refine jaf (vs:=jac.cells ⟨2,p,⟨#[]⟩,jat 16⟩) rfl rfl rfl rfl hB3 rfl Tryz.szNode (jac.one _) ?_;intro W4 hB4 hE4))
 obtain⟨gr,hgr⟩:∃ gr,gr=w.heap.size:=⟨_,rfl⟩
 obtain⟨gn,hgn⟩:∃ gn,gn=w2.heap.size:=⟨_,rfl⟩
 have HGN:=Hd (show gr≠gn∧w.heap.size≤gr∧w.heap.size≤gn from by have:=HB2.o.lt;have:=HE2.o.size;omega);have HX4:=Hd ((HE2.o.trans hE3).trans' hE4 (fun x hx e=>by have e:x=w2.heap.size:=e;have:=HE2.o.size;omega));have HR4:=Hd ((HB2.o.keeps hE3 (fun h=>h)).keeps hE4 (by have:=HB2.o.lt;omega));have HN4:=Hd hB4;rw[←hgr]at HR4 ⊢;rw[←hgn]at HN4 ⊢;clear hB3 hE3 hB4 hE4 hgr hgn HB2;refine (jeX W4 _ l p (HV.o.ext HX4.o) (by omega) HSZ.o (by have:=HPZ.o.2;omega)).mono ?_;rintro e w5 ⟨u,rfl,hU⟩;rw[HUN.o]at hU
 obtain⟨a5,c5,rfl⟩:=hU.sl
 have HU:=Hd hU;clear hU;go_wp2_with fail
 refine (HR.o w5 _ (ERow.rd HU.o)).mono ?_;rintro e w6 ⟨rfl,hE⟩;have HE6:=Hd (HU.o.ext.trans hE);have HN6:=Hd (HN4.o.keeps HE6.o (fun h=>h));have HR6:=Hd (HR4.o.keeps HE6.o (fun h=>h));clear hE;have k3:=HN6.o.cellL (i:=3) (v:=.string ⟨#[]⟩) rfl;have f3:w6.frozen? ⟨gn,3,none⟩=false:=HN6.o.frozen;have hN7:Blk (w6.setCell ⟨gn,3,none⟩ (.string r)) gn (.cells (jac.cells ⟨2,p,⟨#[]⟩,r :: jat 15⟩).toArray 144):=HN6.o.set_same (i:=3) (.string r);have HK7:=Hd ((jag.refl (fun z=>z=gn) w6).setCell (p:=⟨gn,3,none⟩) (.inl rfl) (.string r));have hR7:=HR6.o.keeps HK7.o HGN.o.1;have hld:=jap _ gn ⟨2,p,⟨#[]⟩,r :: jat 15⟩ rfl hN7;unfold jac.V at hld;clear hN7;go_wp2_with (first |(refine jah 144 (.tmp 4) rfl rfl _ _ rfl hld ?_) |(refine jaf (vs:=jac.cells ⟨2,p,⟨#[]⟩,r :: jat 15⟩) rfl rfl rfl rfl hR7 rfl Tryz.szNode (jac.one _) ?_;intro W12 hB12 hE12))
 refine bodyPost_ret (jbd rfl rfl (jao W12 _ ⟨2,p,⟨#[]⟩,r :: jat 15⟩ rfl hB12)) rfl ?_;have hz:=HGN.o
 exact⟨rfl,((HX4.o.trans HE6.o).trans' HK7.o (fun x hx e=>by have e:x=gn:=e;omega)).trans' hE12 (fun x hx e=>by have e:x=gr:=e;omega)⟩
end
end Go.Proofs.YtcpnjmcipainpaaGreatDoor
