/- Lemmas; each is under no condition but those that it states. -/
import Derived.Test.YtcpnjmcipainpaaGreatDoorPr44
namespace Go.Proofs.YtcpnjmcipainpaaGreatDoor
set_option linter.unusedSimpArgs false
set_option linter.unusedVariables false
set_option maxRecDepth 100000
set_option maxHeartbeats 16000000
section
open Go Go.RowKit
attribute [local go_sem] Oper.semAt_some
theorem jnp{x:vB}(h:x.size≠0):x.toList.isEmpty=false:=by
 rw[ByteArray.toList_eq];cases e:x.data.toList with
 | nil=>exact absurd (show x.size=0 by show x.data.toList.length=0;rw[e];rfl) h
 | cons=>rfl
def Va4R(W:World)(rs:List vB)(sv iv:Value)(wr:World):Prop:=∃ k:Nat,k<=16/\iv=.int .i64 k/\sv=.int .i64 ((jas 0 (rs.take k)).length:Nat)/\Ext W wr
theorem jon(rs:List vB){k:Nat}{x:vB}(h:rs[k]?=some x):(jas 0 (rs.take (k+1))).length=(jas 0 (rs.take k)).length+(if x.size=0 then 0 else 1):=by
 have:=jib ⟨0,⟨#[]⟩,⟨#[]⟩,rs⟩ h
 rw[show jas 0 (rs.take (k+1))=_ from this,List.length_append];split <;> rfl
theorem Tryz.eql_empty(w:World):(binOp .eql 144 jar.V (.agg #[.int .i64 0,.string ⟨#[]⟩,.string ⟨#[]⟩,.string ⟨#[]⟩,.string ⟨#[]⟩,.string ⟨#[]⟩,.string ⟨#[]⟩,.string ⟨#[]⟩,.string ⟨#[]⟩,.string ⟨#[]⟩,.string ⟨#[]⟩,.string ⟨#[]⟩,.string ⟨#[]⟩,.string ⟨#[]⟩,.string ⟨#[]⟩,.string ⟨#[]⟩,.string ⟨#[]⟩,.string ⟨#[]⟩,.string ⟨#[]⟩])).run Tryz.prog w=.ok (.bool true) w:=by kernel_rfl
section
variable {I:vB->jad->Prop} (HI:InlR I)
include HI
theorem jrH(w:World)(n:jad)(h:jbx I n)(hr:n.refs.length=16):vR 167 #[n.V] w (.bool true):=by
 have HG:=Hd h;have HRL:=Hd hr;have e0:n.cells[0]?=some (.int .i64 (n.kind:Int)):=rfl;have e1:n.cells[1]?=some (.string n.path):=rfl;have e2:n.cells[2]?=some (.string n.value):=rfl;have eR:∀ (k:Nat) x,n.refs[k]?=some x->n.cells[3+k]?=some (.string x):=fun k x hx=>by
  show (Value.int .i64 (n.kind:Int) :: .string n.path :: .string n.value :: n.refs.map Value.string)[3+k]?=_;rw[show 3+k=k+1+1+1 by omega];simp[hx]
 have HCE:=Hd (And.intro e0 (And.intro e1 (And.intro e2 eR)));unfold jad.V
 obtain⟨C,hC⟩:=vE n.cells
 rw[<-hC]at HCE ⊢;have HCD:=Hd hC;clear h hr e0 e1 e2 eR hC;go_enter Tryz.func167,Tryz.ntmps167;go_wp2_with fail
 have hB0:=Blk.new w (.cells C.toArray 144)
 obtain⟨W0,hW0⟩:=vE (w.alloc (.cells C.toArray 144))
 have HE0:=Hd (show Ext w W0 by rw[hW0];exact (ExtR w).alloc _);rw[<-hW0]at hB0 ⊢
 obtain⟨g,hg⟩:=vE w.heap.size
 rw[<-hg]at hB0 ⊢;have HB0:=Hd hB0;clear hW0 hg hB0;go_loopw [3,4] (fun sv iv wr=>Va4R W0 n.refs sv iv wr) (fun _ iv _=>16 - (intOf iv).toNat)
 case atStart=>exact⟨0,by omega,rfl,rfl,ExtR W0⟩
 case round =>
  obtain⟨k,hk,rfl,rfl,hE⟩:=hrel
  have HE:=Hd hE;clear hE
  by_cases hlt:k < 16
  ·have b1:(k:Int) < 16:=by omega
   obtain⟨x,hx⟩:∃ x,n.refs[k]?=some x:=⟨_,List.getElem?_eq_getElem (by have:=HRL.o;omega)⟩
   have q1:wr.cell? ⟨g,3+k,none⟩=some (.string x):=(HB0.o.keeps HE.o (fun h=>h)).cellL (HCE.o.2.2.2 k x hx);have hst:=jon n.refs hx;have hle:(jas 0 (n.refs.take k)).length<=16:=by
    have:∀ (l:List vB) (i:Nat),(jas i l).length<=l.length:=fun l=>by
     induction l with
     | nil=>intro i;exact Nat.le_refl _
     | cons y r ih=>intro i;unfold jas;have:=ih (i+1);split <;> simp <;> omega
    have h2:=this (n.refs.take k) 0;have h3:(n.refs.take k).length<=16:=by rw[List.length_take];omega
    omega
   obtain⟨c0,hc0⟩:=vE (jas 0 (n.refs.take k)).length
   rw[<-hc0]at hst hle ⊢;clear hx hc0
   by_cases hx0:x=⟨#[]⟩
   ·subst hx0
    rw[if_pos (show (⟨#[]⟩:vB).size=0 from rfl)]at hst;have HST:=Hd hst;clear hst;go_wp2_with fail
    go_roundw
    case rel=>exact⟨k+1,by omega,by go_num,by rw[HST.o];rfl,HE.o⟩
    case measure=>simp[intOf];omega
   ·have hxs:x.size≠0:=fun e=>hx0 (jbt (List.eq_nil_of_length_eq_zero e))
    have hxm:=jnp hxs;rw[if_neg hxs]at hst;have HST:=Hd hst;clear hst hx0 hxs;go_wp2_with fail
    go_roundw
    case rel=>exact⟨k+1,by omega,by go_num,by rw[HST.o];go_num,HE.o⟩
    case measure=>simp[intOf];omega
  ·have hk16:k=16:=by omega
   subst hk16;have hcnt:(jas 0 (n.refs.take 16)).length=(jas 0 n.refs).length:=by rw[List.take_of_length_le (by have:=HRL.o;omega)]
   rw[hcnt];have b1:¬((16:Nat):Int) < 16:=by omega
   have hB:=HB0.o.keeps HE.o (fun h=>h);have HB:=Hd hB;have q0:=hB.cellL HCE.o.1;have q1:=hB.cellL HCE.o.2.1;have q2:=hB.cellL HCE.o.2.2.1;clear hcnt hB hlt;have hg2:=HG.o;cases hg2 with
   | none =>
    have hC:C=jar.cells:=HCD.o;subst hC;have hld:=jan wr g jar rfl HB.o;have heq:=Tryz.eql_empty wr;go_wp2_with (first |(refine jaf 144 (.tmp 1) rfl rfl _ _ rfl hld ?_) |(refine jlQ (.tmp 23) (.tmp 24) rfl rfl _ _ (.bool true) rfl rfl vY heq ?_))
    go_ret
    exact⟨rfl,HE0.o.trans HE.o⟩
   | leaf p v h2 h3 h4 =>
    rw[show (jas 0 (jam 16)).length=0 by rw[jdB];rfl]
    obtain⟨z1,z2,z3⟩:=jbJ h2
    have hp:=jnM wr p (by have z2:p.size<=12:=z2;omega);rw[show (jat p && decide (p.size<=12))=true by rw[show jat p=true from z3,decide_eq_true (show p.size<=12 from z2)];rfl]at hp;have HP:=Hd hp;have c1:(1:Int)<=(v.size:Int):=by omega
    have c2:(v.size:Int)<=80:=by omega
    clear hp h2 z1 z2 z3;go_wp2_with fail
    refine HP.o.mono ?_;rintro e w5 ⟨rfl,rfl⟩;go_wp2_with fail
    go_ret
    exact⟨rfl,HE0.o.trans HE.o⟩
   | ext p r h2 h3 h4 =>
    have hs1:jas 0 (r :: jam 15)=[(0,r)]:=by unfold jas;rw[if_neg h3,jdB]
    rw[show (jas 0 (r :: jam 15)).length=1 by rw[hs1];rfl]
    obtain⟨z1,z2,z3⟩:=jbJ h2
    have hp:=fun w1=>jnM w1 p (by have z2:p.size<=12:=z2;omega);rw[show (jat p && decide (p.size<=12))=true by rw[show jat p=true from z3,decide_eq_true (show p.size<=12 from z2)];rfl]at hp;have HP:=Hd hp;have hpe:=jnp (show p.size≠0 by have z1:1<=p.size:=z1;omega);have q3:wr.cell? ⟨g,3,none⟩=some (.string r):=HB.o.cellL (HCE.o.2.2.2 0 r rfl);have HQ:=Hd (And.intro q1 (And.intro q2 q3));have HM:=Hd (fun w1=>ji7 HI w1 r (h4.imp id (fun ⟨m,h,_⟩=>⟨m,h⟩)));have HIN:=Hd (show ∃ (m:jad) (ok:Bool),m.refs.length=16/\(ok=true->m.kind=3)/\∀ w1,vQ 209 #[.string r] w1 fun e w'=>e=.returned (.tuple #[m.V,.bool ok])/\Ext w1 w' from by
     rcases h4 with hh |⟨m,h5,h6⟩
     ·exact⟨jar,false,rfl,(fun e=>by cases e),fun w1=>jic w1 r (by have:=hh.size;omega)⟩
     ·exact⟨m,true,HI.refs r m h5,fun _=>h6,fun w1=>HI.inl r m h5 w1⟩)
    clear hp h2 z1 z2 z3 h3 h4 hs1
    obtain⟨m,ok,hm,hk3,hin⟩:=HIN.o
    have HKK:=Hd hk3;have HL:=Hd (m.cells_len hm);have HI2:=Hd hin;unfold jad.V at HI2;clear hm hk3 hin;go_wp2_with fail
    refine vC (HI2.o wr) fun w5 hE=>?_;have HE5:=Hd hE;clear hE;cases ok with
    | false =>
     go_wp2_with (first |(refine jah Tryz.allocNode rfl rfl ?_;intro W3 hB3 hE3;refine jag (vs:=m.cells) rfl rfl rfl rfl hB3 (by rw[HL.o];rfl) (by rw[HL.o];exact Tryz.szNode) m.one ?_;intro W4 hB4 hE4;have hX4:Ext w5 W4:=hE3.trans' hE4 (fun x hx e=>by have e:x=w5.heap.size:=e;omega);have q1:=jaa HQ.o.1 (HE5.o.trans hX4)))
     have HX4:=Hd (HE5.o.trans hX4);have HK4:=Hd (show W4.cell? ⟨w5.heap.size,0,none⟩=some (.int .i64 (m.kind:Int))from hB4.cellL vF);clear hX4 hB4 hE4 hB3 hE3 q1;refine (HP.o W4).mono ?_;rintro e w6 ⟨rfl,rfl⟩;have q1:=jaa HQ.o.1 HX4.o;have q2:=jaa HQ.o.2.1 HX4.o;have q3:=jaa HQ.o.2.2 HX4.o;go_wp2_with fail
     refine vC (HM.o w6) fun w7 hE=>?_;have HE7:=Hd (HX4.o.trans hE);clear hE q1 q2 q3;go_wp2_with fail
     go_ret
     exact⟨rfl,HE0.o.trans (HE.o.trans HE7.o)⟩
    | true =>
     go_wp2_with (first |(refine jah Tryz.allocNode rfl rfl ?_;intro W3 hB3 hE3;refine jag (vs:=m.cells) rfl rfl rfl rfl hB3 (by rw[HL.o];rfl) (by rw[HL.o];exact Tryz.szNode) m.one ?_;intro W4 hB4 hE4;have hX4:Ext w5 W4:=hE3.trans' hE4 (fun x hx e=>by have e:x=w5.heap.size:=e;omega);have q1:=jaa HQ.o.1 (HE5.o.trans hX4)))
     have HX4:=Hd (HE5.o.trans hX4);have HK4:=Hd (show W4.cell? ⟨w5.heap.size,0,none⟩=some (.int .i64 (m.kind:Int))from hB4.cellL vF);clear hX4 hB4 hE4 hB3 hE3 q1;refine (HP.o W4).mono ?_;rintro e w6 ⟨rfl,rfl⟩;have q1:=jaa HQ.o.1 HX4.o;have q2:=jaa HQ.o.2.1 HX4.o;have q3:=jaa HQ.o.2.2 HX4.o;go_wp2_with fail
     refine vC (HM.o w6) fun w7 hE=>?_;have HE7:=Hd (HX4.o.trans hE);have qk:=jaa HK4.o hE;rw[HKK.o (by simp)]at qk;clear hE q1 q2 q3;go_wp2_with fail
     go_ret
     exact⟨rfl,HE0.o.trans (HE.o.trans HE7.o)⟩
   | branch v rs h2 h3 h4 h5 =>
    have HM:=Hd (fun w1 r hr hz=>ji7 HI w1 r (h4 r hr hz));have hle:(jas 0 rs).length<=16:=by
     have:∀ (l:List vB) (i:Nat),(jas i l).length<=l.length:=fun l=>by
      induction l with
      | nil=>intro i;exact Nat.le_refl _
      | cons y r ih=>intro i;unfold jas;have:=ih (i+1);split <;> simp <;> omega
     have:=this rs 0
     omega
    obtain⟨c0,hc0⟩:=vE (jas 0 rs).length
    rw[<-hc0]at h5 hle ⊢;have H5:=Hd h5;have HLE:=Hd hle;have HRL2:Hid (rs.length=16):=h2;clear hc0 h2 h4 h5 hle q1 q2;go_wp2_with fail
    obtain⟨W2,rfl⟩:=vE wr
    go_loopw [7] (fun iv wr=>∃ k:Nat,k<=16/\iv=.int .i64 k/\Ext W2 wr) (fun iv _=>16 - (intOf iv).toNat)
    case atStart=>exact⟨0,by omega,rfl,ExtR W2⟩
    case round =>
     obtain⟨k,hk,rfl,hE⟩:=hrel
     have HE2:=Hd hE;clear hE
     by_cases hlt:k < 16
     ·have b1:(k:Int) < 16:=by omega
      obtain⟨x,hx⟩:∃ x,rs[k]?=some x:=⟨_,List.getElem?_eq_getElem (by have:=HRL2.o;omega)⟩
      have q1:wr.cell? ⟨g,3+k,none⟩=some (.string x):=jaa (HB.o.cellL (HCE.o.2.2.2 k x hx)) HE2.o;have HXM:=Hd (List.mem_of_getElem? hx);clear hx
      by_cases hx0:x=⟨#[]⟩
      ·subst hx0
       go_wp2_with fail
       go_roundw
       case rel=>exact⟨k+1,by omega,by go_num,HE2.o⟩
       case measure=>simp[intOf];omega
      ·have hxs:x.size≠0:=fun e=>hx0 (jbt (List.eq_nil_of_length_eq_zero e))
       have hxm:=jnp hxs;have HMX:=Hd (HM.o wr x HXM.o hxs);clear hx0 hxs;go_wp2_with fail
       refine HMX.o.mono ?_;rintro e w5 ⟨rfl,hE⟩;have HE5:=Hd (HE2.o.trans hE);clear hE;go_wp2_with fail
       go_roundw
       case rel=>exact⟨k+1,by omega,by go_num,HE5.o⟩
       case measure=>simp[intOf];omega
     ·have q1:wr.cell? ⟨g,1,none⟩=some (.string ⟨#[]⟩):=jaa (HB.o.cellL HCE.o.2.1) HE2.o
      have q2:wr.cell? ⟨g,2,none⟩=some (.string v):=jaa (HB.o.cellL HCE.o.2.2.1) HE2.o;have b1:¬(k:Int) < 16:=by omega
      have c2:(v.size:Int)<=80:=by omega
      have h5:=H5.o;have hle:=HLE.o
      by_cases hv0:v=⟨#[]⟩
      ·subst hv0
       have hz:min (⟨#[]⟩:vB).size 1=0:=rfl;rw[hz]at h5;have c3:(2:Int)<=(c0:Int):=by omega
       clear h5 hz hle;go_wp2_with fail
       go_ret
       exact⟨rfl,HE0.o.trans (HE.o.trans HE2.o)⟩
      ·have hvs:v.size≠0:=fun e=>hv0 (jbt (List.eq_nil_of_length_eq_zero e))
       have hvm:=jnp hvs;have c3:(2:Int)<=(c0:Int)+1:=by omega
       clear hv0 hvs h5;go_wp2_with fail
       go_ret
       exact⟨rfl,HE0.o.trans (HE.o.trans HE2.o)⟩
end
end
section
open Go Go.RowKit
attribute [local go_sem] Oper.semAt_some
theorem jro{I:vB->jad->Prop}(HI:InlP I)(w:World)(n:jad)(h:jbx I n):vR 168 #[n.V] w (.string (jaN n)):=by
 have h1:=h.one HI;cases h with
 | none=>exact jlq w _ _ _ rfl
 | leaf p v h2 h3 h4 =>
  obtain⟨z1,z2,z3⟩:=jbJ h2
  exact jlp w p v _ rfl z2 h4 z3
 | ext p r h2 h3 h4 =>
  obtain⟨z1,z2,z3⟩:=jbJ h2
  exact jmB w p _ r _ z2 (by have:=h1.each r (List.mem_cons_self);omega) z3
 | branch v rs h2 h3 h4 h5 =>
  have hz:=jc3 _ h1;rw[jdl _ h2]at hz;exact jiy w v rs h2 h3 (by have hz:(catB (ja0 rs v)).size<=1513:=hz;omega)
section
variable {I:vB->jad->Prop} (HP:InlP I) (HI:InlR I)
include HP HI
theorem jid(w:World)(n:jad)(h:jbx I n):vR 121 #[n.V] w (.tuple #[.string (jaN n),.int .i64 0]):=by
 have h1:=h.one HP;have hld:=jan (w.alloc (.cells n.cells.toArray 144)) _ n h1.refs (Blk.new w _);have H:=Hd h;have H1:=Hd h1;clear h h1;unfold jad.V at hld ⊢;go_enter Tryz.func121,Tryz.ntmps121;go_wp2_with (refine jaf 144 (.tmp 1) rfl rfl _ _ rfl hld ?_)
 refine vC (jrH HI _ n H.o H1.o.refs) fun w2 hE=>?_;have hB:=(Blk.new w (.cells n.cells.toArray 144)).keeps hE (fun h=>h);have hld2:=jan w2 _ n H1.o.refs hB;have HE:=Hd (((ExtR w).alloc _).trans hE);unfold jad.V at hld2;clear hld hE hB;go_wp2_with (refine jaf 144 (.tmp 1) rfl rfl _ _ rfl hld2 ?_)
 refine vC (jro HP w2 n H.o) fun w3 hE=>?_;have HE3:=Hd (HE.o.trans hE);clear hE hld2
 obtain⟨R,hR⟩:=vE (jaN n)
 rw[<-hR];go_wp2_with fail
 go_ret2
 exact⟨rfl,HE3.o⟩
end
end
section
open Go Go.RowKit
attribute [local go_sem] Oper.semAt_some
def jpi(x:vB):Prop:=0 < x.size/\∀ (w:World) (y:vB),(x++y).size<=1000000->vQ 253 #[.string (x++y)] w fun e w'=>∃ l b,e=.returned (.tuple #[.bool l,.string b,.string y,.int .i64 0])/\Ext w w'
def RIt(w:World)(xs:List vB)(sv ov:Value)(wr:World):Prop:=∃ k:Nat,k<=xs.length/\sv=.string (catB (xs.drop k))/\ORow 9 1 w wr ov k ((xs.take k).map Value.string)
def strL(v:Value):Nat:=match v with | .string s=>s.size | _=>0
theorem joj(x:vB)(xs:List vB):catB (x :: xs)=x++catB xs:=by
 have:=jfS [x] xs
 rw[jfR]at this;exact this
theorem jhk(w:World)(xs:List vB)(hx:∀ x∈xs,jpi x)(hn:xs.length<=1000)(hl:(catB xs).size<=100000):vQ 254 #[.string (catB xs)] w fun e w'=>∃ v,e=.returned (.tuple #[v,.int .i64 0])/\ORow 9 1 w w' v xs.length (xs.map Value.string):=by
 have HX:=Hd hx;have HL:=Hd hl
 obtain⟨s,hs⟩:=vE (catB xs)
 have HS:=Hd hs;rw[<-hs];clear hx hl hs;go_enter Tryz.func254,Tryz.ntmps254;go_wp2_with fail
 go_loopw [0,4] (fun sv ov wr=>RIt w xs sv ov wr) (fun sv _ _=>strL sv)
 case atStart=>exact⟨0,Nat.zero_le _,by rw[HS.o];rfl,ORow.nil _ _ (ExtR w)⟩
 case round =>
  obtain⟨k,hk,rfl,hR⟩:=hrel
  have HR:=Hd hR
  by_cases hlt:k < xs.length
  ·obtain⟨x,hxk⟩:=vE (xs[k])
   have hd:xs.drop k=x :: xs.drop (k+1):=by rw[hxk];exact List.drop_eq_getElem_cons hlt
   have ht:xs.take (k+1)=xs.take k++[x]:=by rw[List.take_add_one,List.getElem?_eq_getElem hlt,hxk];rfl
   obtain⟨hpos,hsp⟩:=HX.o x (by rw[hxk];exact List.getElem_mem hlt)
   have hle:(catB (xs.drop k)).size<=100000:=by
    have:=jfS (xs.take k) (xs.drop k)
    rw[List.take_append_drop]at this;have h1:=HL.o;rw[this,ByteArray.size_append]at h1;omega
   rw[hd,joj]at hle ⊢
   obtain⟨y,hy⟩:=vE (catB (xs.drop (k+1)))
   rw[<-hy]at hle ⊢;have HY:=Hd hy;have HT:=Hd ht;have hsz:(x++y).size=x.size+y.size:=ByteArray.size_append;have hfr:=jjy x y;have HSP:=Hd (fun w1=>hsp w1 y vO)
   obtain⟨s1,hs1⟩:=vE (x++y)
   rw[<-hs1]at hle hsz hfr HSP ⊢;have hne:s1.toList.isEmpty=false:=ja8 vO;have d1:(s1.size:Int) - (y.size:Int)=(x.size:Int):=by omega
   have d2:(x.size:Int)<=(s1.size:Int):=by omega
   have d3 : -9223372036854775808<=(s1.size:Int) - (y.size:Int):=by omega
   have d4:(s1.size:Int) - (y.size:Int)<=9223372036854775807:=by omega
   have hmy:y.size < s1.size:=by omega
   have HMY:=Hd hmy
   obtain⟨ra,rc,rfl⟩:=hR.sl
   have hm1:k+1<=maxLen:=by unfold maxLen;omega
   have hm2:(k+1) * 16<=140737488355328:=by omega
   clear hR hxk hd ht hpos hsp hy hs1 hsz hmy;go_wp2_with fail
   refine (HSP.o wr).mono ?_;rintro e w1 ⟨l,b,rfl,hE⟩;have HR1:=Hd (HR.o.mono hE);have HNW:=Hd (jaS (Blk.new w1 (.cells #[.string x] 9)));clear hE
   obtain⟨i0,hi',hz0,hz1,hz2⟩:=info_parts Tryz.infoStr
   go_wp2_with (at_builtin;refine jbO _ rfl (.tmp 21) (.tmp 29) 34 rfl 9 i0 _ 1 16 Tryz.uStrs hi' hz0 hz1 hz2 rfl vI (.slice ra k rc) k _ rfl (jbe HR1.o.own ((ExtR w1).alloc _)) ⟨w1.heap.size,0,none⟩ 1 1 [.string x] rfl rfl HNW.o (by simp[Value.oneCell']) hm1 hm2 ?_;intro v' w6 r1 r2 r3;obtain⟨a6,c6,rfl⟩:=jaJ r1;have HR2:=Hd ((HR1.o.mono ((ExtR w1).alloc (.cells #[.string x] 9))).step r1 r2 r3);clear r1 r2 r3)
   go_roundw
   case rel=>exact⟨k+1,by omega,by rw[HY.o],by rw[HT.o,List.map_append];exact HR2.o⟩
   case measure=>exact HMY.o
  ·have hke:k=xs.length:=by omega
   subst hke;rw[List.take_length]at hR
   obtain⟨ra,rc,rfl⟩:=hR.sl
   have HR2:=Hd hR;rw[List.drop_length,show catB []=⟨#[]⟩from rfl];clear hR HR;go_wp2_with fail
   go_ret2
   exact⟨_,rfl,HR2.o⟩
theorem jsT(a b c d:Bool)(h:jdO a b=jdO c d):a=c/\b=d:=by revert h;revert a b c d;decide
theorem jrk{p q:vB}{a b:Bool}(hp:jat p=true)(hq:jat q=true)(h:a≠b\/oddB q≠oddB p):putB q a≠putB p b:=fun e=>by
 have e:=congrArg ja5 e;rw[jf8 q a hq,jf8 p b hp]at e;have e:(jb7 q a++q.data.toList)=(jb7 p b++p.data.toList):=congrArg (fun x:vB=>x.data.toList) e;unfold jb7 at e;rw[List.cons_append,List.cons_append]at e
 obtain⟨h1,h2⟩:=jsT _ _ _ _ (List.cons.inj e).1
 rcases h with h | h
 ·exact h h1
 ·exact h h2
def lfN(leaf:Bool):Nat:=if leaf then 1 else 0
def RGi(w:World)(n:Nat)(jv:Value)(wr:World):Prop:=∃ j:Nat,j<=n/\jv=.int .i64 j/\Ext w wr
def RGo(w:World)(jv:Value)(wr:World):Prop:=(jv=.int .i64 1\/jv=.int .i64 2)/\Ext w wr
theorem jvc{a:List UInt8}{p:vB}{n:Nat}(h:a.length=n):(⟨(a++p.data.toList).toArray⟩:vB).extract n (⟨(a++p.data.toList).toArray⟩:vB).size=p:=by
 subst h;apply ByteArray.ext;rw[ByteArray.data_extract];show (a++p.data.toList).toArray.extract a.length (a++p.data.toList).length=_;have hl:p.data.toList.length=p.size:=rfl
 simp
 rw[List.take_of_length_le vO]
theorem jfM{a b:vB}(h:a≠b):(a.toList == b.toList)=false:=by
 rw[ByteArray.toList_eq,ByteArray.toList_eq];exact beq_eq_false_iff_ne.2 fun e=>h (ByteArray.ext (Array.ext' e))
theorem jtJ(w:World)(p:vB)(leaf:Bool)(hs:p.size<=10000)(hv:jat p=true)(ho:oddB p=true):vR 255 #[.string (putB p leaf)] w (.tuple #[.string p,.bool leaf,.bool true]):=by
 have hpath:=jj4 w (putB p leaf) (by have:=jbi p leaf;omega);have hfr:jb7 p leaf=[jdO leaf true]:=by unfold jb7;rw[ho,if_pos rfl]
 rw[jf8 p leaf hv,hfr]at hpath
 obtain⟨all,hall⟩:∃ all:vB,all=⟨([jdO leaf true]++p.data.toList).toArray⟩:=⟨_,rfl⟩
 rw[<-hall]at hpath;have hx:all.extract 1 all.size=p:=by rw[hall];exact jvc rfl
 have hsz:all.size=p.size+1:=by rw[hall];show (jdO leaf true :: p.data.toList).length=_;rw[List.length_cons];rfl
 have b1:(1:Int)<=(all.size:Int):=by omega
 have HPT:=Hd hpath;have HPU:=Hd (fun w1 l=>jlC w1 p l vO hv);have HNE:=Hd (fun l (h:l≠leaf)=>jfM (jrk (p:=p) (q:=p) (a:=l) (b:=leaf) hv hv (.inl h)));have HEQ:=Hd (show ((putB p leaf).toList ==(putB p leaf).toList)=true by simp)
 obtain⟨s,hsd⟩:=vE (putB p leaf)
 rw[<-hsd]at HPT HNE ⊢;rw[show putB p leaf=s from hsd.symm]at HEQ;have HSD:=Hd hsd;clear hpath hall hv ho hfr hsd hsz;go_enter Tryz.func255,Tryz.ntmps255;go_wp2_with fail
 refine HPT.o.mono ?_;rintro e w1 ⟨rfl,hE⟩;have HE1:=Hd hE;clear hE HPT;go_wp2_with fail
 go_loopw [6] (fun kv wr=>kv=.int .i64 1/\Ext w wr) (fun _ _=>0)
 case atStart=>exact⟨rfl,HE1.o⟩
 case round =>
  obtain⟨rfl,hE⟩:=hrel
  have HE:=Hd hE;clear hE;go_wp2_with fail
  go_loopw [7] (fun jv wr=>RGi w (lfN leaf) jv wr) (fun jv _=>2 - (intOf jv).toNat)
  case atStart=>exact⟨0,Nat.zero_le _,rfl,HE.o⟩
  case round =>
   obtain⟨j,hj,rfl,hE⟩:=hrel
   have HE:=Hd hE;have hj2:j<=1:=by unfold lfN at hj;cases leaf <;> simp at hj <;> omega
   clear hE
   by_cases hjl:j=lfN leaf
   ·cases leaf with
    | true =>
     have hj1:j=1:=hjl;subst hj1;clear hjl hj hj2;have hpu:=HPU.o;have heq:=HEQ.o;go_wp2_with fail
     refine vC (hpu _ true) fun w2 hE=>?_;have HE2:=Hd (HE.o.trans hE);rw[<-HSD.o];clear hE hpu;go_wp2_with fail
     exact bodyPost_ret (v:=.tuple #[.string p,.bool true,.bool true]) vY rfl ⟨rfl,HE2.o⟩
    | false =>
     have hj1:j=0:=hjl;subst hj1;clear hjl hj hj2;have hpu:=HPU.o;have heq:=HEQ.o;go_wp2_with fail
     refine vC (hpu _ false) fun w2 hE=>?_;have HE2:=Hd (HE.o.trans hE);rw[<-HSD.o];clear hE hpu;go_wp2_with fail
     exact bodyPost_ret (v:=.tuple #[.string p,.bool false,.bool true]) vY rfl ⟨rfl,HE2.o⟩
   ·have hl:leaf=true:=by cases leaf with | true=>rfl | false=>unfold lfN at hj hjl;simp at hj hjl;omega
    subst hl;have hj0:j=0:=by have h1:¬ j=1:=hjl;omega
    subst hj0;have hne:=HNE.o false vI;have hpu:=HPU.o;clear hjl hj hj2;go_wp2_with fail
    refine vC (hpu _ false) fun w2 hE=>?_;have HE2:=Hd (HE.o.trans hE);clear hE hpu;go_wp2_with fail
    go_roundw
    case rel=>exact⟨1,Nat.le_refl _,rfl,HE2.o⟩
    case measure=>simp[intOf]
theorem jry(w:World)(p:vB)(leaf:Bool)(hs:p.size<=10000)(hv:jat p=true)(ho:oddB p=false):vR 255 #[.string (putB p leaf)] w (.tuple #[.string p,.bool leaf,.bool true]):=by
 have hpath:=jj4 w (putB p leaf) (by have:=jbi p leaf;omega);have hfr:jb7 p leaf=[jdO leaf false,0]:=by unfold jb7;rw[ho,if_neg vI]
 rw[jf8 p leaf hv,hfr]at hpath
 obtain⟨all,hall⟩:∃ all:vB,all=⟨([jdO leaf false,0]++p.data.toList).toArray⟩:=⟨_,rfl⟩
 rw[<-hall]at hpath;have hx:all.extract 2 all.size=p:=by rw[hall];exact jvc rfl
 obtain⟨z,hz⟩:∃ z:vB,z=(⟨#[0]⟩:vB)++p:=⟨_,rfl⟩
 have hzl:z.data.toList=0 :: p.data.toList:=by rw[hz,ByteArray.data_append];simp
 have hx1:all.extract 1 all.size=z:=by
  have:all=⟨([jdO leaf false]++z.data.toList).toArray⟩:=by rw[hall,hzl];rfl
  rw[this];exact jvc rfl
 have hzv:jat z=true:=by rw[hz];exact jfn vI hv
 have hzs:z.size=p.size+1:=by show z.data.toList.length=_;rw[hzl,List.length_cons];rfl
 have hzo:oddB z=true:=by
  unfold oddB at ho ⊢;rw[hzs]
  have:¬ p.size % 2=1:=by simpa using ho
  simp;omega
 have HPZ:=Hd (fun w1 l=>jlC w1 z l vO hzv);have HNZ:=Hd (fun l=>jfM (jrk (p:=p) (q:=z) (a:=l) (b:=leaf) hv hzv (.inr (by rw[hzo,ho];decide))));have hsz:all.size=p.size+2:=by rw[hall];show (jdO leaf false :: 0 :: p.data.toList).length=_;rw[List.length_cons,List.length_cons];rfl
 have b1:(1:Int)<=(all.size:Int):=by omega
 have b2:(2:Int)<=(all.size:Int):=by omega
 have HPT:=Hd hpath;have HPU:=Hd (fun w1 l=>jlC w1 p l vO hv);have HNE:=Hd (fun l (h:l≠leaf)=>jfM (jrk (p:=p) (q:=p) (a:=l) (b:=leaf) hv hv (.inl h)));have HEQ:=Hd (show ((putB p leaf).toList ==(putB p leaf).toList)=true by simp)
 obtain⟨s,hsd⟩:=vE (putB p leaf)
 rw[<-hsd]at HPT HNE HNZ ⊢;rw[show putB p leaf=s from hsd.symm]at HEQ;have HSD:=Hd hsd;clear hpath hall hv ho hfr hsd hsz hz hzl hzv hzs hzo;go_enter Tryz.func255,Tryz.ntmps255;go_wp2_with fail
 refine HPT.o.mono ?_;rintro e w1 ⟨rfl,hE⟩;have HE1:=Hd hE;clear hE HPT;go_wp2_with fail
 go_loopw [6] (fun kv wr=>RGo w kv wr) (fun kv _=>3 - (intOf kv).toNat)
 case atStart=>exact⟨.inl rfl,HE1.o⟩
 case round =>
  obtain⟨hkk,hE⟩:=hrel
  have HE:=Hd hE;clear hE;rcases hkk with rfl | rfl
  ·go_wp2_with fail
   go_loopw [7] (fun jv wr=>RGi w 2 jv wr) (fun jv _=>2 - (intOf jv).toNat)
   case atStart=>exact⟨0,Nat.zero_le _,rfl,HE.o⟩
   case round =>
    obtain⟨j,hj,rfl,hE⟩:=hrel
    have HE:=Hd hE;clear hE
    by_cases h0:j=0
    ·subst h0
     have hne:=HNZ.o false;have hpu:=HPZ.o;clear hj;go_wp2_with fail
     refine vC (hpu _ false) fun w2 hE=>?_;have HE2:=Hd (HE.o.trans hE);clear hE hpu;go_wp2_with fail
     go_roundw
     case rel=>exact⟨1,by omega,rfl,HE2.o⟩
     case measure=>simp[intOf]
    by_cases h1:j=1
    ·subst h1
     have hne:=HNZ.o true;have hpu:=HPZ.o;clear hj h0;go_wp2_with fail
     refine vC (hpu _ true) fun w2 hE=>?_;have HE2:=Hd (HE.o.trans hE);clear hE hpu;go_wp2_with fail
     go_roundw
     case rel=>exact⟨2,by omega,rfl,HE2.o⟩
     case measure=>simp[intOf]
    ·have hj2:j=2:=by omega
     subst hj2;clear h0 h1 hj;go_wp2_with fail
     go_roundw
     case rel=>exact⟨.inr rfl,HE.o⟩
     case measure=>simp[intOf]
  go_wp2_with fail
  go_loopw [7] (fun jv wr=>RGi w (lfN leaf) jv wr) (fun jv _=>2 - (intOf jv).toNat)
  case atStart=>exact⟨0,Nat.zero_le _,rfl,HE.o⟩
  case round =>
   obtain⟨j,hj,rfl,hE⟩:=hrel
   have HE:=Hd hE;have hj2:j<=1:=by unfold lfN at hj;cases leaf <;> simp at hj <;> omega
   clear hE
   by_cases hjl:j=lfN leaf
   ·cases leaf with
    | true =>
     have hj1:j=1:=hjl;subst hj1;clear hjl hj hj2;have hpu:=HPU.o;have heq:=HEQ.o;go_wp2_with fail
     refine vC (hpu _ true) fun w2 hE=>?_;have HE2:=Hd (HE.o.trans hE);rw[<-HSD.o];clear hE hpu;go_wp2_with fail
     exact bodyPost_ret (v:=.tuple #[.string p,.bool true,.bool true]) vY rfl ⟨rfl,HE2.o⟩
    | false =>
     have hj1:j=0:=hjl;subst hj1;clear hjl hj hj2;have hpu:=HPU.o;have heq:=HEQ.o;go_wp2_with fail
     refine vC (hpu _ false) fun w2 hE=>?_;have HE2:=Hd (HE.o.trans hE);rw[<-HSD.o];clear hE hpu;go_wp2_with fail
     exact bodyPost_ret (v:=.tuple #[.string p,.bool false,.bool true]) vY rfl ⟨rfl,HE2.o⟩
   ·have hl:leaf=true:=by cases leaf with | true=>rfl | false=>unfold lfN at hj hjl;simp at hj hjl;omega
    subst hl;have hj0:j=0:=by have h1:¬ j=1:=hjl;omega
    subst hj0;have hne:=HNE.o false vI;have hpu:=HPU.o;clear hjl hj hj2;go_wp2_with fail
    refine vC (hpu _ false) fun w2 hE=>?_;have HE2:=Hd (HE.o.trans hE);clear hE hpu;go_wp2_with fail
    go_roundw
    case rel=>exact⟨1,Nat.le_refl _,rfl,HE2.o⟩
    case measure=>simp[intOf]
theorem jut(w:World)(p:vB)(leaf:Bool)(hs:p.size<=10000)(hv:jat p=true):vR 255 #[.string (putB p leaf)] w (.tuple #[.string p,.bool leaf,.bool true]):=by
 cases ho:oddB p with
 | true=>exact jtJ w p leaf hs hv ho
 | false=>exact jry w p leaf hs hv ho
end
section
open Go Go.RowKit
attribute [local go_sem] Oper.semAt_some
theorem jkX(b:UInt8)(n:Nat):0 < (jbZ b n).size:=by
 unfold jbZ;split
 ·exact Nat.zero_lt_one
 ·rw[ByteArray.size_append]
  exact Nat.lt_of_lt_of_le Nat.zero_lt_one (Nat.le_add_right 1 _)
theorem jed(b:vB):0 < (jao b).size:=by
 unfold jao;split
 ·rename_i h;omega
 ·rw[ByteArray.size_append];have:=jkX 128 b.size;omega
theorem jqy(xs:List vB):0 < (ja4 xs).size:=by
 unfold ja4;rw[ByteArray.size_append];have:=jkX 192 (catB xs).size;omega
theorem jdp(b:vB)(hb:b.size<=100000)(h0:0 < (jao b).size):jpi (jao b):=⟨h0,fun w y h=>(jfJ w b y hb h).mono fun e w' ⟨h1,h2⟩=>⟨_,_,h1,h2⟩⟩
theorem joX(xs:List vB)(hb:(catB xs).size<=100000)(h0:0 < (ja4 xs).size):jpi (ja4 xs):=⟨h0,fun w y h=>(jie w xs y hb h).mono fun e w' ⟨h1,h2⟩=>⟨_,_,h1,h2⟩⟩
theorem jhZ{W0 W:World}{v:Value}{n:Nat}{xs:List vB}(h:ORow 9 1 W0 W v n (xs.map Value.string))(hn:0 < n):∃ g c,v=.slice (some ⟨g,0,none⟩) n c/\∀ (j:Nat) t,xs[j]?=some t->W.cell? ⟨g,j,none⟩=some (.string t):=by
 have ho:=h.own
 obtain⟨h1,⟨h2,h3⟩ |⟨g,cap,cur,h2,h3⟩⟩:=h.own
 ·obtain⟨a,c,e⟩:=h.sl
  rw[e]at h2
  have:=(Value.slice.inj h2).2.1
  omega
 ·subst h2
  refine⟨g,cap,rfl,fun j t ht=>?_⟩
  have q:=ho.cells (g:=g) rfl j (.string t) (by rw[List.getElem?_map,ht];rfl)
  rwa [Addr.add_lit,Nat.zero_add]at q
theorem jgN(w:World)(xs:List vB)(hb:(catB xs).size<=100000)(hs:(ja4 xs).size<=1000000):vR 253 #[.string (ja4 xs)] w (.tuple #[.bool true,.string (catB xs),.string ⟨#[]⟩,.int .i64 0]):=by
 have h0:ja4 xs++(⟨#[]⟩:vB)=ja4 xs:=ByteArray.append_empty;have h:=jie w xs ⟨#[]⟩ hb (by rw[h0];exact hs)
 rwa [h0]at h
section
variable {I:vB->jad->Prop} (HP:InlP I)
include HP
theorem jnI{r:vB}(h:MayP I r):r.size<=33:=by
 rcases h with h |⟨m,h⟩
 ·exact Nat.le_of_eq h.size
 ·have:=HP.small r m h;omega
theorem jnH{r:vB}(h:MayP I r):jpi r:=by
 rcases h with⟨h,hs,rfl⟩ |⟨m,h⟩
 ·exact jdp h vO (jed h)
 ·have hz:=HP.small r m h
  obtain⟨xs,rfl,_⟩:=HP.list r m h
  exact joX xs (by unfold ja4 at hz;rw[ByteArray.size_append]at hz;omega) (jqy xs)
end
section
variable {I:vB->jad->Prop} (HP:InlP I) (HI:InlR I)
include HP HI
theorem jmF(w:World)(p v:vB)(h2:(⟨1,p,v,jam 16⟩:jad).pathOk 0=true)(h3:0 < v.size)(h4:v.size<=80):vR 237 #[.string (jaN ⟨1,p,v,jam 16⟩)] w (.tuple #[jad.V ⟨1,p,v,jam 16⟩,.bool true]):=by
 have hG:jbx I ⟨1,p,v,jam 16⟩:=.leaf p v h2 h3 h4
 obtain⟨z1,z2,z3⟩:=jbJ h2
 have hs1:=jbi p true;have hs2:=jaK (putB p true);have hs3:=jaK v;have z2:p.size<=12:=z2;have HPUT:=Hd (fun w1=>jid HP HI w1 _ hG);have HGET:=Hd (fun w1=>jut w1 p true vO z3)
 obtain⟨put,hput⟩:=vE (putB p true)
 have hnb:jaN ⟨1,p,v,jam 16⟩=ja4 [jao put,jao v]:=by rw[hput];rfl
 rw[<-hput]at hs1 hs2 HGET;have hc:(catB [jao put,jao v]).size<=200:=by rw[ja1,ja1,jcu];omega
 have hls:=jcE [jao put,jao v];rw[hnb]at HPUT ⊢;have HSP:=Hd (fun w1=>jgN w1 [jao put,jao v] vO vO);have hpp:=jed put;have hpv:=jed v;have HIT:=Hd (fun w1=>jhk w1 [jao put,jao v] (fun x hx=>by
  simp only[List.mem_cons,List.not_mem_nil,or_false]at hx;rcases hx with rfl | rfl
  ·exact jdp put vO hpp
  ·exact jdp v vO hpv) (by simp) vO)
 have HT1:=Hd (fun w1=>jhl w1 put vO);have HT2:=Hd (fun w1=>jhl w1 v vO)
 obtain⟨s,hs⟩:=vE (ja4 [jao put,jao v])
 obtain⟨b,hb⟩:=vE (catB [jao put,jao v])
 obtain⟨t1,ht1⟩:=vE (jao put)
 obtain⟨t2,ht2⟩:=vE (jao v)
 have c0:¬(1000:Int) < (s.size:Int):=by rw[hs];omega
 rw[<-hs, <-hb]at HSP;rw[<-hb, <-ht1, <-ht2]at HIT;rw[<-ht1]at HT1;rw[<-ht2]at HT2;rw[<-hs]at HPUT ⊢;clear hG h2 z1 z2 z3 hs1 hs2 hs3 hput hnb hc hls hpp hpv hs hb ht1 ht2;unfold jad.V at HPUT ⊢;go_enter Tryz.func237,Tryz.ntmps237;go_wp2_with (first |(refine jah Tryz.allocNode rfl rfl ?_;have hx1:=HR1.o;intro W2 hB2 hE2) |(refine jah Tryz.allocNode rfl rfl ?_;intro W1 hB1 hE1;have HR1:=Hd hB1) |(refine jag (vs:=jar.cells) rfl rfl rfl rfl hB2 rfl Tryz.szNode jar.one ?_;intro W3 hB3 hE3))
 have HN3:=Hd hB3;have HR3:=Hd ((HR1.o.keeps hE2 (fun h=>h)).keeps hE3 (by have:=HR1.o.lt;omega));have hX3:Ext w W3:=(hE1.trans hE2).trans' hE3 (fun x hx e=>by have e:x=W1.heap.size:=e;have:=hE1.size;omega);have HX3:=Hd hX3
 obtain⟨gr,hgr⟩:=vE w.heap.size
 obtain⟨gn,hgn⟩:=vE W1.heap.size
 have HGN:=Hd (show gr≠gn/\w.heap.size<=gr/\w.heap.size<=gn from by have:=HR1.o.lt;have:=hE1.size;omega);rw[<-hgr]at HR3 ⊢;rw[<-hgn]at HN3 ⊢;clear hB1 hE1 HR1 hx1 hB2 hE2 hB3 hE3 hX3 hgr hgn;refine vC (HSP.o W3) fun w4 hE=>?_;have HE4:=Hd hE;clear hE;go_wp2_with fail
 refine (HIT.o w4).mono ?_;rintro e w5 ⟨lv,rfl,hL⟩
 obtain⟨g,c,rfl,hcell⟩:=jhZ hL (Nat.zero_lt_succ _)
 rw[show [t1,t2].length=2 from rfl];have q1:=hcell 0 t1 rfl;have q2:=hcell 1 t2 rfl;have HQ:=Hd (And.intro q1 q2);have HE5:=Hd (HE4.o.trans hL.ext);have hg4:w4.heap.size<=g:=hL.new g rfl;have hgn4:=HN3.o.lt;have hgs4:=HE4.o.size;have hne1:¬ gn=g:=by omega
 have hne2:¬ g=gn:=by omega
 clear hcell hL q2 hg4 hgn4 hgs4;go_wp2_with fail
 refine vC (HT1.o w5) fun w6 hE=>?_;have HE6:=Hd hE;clear hE q1;go_wp2_with fail
 refine vC (HGET.o w6) fun w7 hE=>?_;have HE7:=Hd (HE6.o.trans hE);have HN7:=Hd (HN3.o.keeps (HE5.o.trans HE7.o) (fun h=>h));have HR7:=Hd (HR3.o.keeps (HE5.o.trans HE7.o) (fun h=>h));clear hE;have k0:=HN7.o.cellL (i:=0) (v:=.int .i64 0) rfl;have k1:=HN7.o.cellL (i:=1) (v:=.string ⟨#[]⟩) rfl;have f0:w7.frozen? ⟨gn,0,none⟩=false:=HN7.o.frozen;have f1:w7.frozen? ⟨gn,1,none⟩=false:=HN7.o.frozen;have q2:=jaa HQ.o.2 HE7.o;go_wp2_with fail
 obtain⟨w8,hw8⟩:=vE ((w7.setCell ⟨gn,1,none⟩ (.string p)).setCell ⟨gn,0,none⟩ (.int .i64 1))
 have hN8:=(HN7.o.set_same (i:=1) (.string p)).set_same (i:=0) (.int .i64 1);have hk8:jae (fun z=>z=gn) w7 w8:=by rw[hw8];exact ((jae.refl (fun z=>z=gn) w7).setCell (p:=⟨gn,1,none⟩) (.inl rfl) _).setCell (p:=⟨gn,0,none⟩) (.inl rfl) _
 rw[<-hw8]at hN8 ⊢;have HN8:=Hd (show Blk w8 gn (.cells (jad.cells ⟨1,p,⟨#[]⟩,jam 16⟩).toArray 144)from hN8);have HK8:=Hd hk8;have HR8:=Hd (HR7.o.keeps hk8 HGN.o.1);clear k0 k1 f0 f1 q2 hw8 hN8 hk8;refine vC (HT2.o w8) fun w9 hE=>?_;have HE9:=Hd hE;have HN9:=Hd (HN8.o.keeps hE (fun h=>h));have k2:=HN9.o.cellL (i:=2) (v:=.string ⟨#[]⟩) rfl;have f2:w9.frozen? ⟨gn,2,none⟩=false:=HN9.o.frozen;have hN10:Blk (w9.setCell ⟨gn,2,none⟩ (.string v)) gn (.cells (jad.cells ⟨1,p,v,jam 16⟩).toArray 144):=HN9.o.set_same (i:=2) (.string v);have hld:=jan _ gn ⟨1,p,v,jam 16⟩ rfl hN10;have HN10:=Hd hN10;unfold jad.V at hld;clear hE hN10;go_wp2_with (refine jaf 144 (.tmp 4) rfl rfl _ _ rfl hld ?_)
 have HR10:=Hd ((HR8.o.keeps HE9.o (fun h=>h)).keeps ((jae.refl (fun z=>z=gn) w9).setCell (p:=⟨gn,2,none⟩) (.inl rfl) (.string v)) HGN.o.1);have HK10:=Hd ((jae.refl (fun z=>z=gn) w9).setCell (p:=⟨gn,2,none⟩) (.inl rfl) (.string v))
 obtain⟨w10,hw10⟩:=vE (w9.setCell ⟨gn,2,none⟩ (.string v))
 rw[<-hw10]at HR10 HK10 HN10 ⊢;clear k2 f2 hld hw10;refine vC (HPUT.o w10) fun w11 hE=>?_;have HE11:=Hd hE;have hN11:=HN10.o.keeps hE (fun h=>h);have hld:=jan _ gn ⟨1,p,v,jam 16⟩ rfl hN11;have hR11:=HR10.o.keeps hE (fun h=>h);have hss:(s != s)=false:=by unfold bne;rw[show (s == s)=true by rw[jeM];exact decide_eq_true rfl];rfl
 unfold jad.V at hld;clear hE;go_wp2_with (first |(refine jaf 144 (.tmp 4) rfl rfl _ _ rfl hld ?_) |(refine jag (vs:=jad.cells ⟨1,p,v,jam 16⟩) rfl rfl rfl rfl hR11 rfl Tryz.szNode (jad.one _) ?_;intro W12 hB12 hE12))
 refine bodyPost_ret (jax rfl rfl rfl (jap W12 _ ⟨1,p,v,jam 16⟩ rfl hB12)) rfl ?_;have hz:=HGN.o;have e8:=((HX3.o.trans HE5.o).trans HE7.o).trans' HK8.o (fun x hx e=>by have e:x=gn:=e;omega);have e10:=(e8.trans HE9.o).trans' HK10.o (fun x hx e=>by have e:x=gn:=e;omega)
 exact⟨rfl,(e10.trans HE11.o).trans' hE12 (fun x hx e=>by have e:x=gr:=e;omega)⟩
theorem joZ(w:World)(p r:vB)(h2:(⟨2,p,⟨#[]⟩,r :: jam 15⟩:jad).pathOk 1=true)(h3:r.size≠0)(h4:jeJ r\/∃ m,I r m/\m.kind=3):vR 237 #[.string (jaN ⟨2,p,⟨#[]⟩,r :: jam 15⟩)] w (.tuple #[jad.V ⟨2,p,⟨#[]⟩,r :: jam 15⟩,.bool true]):=by
 have hG:jbx I ⟨2,p,⟨#[]⟩,r :: jam 15⟩:=.ext p r h2 h3 h4
 obtain⟨z1,z2,z3⟩:=jbJ h2
 have hs1:=jbi p false;have hs2:=jaK (putB p false);have hrs:=jnI HP (h4.imp id (fun ⟨m,h,_⟩=>⟨m,h⟩):MayP I r);have hri:=jnH HP (h4.imp id (fun ⟨m,h,_⟩=>⟨m,h⟩):MayP I r);have z2:p.size<=12:=z2;have HPUT:=Hd (fun w1=>jid HP HI w1 _ hG);have HGET:=Hd (fun w1=>jut w1 p false vO z3)
 obtain⟨put,hput⟩:=vE (putB p false)
 have hnb:jaN ⟨2,p,⟨#[]⟩,r :: jam 15⟩=ja4 [jao put,r]:=by rw[hput];rfl
 rw[<-hput]at hs1 hs2 HGET;have hc:(catB [jao put,r]).size<=200:=by rw[ja1,ja1,jcu];omega
 have hls:=jcE [jao put,r];rw[hnb]at HPUT ⊢;have HSP:=Hd (fun w1=>jgN w1 [jao put,r] vO vO);have hpp:=jed put;have HIT:=Hd (fun w1=>jhk w1 [jao put,r] (fun x hx=>by
  simp only[List.mem_cons,List.not_mem_nil,or_false]at hx;rcases hx with rfl | rfl
  ·exact jdp put vO hpp
  ·exact hri) (by simp) vO)
 have HT1:=Hd (fun w1=>jhl w1 put vO)
 obtain⟨s,hs⟩:=vE (ja4 [jao put,r])
 obtain⟨b,hb⟩:=vE (catB [jao put,r])
 obtain⟨t1,ht1⟩:=vE (jao put)
 have c0:¬(1000:Int) < (s.size:Int):=by rw[hs];omega
 rw[<-hs, <-hb]at HSP;rw[<-hb, <-ht1]at HIT;rw[<-ht1]at HT1;rw[<-hs]at HPUT ⊢;clear hG h2 z1 z2 z3 hs1 hs2 hrs hri h3 h4 hput hnb hc hls hpp hs hb ht1;unfold jad.V at HPUT ⊢;go_enter Tryz.func237,Tryz.ntmps237;go_wp2_with (first |(refine jah Tryz.allocNode rfl rfl ?_;have hx1:=HR1.o;intro W2 hB2 hE2) |(refine jah Tryz.allocNode rfl rfl ?_;intro W1 hB1 hE1;have HR1:=Hd hB1) |(refine jag (vs:=jar.cells) rfl rfl rfl rfl hB2 rfl Tryz.szNode jar.one ?_;intro W3 hB3 hE3))
 have HN3:=Hd hB3;have HR3:=Hd ((HR1.o.keeps hE2 (fun h=>h)).keeps hE3 (by have:=HR1.o.lt;omega));have hX3:Ext w W3:=(hE1.trans hE2).trans' hE3 (fun x hx e=>by have e:x=W1.heap.size:=e;have:=hE1.size;omega);have HX3:=Hd hX3
 obtain⟨gr,hgr⟩:=vE w.heap.size
 obtain⟨gn,hgn⟩:=vE W1.heap.size
 have HGN:=Hd (show gr≠gn/\w.heap.size<=gr/\w.heap.size<=gn from by have:=HR1.o.lt;have:=hE1.size;omega);rw[<-hgr]at HR3 ⊢;rw[<-hgn]at HN3 ⊢;clear hB1 hE1 HR1 hx1 hB2 hE2 hB3 hE3 hX3 hgr hgn;refine vC (HSP.o W3) fun w4 hE=>?_;have HE4:=Hd hE;clear hE;go_wp2_with fail
 refine (HIT.o w4).mono ?_;rintro e w5 ⟨lv,rfl,hL⟩
 obtain⟨g,c,rfl,hcell⟩:=jhZ hL (Nat.zero_lt_succ _)
 rw[show [t1,r].length=2 from rfl];have q1:=hcell 0 t1 rfl;have q2:=hcell 1 r rfl;have HQ:=Hd (And.intro q1 q2);have HE5:=Hd (HE4.o.trans hL.ext);have hg4:w4.heap.size<=g:=hL.new g rfl;have hgn4:=HN3.o.lt;have hgs4:=HE4.o.size;have hne1:¬ gn=g:=by omega
 have hne2:¬ g=gn:=by omega
 clear hcell hL q2 hg4 hgn4 hgs4;go_wp2_with fail
 refine vC (HT1.o w5) fun w6 hE=>?_;have HE6:=Hd hE;clear hE q1;go_wp2_with fail
 refine vC (HGET.o w6) fun w7 hE=>?_;have HE7:=Hd (HE6.o.trans hE);have HN7:=Hd (HN3.o.keeps (HE5.o.trans HE7.o) (fun h=>h));have HR7:=Hd (HR3.o.keeps (HE5.o.trans HE7.o) (fun h=>h));clear hE;have k0:=HN7.o.cellL (i:=0) (v:=.int .i64 0) rfl;have k1:=HN7.o.cellL (i:=1) (v:=.string ⟨#[]⟩) rfl;have k3:=HN7.o.cellL (i:=3) (v:=.string ⟨#[]⟩) rfl;have f0:w7.frozen? ⟨gn,0,none⟩=false:=HN7.o.frozen;have f1:w7.frozen? ⟨gn,1,none⟩=false:=HN7.o.frozen;have f3:w7.frozen? ⟨gn,3,none⟩=false:=HN7.o.frozen;have q2:=jaa HQ.o.2 HE7.o;have hN10:Blk (((w7.setCell ⟨gn,1,none⟩ (.string p)).setCell ⟨gn,0,none⟩ (.int .i64 2)).setCell ⟨gn,3,none⟩ (.string r)) gn (.cells (jad.cells ⟨2,p,⟨#[]⟩,r :: jam 15⟩).toArray 144):=((HN7.o.set_same (i:=1) (.string p)).set_same (i:=0) (.int .i64 2)).set_same (i:=3) (.string r);have hld:=jan _ gn ⟨2,p,⟨#[]⟩,r :: jam 15⟩ rfl hN10;have HN10:=Hd hN10;unfold jad.V at hld;clear hN10;go_wp2_with (refine jaf 144 (.tmp 4) rfl rfl _ _ rfl hld ?_)
 have HK10:=Hd ((((jae.refl (fun z=>z=gn) w7).setCell (p:=⟨gn,1,none⟩) (.inl rfl) (.string p)).setCell (p:=⟨gn,0,none⟩) (.inl rfl) (.int .i64 2)).setCell (p:=⟨gn,3,none⟩) (.inl rfl) (.string r));have HR10:=Hd (HR7.o.keeps HK10.o HGN.o.1)
 obtain⟨w10,hw10⟩:=vE (((w7.setCell ⟨gn,1,none⟩ (.string p)).setCell ⟨gn,0,none⟩ (.int .i64 2)).setCell ⟨gn,3,none⟩ (.string r))
 rw[<-hw10]at HR10 HK10 HN10 ⊢;clear k0 k1 k3 f0 f1 f3 q2 hld hw10;refine vC (HPUT.o w10) fun w11 hE=>?_;have HE11:=Hd hE;have hN11:=HN10.o.keeps hE (fun h=>h);have hld:=jan _ gn ⟨2,p,⟨#[]⟩,r :: jam 15⟩ rfl hN11;have hR11:=HR10.o.keeps hE (fun h=>h);have hss:(s != s)=false:=by unfold bne;rw[show (s == s)=true by rw[jeM];exact decide_eq_true rfl];rfl
 unfold jad.V at hld;clear hE;go_wp2_with (first |(refine jaf 144 (.tmp 4) rfl rfl _ _ rfl hld ?_) |(refine jag (vs:=jad.cells ⟨2,p,⟨#[]⟩,r :: jam 15⟩) rfl rfl rfl rfl hR11 rfl Tryz.szNode (jad.one _) ?_;intro W12 hB12 hE12))
 refine bodyPost_ret (jax rfl rfl rfl (jap W12 _ ⟨2,p,⟨#[]⟩,r :: jam 15⟩ rfl hB12)) rfl ?_;have hz:=HGN.o;have e10:=((HX3.o.trans HE5.o).trans HE7.o).trans' HK10.o (fun x hx e=>by have e:x=gn:=e;omega)
 exact⟨rfl,(e10.trans HE11.o).trans' hE12 (fun x hx e=>by have e:x=gr:=e;omega)⟩
end
end
section
open Go Go.RowKit
attribute [local go_sem] Oper.semAt_some
theorem Tryz.enterText4(args:Array Value)(w:World):(callFunc 212 args).run Tryz.prog w=.ok (.enter 212 args) w:=by kernel_rfl
section
variable {I:vB->jad->Prop} (HP:InlP I) (HI:InlR I)
include HP HI
theorem jmG(w:World):vR 237 #[.string (jaN jar)] w (.tuple #[jar.V,.bool true]):=by
 have HPUT:=Hd (fun w1=>jid HP HI w1 _ (jbx.none (I:=I)));have h0:jao ⟨#[]⟩++(⟨#[]⟩:vB)=jao ⟨#[]⟩:=ByteArray.append_empty;have hsp:=fun w1=>jfJ w1 ⟨#[]⟩ ⟨#[]⟩ vI (by rw[h0];decide);rw[h0]at hsp;have HSP:=Hd hsp;have HIT:=Hd (fun w1=>jhk w1 [] (fun x hx=>by cases hx) (by simp) vI);rw[show catB []=(⟨#[]⟩:vB)from rfl]at HIT;rw[show jaN jar=jao ⟨#[]⟩from rfl]at HPUT ⊢;have c0:¬(1000:Int) < ((jao ⟨#[]⟩).size:Int):=by decide
 obtain⟨s,hs⟩:=vE (jao ⟨#[]⟩)
 rw[<-hs]at HPUT HSP c0 ⊢;clear h0 hsp hs;unfold jad.V at HPUT ⊢;go_enter Tryz.func237,Tryz.ntmps237;go_wp2_with (first |(refine jah Tryz.allocNode rfl rfl ?_;have hx1:=HR1.o;intro W2 hB2 hE2) |(refine jah Tryz.allocNode rfl rfl ?_;intro W1 hB1 hE1;have HR1:=Hd hB1) |(refine jag (vs:=jar.cells) rfl rfl rfl rfl hB2 rfl Tryz.szNode jar.one ?_;intro W3 hB3 hE3))
 have HN3:=Hd hB3;have HR3:=Hd ((HR1.o.keeps hE2 (fun h=>h)).keeps hE3 (by have:=HR1.o.lt;omega));have hX3:Ext w W3:=(hE1.trans hE2).trans' hE3 (fun x hx e=>by have e:x=W1.heap.size:=e;have:=hE1.size;omega);have HX3:=Hd hX3
 obtain⟨gr,hgr⟩:=vE w.heap.size
 obtain⟨gn,hgn⟩:=vE W1.heap.size
 have HGN:=Hd (show gr≠gn/\w.heap.size<=gr/\w.heap.size<=gn from by have:=HR1.o.lt;have:=hE1.size;omega);rw[<-hgr]at HR3 ⊢;rw[<-hgn]at HN3 ⊢;clear hB1 hE1 HR1 hx1 hB2 hE2 hB3 hE3 hX3 hgr hgn;refine vC (HSP.o W3) fun w4 hE=>?_;have HE4:=Hd hE;clear hE;go_wp2_with fail
 refine (HIT.o w4).mono ?_;rintro e w5 ⟨lv,rfl,hL⟩;have HE5:=Hd (HE4.o.trans hL.ext)
 obtain⟨la,lc,hsl⟩:=hL.sl
 rw[show (List.length ([]:List vB))=0 from rfl]at hsl;subst hsl;have hN10:=HN3.o.keeps HE5.o (fun h=>h);have hld:=jan _ gn jar rfl hN10;have HN10:=Hd hN10;have HR10:=Hd (HR3.o.keeps HE5.o (fun h=>h));unfold jad.V at hld;clear hL hN10;go_wp2_with (refine jaf 144 (.tmp 4) rfl rfl _ _ rfl hld ?_)
 clear hld;refine vC (HPUT.o w5) fun w11 hE=>?_;have HE11:=Hd hE;have hN11:=HN10.o.keeps hE (fun h=>h);have hld:=jan _ gn jar rfl hN11;have hR11:=HR10.o.keeps hE (fun h=>h);have hss:(s != s)=false:=by unfold bne;rw[show (s == s)=true by rw[jeM];exact decide_eq_true rfl];rfl
 unfold jad.V at hld;clear hE;go_wp2_with (first |(refine jaf 144 (.tmp 4) rfl rfl _ _ rfl hld ?_) |(refine jag (vs:=jar.cells) rfl rfl rfl rfl hR11 rfl Tryz.szNode (jad.one _) ?_;intro W12 hB12 hE12))
 refine bodyPost_ret (jax rfl rfl rfl (jap W12 _ jar rfl hB12)) rfl ?_;have hz:=HGN.o
 exact⟨rfl,((HX3.o.trans HE5.o).trans HE11.o).trans' hE12 (fun x hx e=>by have e:x=gr:=e;omega)⟩
end
def jdJ(rs:List vB)(k:Nat):List vB:=rs.take k++jam (16 - k)
theorem jgM{rs:List vB}(hr:rs.length=16){k:Nat}(hk:k<=16):(jdJ rs k).length=16:=by
 unfold jdJ jam;rw[List.length_append,List.length_take,List.length_replicate];omega
theorem jlv{rs:List vB}(hr:rs.length=16):jdJ rs 16=rs:=by
 unfold jdJ;rw[List.take_of_length_le vO];simp[jam]
theorem jia{rs:List vB}(hr:rs.length=16){k:Nat}{r:vB}(h:rs[k]?=some r):(jdJ rs k).set k r=jdJ rs (k+1):=by
 have hk:=(List.getElem?_eq_some_iff.1 h).1;have ht:(rs.take k).length=k:=by rw[List.length_take];omega
 unfold jdJ jam;rw[List.set_append_right _ _ vO,ht,Nat.sub_self,show 16 - k=(16 - (k+1))+1 by omega,List.replicate_succ,List.set_cons_zero,List.take_add_one,h]
 simp
theorem jlw{rs:List vB}(hr:rs.length=16){k:Nat}(h:rs[k]?=some ⟨#[]⟩):jdJ rs (k+1)=jdJ rs k:=by
 rw[<-jia hr h];have hk:=(List.getElem?_eq_some_iff.1 h).1;have ht:(rs.take k).length=k:=by rw[List.length_take];omega
 apply List.ext_getElem?;intro j;rw[List.getElem?_set];split
 ·rename_i e
  subst e;rw[if_pos (by rw[jgM hr vO];omega)];unfold jdJ jam;rw[List.getElem?_append_right vO,ht,Nat.sub_self,List.getElem?_replicate,if_pos vO]
 ·rfl
theorem jkF(rs:List vB)(v x:vB)(k:Nat):(jad.cells ⟨3,⟨#[]⟩,v,rs⟩).toArray.setIfInBounds (3+k) (.string x)=(jad.cells ⟨3,⟨#[]⟩,v,rs.set k x⟩).toArray:=by
 unfold jad.cells;rw[show 3+k=k+1+1+1 by omega];simp only[List.setIfInBounds_toArray,List.set_cons_succ,List.map_set]
theorem jts{I:vB->jad->Prop}(HP:InlP I){r:vB}(h:MayP I r):r≠jao ⟨#[]⟩:=fun e=>by
 have e1:r.size=1:=by rw[e];rfl
 rcases h with h |⟨m,h⟩
 ·have:=h.size;omega
 ·obtain⟨xs,rfl,_⟩:=HP.list r m h
  have e2:=congrArg (fun z:vB=>z.data.toList.head?) e;unfold ja4 jbZ at e1 e2
  by_cases hn:(catB xs).size<=55
  ·rw[if_pos hn]at e1 e2
   rw[ByteArray.size_append]at e1;have hz:(catB xs).size=0:=by
    have:(⟨#[192+UInt8.ofNat (catB xs).size]⟩:vB).size=1:=rfl
    omega
   rw[hz]at e2;simp at e2;revert e2;decide
  ·rw[ByteArray.size_append]at e1;omega
section
variable {I:vB->jad->Prop} (HP:InlP I) (HI:InlR I)
include HP HI
def Rd4R(W:World)(gn gr:Nat)(rs:List vB)(iv:Value)(wr:World):Prop:=∃ k:Nat,k<=16/\iv=.int .i64 k/\Blk wr gn (.cells (jad.cells ⟨3,⟨#[]⟩,⟨#[]⟩,jdJ rs k⟩).toArray 144)/\jae (fun z=>z=gn) W wr
theorem jj5(w:World)(v:vB)(rs:List vB)(h2:rs.length=16)(h3:v.size<=80)(h4:∀ r∈rs,r.size≠0->MayP I r)(h5:2<=min v.size 1+(jas 0 rs).length):vR 237 #[.string (jaN ⟨3,⟨#[]⟩,v,rs⟩)] w (.tuple #[jad.V ⟨3,⟨#[]⟩,v,rs⟩,.bool true]):=by
 have hG:jbx I ⟨3,⟨#[]⟩,v,rs⟩:=.branch v rs h2 h3 h4 h5;have HPUT:=Hd (fun w1=>jid HP HI w1 _ hG);have hs3:=jaK v;have hit:∀ x∈rs.map itB,x.size<=33/\jpi x:=fun x hx=>by
  obtain⟨r,hr,rfl⟩:=List.mem_map.1 hx
  unfold itB
  by_cases h0:r.size=0
  ·rw[if_pos h0];exact⟨by decide,jdp ⟨#[]⟩ vI (jed _)⟩
  ·rw[if_neg h0];exact⟨jnI HP (h4 r hr h0),jnH HP (h4 r hr h0)⟩
 have hbx:ja0 rs v=rs.map itB++[jao v]:=rfl;have hc:(catB (ja0 rs v)).size<=700:=by
  have:∀ L:List vB,(∀ x∈L,x.size<=33)->(catB L).size<=33 * L.length:=fun L=>by
   induction L with
   | nil=>intro _;exact Nat.le_refl _
   | cons y l ih =>
    intro h;rw[ja1,List.length_cons]
    have:=ih (fun x hx=>h x (List.mem_cons_of_mem _ hx))
    have:=h y List.mem_cons_self
    omega
  have h6:=this (rs.map itB) (fun x hx=>(hit x hx).1);rw[List.length_map,h2]at h6;rw[hbx,jfS,ByteArray.size_append,jdE];omega
 have hls:=jcE (ja0 rs v);rw[jhY v rs h2]at HPUT ⊢;have HSP:=Hd (fun w1=>jgN w1 (ja0 rs v) vO vO);have hln:(ja0 rs v).length=17:=by rw[hbx,List.length_append,List.length_map,h2];rfl
 have HIT:=Hd (fun w1=>jhk w1 (ja0 rs v) (fun x hx=>by
  rw[hbx]at hx;rcases List.mem_append.1 hx with hx | hx
  ·exact (hit x hx).2
  ·rw[List.mem_singleton.1 hx];exact jdp v vO (jed v)) vO vO)
 rw[hln]at HIT;have HT0:=Hd (fun w1=>jdR w1 ⟨#[]⟩ vI);have HTV:=Hd (fun w1=>jhl w1 v vO);have HX16:=Hd (show (ja0 rs v)[16]?=some (jao v) by rw[hbx,List.getElem?_append_right (by rw[List.length_map];omega),List.length_map,h2];rfl);have HXK:=Hd (show ∀ k r,rs[k]?=some r->(ja0 rs v)[k]?=some (itB r)from fun k r hk=>by
  have:=(List.getElem?_eq_some_iff.1 hk).1
  rw[hbx,List.getElem?_append_left (by rw[List.length_map];exact this),List.getElem?_map,hk];rfl)
 have HNN:=Hd (show ∀ r∈rs,r.size≠0->r≠jao ⟨#[]⟩from fun r hr h0=>jts HP (h4 r hr h0));have HRL:=Hd h2
 obtain⟨X,hX⟩:=vE (ja0 rs v)
 rw[<-hX]at HPUT HSP HIT HX16 HXK hls ⊢
 obtain⟨s,hs⟩:=vE (ja4 X)
 obtain⟨b,hb⟩:=vE (catB X)
 obtain⟨t2,ht2⟩:=vE (jao v)
 obtain⟨t0,ht0⟩:=vE (jao ⟨#[]⟩)
 have c0:¬(1000:Int) < (s.size:Int):=by rw[hs];rw[<-hX]at hc;omega
 rw[<-hs, <-hb]at HSP;rw[<-hb]at HIT;rw[<-ht2]at HTV HX16;rw[<-ht0]at HT0 HNN;rw[<-hs]at HPUT ⊢;have HT00:=Hd ht0;clear hG h2 h3 h4 h5 hs3 hit hbx hc hls hln hX hs hb ht2 ht0;unfold jad.V at HPUT ⊢;go_enter Tryz.func237,Tryz.ntmps237;go_wp2_with (first |(refine jah Tryz.allocNode rfl rfl ?_;have hx1:=HR1.o;intro W2 hB2 hE2) |(refine jah Tryz.allocNode rfl rfl ?_;intro W1 hB1 hE1;have HR1:=Hd hB1) |(refine jag (vs:=jar.cells) rfl rfl rfl rfl hB2 rfl Tryz.szNode jar.one ?_;intro W3 hB3 hE3))
 have HN3:=Hd hB3;have HR3:=Hd ((HR1.o.keeps hE2 (fun h=>h)).keeps hE3 (by have:=HR1.o.lt;omega));have hX3:Ext w W3:=(hE1.trans hE2).trans' hE3 (fun x hx e=>by have e:x=W1.heap.size:=e;have:=hE1.size;omega);have HX3:=Hd hX3
 obtain⟨gr,hgr⟩:=vE w.heap.size
 obtain⟨gn,hgn⟩:=vE W1.heap.size
 have HGN:=Hd (show gr≠gn/\w.heap.size<=gr/\w.heap.size<=gn from by have:=HR1.o.lt;have:=hE1.size;omega);rw[<-hgr]at HR3 ⊢;rw[<-hgn]at HN3 ⊢;clear hB1 hE1 HR1 hx1 hB2 hE2 hB3 hE3 hX3 hgr hgn;refine vC (HSP.o W3) fun w4 hE=>?_;have HE4:=Hd hE;clear hE;go_wp2_with fail
 refine (HIT.o w4).mono ?_;rintro e w5 ⟨lv,rfl,hL⟩
 obtain⟨g,c,rfl,hcell⟩:=jhZ hL (Nat.zero_lt_succ _)
 have hg4:w4.heap.size<=g:=hL.new g rfl;have hgn4:=HN3.o.lt;have hgs4:=HE4.o.size;have hne1:¬ gn=g:=by omega
 have hne2:¬ g=gn:=by omega
 have HCELL:=Hd hcell;have HE5:=Hd (HE4.o.trans hL.ext);have HN5:=Hd (HN3.o.keeps HE5.o (fun h=>h));have HR5:=Hd (HR3.o.keeps HE5.o (fun h=>h));have k0:=HN5.o.cellL (i:=0) (v:=.int .i64 0) rfl;have f0:w5.frozen? ⟨gn,0,none⟩=false:=HN5.o.frozen;clear hcell hL hg4 hgn4 hgs4;go_wp2_with fail
 have hN6:Blk (w5.setCell ⟨gn,0,none⟩ (.int .i64 3)) gn (.cells (jad.cells ⟨3,⟨#[]⟩,⟨#[]⟩,jam 16⟩).toArray 144):=HN5.o.set_same (i:=0) (.int .i64 3);have HK6:=Hd ((jae.refl (fun z=>z=gn) w5).setCell (p:=⟨gn,0,none⟩) (.inl rfl) (.int .i64 3))
 obtain⟨w6,hw6⟩:=vE (w5.setCell ⟨gn,0,none⟩ (.int .i64 3))
 rw[<-hw6]at hN6 HK6 ⊢;have HN6:=Hd hN6;clear k0 f0 hw6 hN6;go_loopw [14] (fun iv wr=>Rd4R w6 gn gr rs iv wr) (fun iv _=>16 - (intOf iv).toNat)
 case atStart=>exact⟨0,by omega,rfl,HN6.o,jae.refl _ _⟩
 case round =>
  obtain⟨k,hk,rfl,hN,hK⟩:=hrel
  have HN:=Hd hN;have HK:=Hd hK;clear hN hK
  by_cases hlt:k < 16
  ·have b1:(k:Int) < 16:=by omega
   have b2:k < 17:=by omega
   obtain⟨r,hr⟩:∃ r,rs[k]?=some r:=⟨_,List.getElem?_eq_getElem (by have:=HRL.o;omega)⟩
   have q1:wr.cell? ⟨g,k,none⟩=some (.string (itB r)):=jaw (jaw (HCELL.o k _ (HXK.o k r hr)) HK6.o hne2) HK.o hne2;have Q1:=Hd q1;have HR:=Hd hr
   obtain⟨x,hx⟩:=vE (itB r)
   have HX:=Hd hx;rw[<-hx]at q1 Q1;clear hr hx;go_wp2_with fail
   refine jai [0,1,2,3,4,5] Ext ExtR ExtT vY vY vY ?_;iterate 3 refine vK ?_
   refine qKL ⟨g,k,none⟩ _ rfl (fun w1 h1=>jab Tryz.uStr rfl (jaa Q1.o ((jaj wr).trans h1))) ?_;refine vS ?_;refine qKC _ 212 #[.string ⟨#[]⟩] (.string t0) rfl (fun w1=>jay Tryz.enterText4 vY) (fun w1 h1=>HT0.o w1) ?_;refine vS ?_
   refine vK ?_
   refine qKE (fun w7 he=>?_);have HX7:=Hd ((jaj wr).trans he);have hN7:=HN.o.keeps HX7.o (fun h=>h);have HN7:=Hd hN7;have HK7:=Hd (HK.o.trans (HX7.o.mono (fun _ _ h=>h.elim)));clear he q1 hN7
   obtain⟨q,hq⟩:=vE (!(x.toList == t0.toList))
   rw[<-hq]
   by_cases hxt:x=t0
   ·have hr0:rs[k]?=some ⟨#[]⟩:=by
     have h1:=HR.o
     by_cases h0:r.size=0
     ·rw[h1];exact congrArg some (jbt (List.eq_nil_of_length_eq_zero h0))
     ·exfalso
      refine HNN.o r (List.mem_of_getElem? h1) h0 ?_;rw[<-hxt,HX.o];unfold itB;rw[if_neg h0]
    have HKN:=Hd (jlw HRL.o hr0);have hq1:(t0 != t0)=false:=by unfold bne;rw[show (t0 == t0)=true by rw[jeM];exact decide_eq_true rfl];rfl
    obtain rfl:q=false:=by rw[hq,hxt,beq_self_eq_true];rfl
    clear hr0 hxt hq hq1;go_wp2_with fail
    go_roundw
    case rel=>exact⟨k+1,by omega,by go_num,by rw[HKN.o];exact HN7.o,HK7.o⟩
    case measure=>simp[intOf];omega
   ·have hr1:x=r:=by
     rw[HX.o];unfold itB;rw[if_neg (fun h0=>hxt (by rw[HX.o,HT00.o];unfold itB;rw[if_pos h0]))]
    have HKS:=Hd (show (jdJ rs k).set k x=jdJ rs (k+1) by rw[hr1];exact jia HRL.o HR.o);have hq1:(x != t0)=true:=by unfold bne;rw[show (x == t0)=false by rw[jeM];exact decide_eq_false hxt];rfl
    obtain rfl:q=true:=by rw[hq,beq_eq_false_iff_ne.2 (fun e=>hxt (jdq e))];rfl
    have q1:=jaa Q1.o HX7.o
    obtain⟨old,k3⟩:∃ old,w7.cell? ⟨gn,3+k,none⟩=some old:=⟨_,HN7.o.cellL (List.getElem?_eq_getElem (by rw[jad.cells_len _ (jgM HRL.o vO)];omega))⟩
    have f3:w7.frozen? ⟨gn,3+k,none⟩=false:=HN7.o.frozen;clear hxt hr1 hq hq1;go_wp2_with fail
    have hN8:=HN7.o.set_same (i:=3+k) (.string x);rw[jkF,HKS.o]at hN8
    exact⟨⟨k+1,by omega,by go_num,hN8,HK7.o.setCell (p:=⟨gn,3+k,none⟩) (.inl rfl) (.string x)⟩,by simp[intOf];omega⟩
  ·have hk16:k=16:=by omega
   subst hk16;have hN:=HN.o;rw[jlv HRL.o]at hN;have HNA:=Hd hN;have q1:wr.cell? ⟨g,16,none⟩=some (.string t2):=jaw (jaw (HCELL.o 16 _ HX16.o) HK6.o hne2) HK.o hne2;have HRA:=Hd ((HR5.o.keeps HK6.o HGN.o.1).keeps HK.o HGN.o.1);have HKA:=Hd (HK6.o.trans HK.o);have b1:¬((16:Nat):Int) < 16:=by omega
   clear hN hlt;go_wp2_with fail
   refine vC (HTV.o wr) fun w9 hE=>?_;have HE9:=Hd hE;have HN9:=Hd (HNA.o.keeps hE (fun h=>h));have k2:=HN9.o.cellL (i:=2) (v:=.string ⟨#[]⟩) rfl;have f2:w9.frozen? ⟨gn,2,none⟩=false:=HN9.o.frozen;have hN10:Blk (w9.setCell ⟨gn,2,none⟩ (.string v)) gn (.cells (jad.cells ⟨3,⟨#[]⟩,v,rs⟩).toArray 144):=HN9.o.set_same (i:=2) (.string v);have hld:=jan _ gn ⟨3,⟨#[]⟩,v,rs⟩ HRL.o hN10;have HN10:=Hd hN10;unfold jad.V at hld;clear hE hN10 q1;go_wp2_with (refine jaf 144 (.tmp 4) rfl rfl _ _ rfl hld ?_)
   have HK10:=Hd ((jae.refl (fun z=>z=gn) w9).setCell (p:=⟨gn,2,none⟩) (.inl rfl) (.string v));have HR10:=Hd ((HRA.o.keeps HE9.o (fun h=>h)).keeps HK10.o HGN.o.1)
   obtain⟨w10,hw10⟩:=vE (w9.setCell ⟨gn,2,none⟩ (.string v))
   rw[<-hw10]at HR10 HK10 HN10 ⊢;clear k2 f2 hld hw10;refine vC (HPUT.o w10) fun w11 hE=>?_;have HE11:=Hd hE;have hN11:=HN10.o.keeps hE (fun h=>h);have hld:=jan _ gn ⟨3,⟨#[]⟩,v,rs⟩ HRL.o hN11;have hR11:=HR10.o.keeps hE (fun h=>h);have hss:(s != s)=false:=by unfold bne;rw[show (s == s)=true by rw[jeM];exact decide_eq_true rfl];rfl
   have HL:=Hd (jad.cells_len ⟨3,⟨#[]⟩,v,rs⟩ HRL.o);unfold jad.V at hld;clear hE;go_wp2_with (first |(refine jaf 144 (.tmp 4) rfl rfl _ _ rfl hld ?_) |(refine jag (vs:=jad.cells ⟨3,⟨#[]⟩,v,rs⟩) rfl rfl rfl rfl hR11 (by rw[HL.o];rfl) (by rw[HL.o];exact Tryz.szNode) (jad.one _) ?_;intro W12 hB12 hE12))
   refine bodyPost_ret (jax rfl rfl rfl (jap W12 _ ⟨3,⟨#[]⟩,v,rs⟩ HRL.o hB12)) rfl ?_;have hz:=HGN.o;have e9:=((HX3.o.trans HE5.o).trans' HKA.o (fun x hx e=>by have e:x=gn:=e;omega)).trans HE9.o;have e10:=e9.trans' HK10.o (fun x hx e=>by have e:x=gn:=e;omega)
   exact⟨rfl,(e10.trans HE11.o).trans' hE12 (fun x hx e=>by have e:x=gr:=e;omega)⟩
end
section
variable {I:vB->jad->Prop} (HP:InlP I) (HI:InlR I)
include HP HI
theorem jtO(w:World)(n:jad)(h:jbx I n):vR 237 #[.string (jaN n)] w (.tuple #[n.V,.bool true]):=by
 cases h with
 | none=>exact jmG HP HI w
 | leaf p v h2 h3 h4=>exact jmF HP HI w p v h2 h3 h4
 | ext p r h2 h3 h4=>exact joZ HP HI w p r h2 h3 h4
 | branch v rs h2 h3 h4 h5=>exact jj5 HP HI w v rs h2 h3 h4 h5
end
theorem inlR:∀ d,InlR (InlD d)
 | 0=>⟨fun _ _ h=>h.elim,fun _ _ h=>h.elim,fun _ _ h=>h.elim⟩
 | d+1=>⟨fun r m h=>h.2.2.1,fun r m h=>(h.1.one (inlP d)).refs,fun r m h w=>by
  obtain⟨h1,rfl,h3,h4⟩:=h
  exact jlx w _ m (h1.one (inlP d)).refs h4 h3 (fun w1=>jtO (inlP d) (inlR d) w1 m h1)⟩
end
section
open Go Go.RowKit
attribute [local go_sem] Oper.semAt_some
theorem Tryz.enterPath1r(args:Array Value)(w:World):(callFunc 74 args).run Tryz.prog w=.ok (.enter 74 args) w:=by kernel_rfl
def Pa5R(w:World)(l:List Pair)(v iv:Value)(wr:World):Prop:=∃ k:Nat,k<=l.length/\iv=.int .i64 k/\ERow w wr v k ((jaO l).take k)
theorem jtN(w:World)(v:Value)(l:List Pair)(hv:RdP w v l)(hn:l.length<=1000000)(hs:∀ p∈l,p.1.size<=1000000) :
  vQ 73 #[v] w fun e w'=>∃ u,e=.returned u/\ERow w w' u l.length (jaO l):=by
 have HV:=Hd hv;have HS:=Hd hs
 obtain⟨a0,c0,rfl⟩:=hv.sl;clear hv hs;go_enter Tryz.func73,Tryz.ntmps73;go_wp2_with fail
 go_loopw [3,4] (fun v iv wr=>Pa5R w l v iv wr) (fun _ iv _=>l.length - (intOf iv).toNat)
 case atStart=>exact⟨0,by omega,rfl,ORow.nil _ _ (ExtR w)⟩
 case round =>
  obtain⟨k,hk,rfl,hR⟩:=hrel
  have HR:=Hd hR
  obtain⟨la,lc,rfl⟩:=hR.sl;clear hR
  by_cases hlt:k < l.length
  ·have b1:(k:Int) < (l.length:Int):=by omega
   obtain⟨⟨x,y⟩,hp⟩:∃ p,l[k]?=some p:=⟨_,List.getElem?_eq_getElem hlt⟩
   rcases HV.o with⟨_,_,_,h0⟩ |⟨b,o,c1,hh,hb,hc,hcell⟩
   ·rw[h0]at hlt;cases hlt
   cases hh
   obtain⟨q1,q2⟩:=hcell k _ hp
   have Q1:=Hd (jaa q1 HR.o.ext);have Q2:=Hd (jaa q2 HR.o.ext);have HXS:=Hd (HS.o _ (List.mem_of_getElem? hp));have HTK:=Hd (show (jaO l).take (k+1)=(jaO l).take k++[(ja5 x,y)] by
    unfold jaO;rw[List.take_add_one,List.getElem?_map,hp];rfl)
   have NB:Hid (¬(Value.slice la k lc).ownBlock=some b):=(fun e=>by have:=HR.o.new b e;omega);clear hcell hp q1 q2 hb hc;go_wp2_with fail
   refine jaD [0,1,2,3,4,5,6,7,8,9,10,11,12,13,14,15] [13,14] Ext (jae (fun b=>(Value.slice la k lc).ownBlock=some b)) ExtR ExtT (fun x y z h k=>jae.trans h k) (fun x y h=>h.mono (fun _ _ h=>h.elim)) vY vY vY ?_;iterate 5 refine vD ?_
   refine qDL ⟨b,o+k * 2,none⟩ _ rfl (fun w1 h1=>jab Tryz.uStr rfl (jaw (jaa Q1.o (jaj wr)) h1 NB.o)) ?_;refine vS ?_;refine jhW _ 74 #[.string x] (.string (ja5 x)) rfl vY rfl (fun w1=>jay Tryz.enterPath1r vY) (fun w1 h1=>jj4 w1 x HXS.o) ?_;refine vS ?_;iterate 4 refine vD ?_
   refine qDL ⟨b,o+k * 2+1,none⟩ _ rfl (fun w1 h1=>jab Tryz.uStr rfl (jaw (jaa Q2.o (jaj wr)) h1 NB.o)) ?_;refine vS ?_
   refine vD ?_
   refine qDH _ rfl (fun w2 he K hK=>?_);have HR2:=Hd (HR.o.mono ((jaj wr).trans he));clear he
   obtain⟨z,hz⟩:=vE (ja5 x)
   rw[<-hz]at HTK ⊢;clear hz;go_simp;refine hK _ _ ((jae.refl _ w2).alloc _) ?_;clear hK K;refine qDH _ rfl (fun w3 he K hK=>?_);have HR3:=Hd (HR2.o.mono (((ExtR w2).alloc _).trans he));have hB:∀ j u,([.string z,.string y]:List Value)[j]?=some u->w3.cell? ((⟨w2.heap.size,0,none⟩:Addr).add j)=some u:=fun j u hj=>jaa (jaS (Blk.new w2 (.cells [Value.string z,.string y].toArray 95)) j u hj) he;refine jgY Tryz.sEnts HR3.o (.tmp 11) (.tmp 24) rfl rfl hB (by intro u hu;simp at hu;rcases hu with rfl | rfl <;> rfl) rfl rfl (by unfold maxLen;omega) vO (fun v' w4 r1 r2 r3=>hK _ _ r2 ?_);have r1':ERow w w4 v' (k+1) ((jaO l).take (k+1)):=by
    unfold ERow;rw[HTK.o,jbC];exact r1
   have HR4:=Hd r1';clear hK K he r1 r2 r3 r1' hB HR2 HR3
   obtain⟨a4,c4,rfl⟩:=HR4.o.sl
   refine vS ?_
   refine vD ?_
   refine qDE (fun w5 he=>?_);have HR5:=Hd (HR4.o.mono he);clear he HR4;go_wp2_with fail
   go_roundw
   case rel=>exact⟨k+1,by omega,by go_num,HR5.o⟩
   case measure=>simp[intOf];omega
  ·have hkn:k=l.length:=by omega
   subst hkn;have HF:=Hd (show ERow w wr (.slice la l.length lc) l.length (jaO l) by
    have h:=HR.o
    rwa [List.take_of_length_le (by unfold jaO;rw[List.length_map];exact Nat.le_refl _)]at h)
   go_wp2_with fail
   go_ret
   exact⟨_,rfl,HF.o⟩
def jfq(p x:vB):Bool:=decide (p.size<=x.size) && decide (x.extract 0 p.size=p)
def jcs(p:vB)(l:List Pair):List Pair:=(l.filter fun q=>jfq p q.1).map fun q=>(q.1.extract p.size q.1.size,q.2)
theorem jpa(p:vB){l:List Pair}{k:Nat}{q:Pair}(h:l[k]?=some q):jcs p (l.take (k+1))=jcs p (l.take k)++(if jfq p q.1 then [(q.1.extract p.size q.1.size,q.2)]else []):=by
 unfold jcs;rw[List.take_add_one,h,List.filter_append,List.map_append,Option.toList_some,List.filter_cons];split <;> rfl
def Un5R(w:World)(p:vB)(l:List Pair)(v iv:Value)(wr:World):Prop:=∃ k:Nat,k<=l.length/\iv=.int .i64 k/\ERow w wr v (jcs p (l.take k)).length (jcs p (l.take k))
theorem jo1(p:vB)(l:List Pair):(jcs p l).length<=l.length:=by
 unfold jcs;rw[List.length_map];exact List.length_filter_le _ _
theorem jgc(w:World)(v:Value)(l:List Pair)(p:vB)(hv:RdP w v l)(hn:l.length<=1000000)(hs:∀ p∈l,p.1.size<=1000000)(hp:p.size<=1000000) :
  vQ 77 #[v,.string p] w fun e w'=>∃ u,e=.returned u/\ERow w w' u (jcs p l).length (jcs p l):=by
 have HV:=Hd hv;have HS:=Hd hs
 obtain⟨a0,c0,rfl⟩:=hv.sl;clear hv hs;go_enter Tryz.func77,Tryz.ntmps77;go_wp2_with fail
 go_loopw [5,6] (fun v iv wr=>Un5R w p l v iv wr) (fun _ iv _=>l.length - (intOf iv).toNat)
 case atStart=>exact⟨0,by omega,rfl,ORow.nil _ _ (ExtR w)⟩
 case round =>
  obtain⟨k,hk,rfl,hR⟩:=hrel
  have HR:=Hd hR
  obtain⟨m,hm⟩:=vE (jcs p (l.take k))
  have hml:m.length<=k:=by
   rw[hm];have h1:=jo1 p (l.take k);rw[List.length_take]at h1;omega
  have HM:=Hd hm;rw[<-hm]at HR
  obtain⟨la,lc,rfl⟩:=HR.o.sl;clear hR hm
  by_cases hlt:k < l.length
  ·have b1:(k:Int) < (l.length:Int):=by omega
   obtain⟨⟨x,y⟩,hq⟩:∃ p,l[k]?=some p:=⟨_,List.getElem?_eq_getElem hlt⟩
   rcases HV.o with⟨_,_,_,h0⟩ |⟨b,o,c1,hh,hb,hc,hcell⟩
   ·rw[h0]at hlt;cases hlt
   cases hh
   obtain⟨q1,q2⟩:=hcell k _ hq
   have Q1:=Hd (jaa q1 HR.o.ext);have Q2:=Hd (jaa q2 HR.o.ext);have HXS:=Hd (HS.o _ (List.mem_of_getElem? hq));have HST:=Hd (jpa p hq);rw[<-HM.o]at HST;have NB:Hid (¬(Value.slice la m.length lc).ownBlock=some b):=(fun e=>by have:=HR.o.new b e;omega);have q1:=Q1.o;clear hcell hq q2 hb hc;have hbe:∀ b,jfq p x=b->jcs p (l.take (k+1))=m++(if b then [(x.extract p.size x.size,y)]else []):=fun b e=>by rw[HST.o,e]
   have HBE:=Hd hbe;clear hbe
   by_cases hsz:p.size<=x.size
   case neg =>
    have c1:¬(p.size:Int)<=(x.size:Int):=by omega
    have HB:=Hd (HBE.o false (by unfold jfq;rw[decide_eq_false hsz];rfl));go_wp2_with fail
    go_roundw
    case rel=>exact⟨k+1,by omega,by go_num,by rw[HB.o];simpa using HR.o⟩
    case measure=>simp[intOf];omega
   have c1:(p.size:Int)<=(x.size:Int):=by omega
   by_cases hbg:x.extract 0 p.size=p
   case neg =>
    have hx:((x.extract 0 p.size).toList == p.toList)=false:=beq_eq_false_iff_ne.2 (fun e=>hbg (jdq e));have HB:=Hd (HBE.o false (by unfold jfq;rw[decide_eq_false hbg,Bool.and_false]));clear hbg;go_wp2_with fail
    go_roundw
    case rel=>exact⟨k+1,by omega,by go_num,by rw[HB.o];simpa using HR.o⟩
    case measure=>simp[intOf];omega
   have hx:((x.extract 0 p.size).toList == p.toList)=true:=by rw[hbg];exact beq_self_eq_true _
   have HB:=Hd (show jcs p (l.take (k+1))=m++[(x.extract p.size x.size,y)]from HBE.o true (by unfold jfq;rw[decide_eq_true hbg,decide_eq_true hsz];rfl));clear hbg;go_wp2_with fail
   refine jaD [0,1,2,3,4,5,6,7,8,9,10,11,12,13,14,15,16,17] [15,16] Ext (jae (fun b=>(Value.slice la m.length lc).ownBlock=some b)) ExtR ExtT (fun x y z h k=>jae.trans h k) (fun x y h=>h.mono (fun _ _ h=>h.elim)) vY vY vY ?_;iterate 5 refine vD ?_
   refine qDL ⟨b,o+k * 2,none⟩ _ rfl (fun w1 h1=>jab Tryz.uStr rfl (jaw (jaa Q1.o (jaj wr)) h1 NB.o)) ?_;refine vS ?_;iterate 7 refine vD ?_
   refine qDL ⟨b,o+k * 2+1,none⟩ _ rfl (fun w1 h1=>jab Tryz.uStr rfl (jaw (jaa Q2.o (jaj wr)) h1 NB.o)) ?_;refine vS ?_
   refine vD ?_
   refine qDH _ rfl (fun w2 he K hK=>?_);have HR2:=Hd (HR.o.mono ((jaj wr).trans he));clear he
   obtain⟨z,hz⟩:=vE (x.extract p.size x.size)
   rw[<-hz]at HB ⊢;clear hz;go_simp;refine hK _ _ ((jae.refl _ w2).alloc _) ?_;clear hK K;refine qDH _ rfl (fun w3 he K hK=>?_);have HR3:=Hd (HR2.o.mono (((ExtR w2).alloc _).trans he));have hB:∀ j u,([.string z,.string y]:List Value)[j]?=some u->w3.cell? ((⟨w2.heap.size,0,none⟩:Addr).add j)=some u:=fun j u hj=>jaa (jaS (Blk.new w2 (.cells [Value.string z,.string y].toArray 95)) j u hj) he;refine jgY Tryz.sEnts HR3.o (.tmp 34) (.tmp 49) rfl rfl hB (by intro u hu;simp at hu;rcases hu with rfl | rfl <;> rfl) rfl rfl (by unfold maxLen;omega) vO (fun v' w4 r1 r2 r3=>hK _ _ r2 ?_);have r1':ERow w w4 v' (m.length+1) (m++[(z,y)]):=by
    unfold ERow;rw[jbC];exact r1
   have HR4:=Hd r1';clear hK K he r1 r2 r3 r1' hB HR2 HR3
   obtain⟨a4,c4,rfl⟩:=HR4.o.sl
   refine vS ?_
   refine vD ?_
   refine qDE (fun w5 he=>?_);have HR5:=Hd (HR4.o.mono he);clear he HR4;go_wp2_with fail
   go_roundw
   case rel=>exact⟨k+1,by omega,by go_num,by rw[HB.o,List.length_append];exact HR5.o⟩
   case measure=>simp[intOf];omega
  ·have hkn:k=l.length:=by omega
   subst hkn;have HF:=Hd (show ERow w wr (.slice la m.length lc) (jcs p l).length (jcs p l) by
    have h:=HR.o;have e:=HM.o;rw[List.take_of_length_le (Nat.le_refl _)]at e;rw[<-e];exact h)
   go_wp2_with fail
   go_ret
   exact⟨_,rfl,HF.o⟩
end
section
open Go Go.RowKit
theorem jiN:∀ (a q:List UInt8) (m:Nat),jaV (a.take m) q=min m (jaV a q)
 | [],q,m=>by simp[jaV]
 | x :: r,[],m=>by cases m <;> simp[jaV]
 | x :: r,y :: t,0=>by simp[jaV]
 | x :: r,y :: t,m+1=>by
  have:=jiN r t m
  rw[List.take_succ_cons];show (if x=y then jaV (r.take m) t+1 else 0)=min (m+1) (if x=y then jaV r t+1 else 0);split <;> omega
def comF(l:List Pair)(p:vB):vB:=l.foldl (fun p q=>p.extract 0 (jak p q.1)) p
def comM(a:vB)(l:List Pair)(m:Nat):Nat:=l.foldl (fun m q=>min m (jak a q.1)) m
theorem jbS(b:vB)(k:Nat):(b.extract 0 k).data.toList=b.data.toList.take k:=by
 rw[ByteArray.data_extract,Array.toList_extract,List.extract_eq_take_drop];simp
theorem jpS(a:vB):∀ (l:List Pair) (p:vB) (m:Nat),p.data.toList=a.data.toList.take m->(comF l p).data.toList=a.data.toList.take (comM a l m)
 | [],p,m,h=>h
 | q :: l,p,m,h=>by
  refine jpS a l (p.extract 0 (jak p q.1)) (min m (jak a q.1)) ?_;rw[jbS,h,List.take_take]
  congr 1
  show min (jaV p.data.toList q.1.data.toList) m=min m (jaV a.data.toList q.1.data.toList);rw[h,jiN];omega
theorem jpU(a:vB)(K:Nat):∀ (l:List Pair) (m:Nat),K<=m->(∀ q∈l,K<=jak a q.1)->K<=comM a l m
 | [],m,h,_=>h
 | q :: l,m,h,hq=>jpU a K l (min m (jak a q.1)) (by have:=hq q List.mem_cons_self;omega) (fun x hx=>hq x (List.mem_cons_of_mem _ hx))
theorem jm0(a:vB):∀ (l:List Pair) (m:Nat),comM a l m<=m
 | [],m=>Nat.le_refl _
 | q :: l,m=>Nat.le_trans (jm0 a l _) (Nat.min_le_left _ _)
theorem jpV(a:vB):∀ (l:List Pair) (m:Nat) (q:Pair),q∈l->comM a l m<=jak a q.1
 | p :: l,m,q,h=>by
  rcases List.mem_cons.1 h with rfl | h
  ·exact Nat.le_trans (jm0 a l _) (Nat.min_le_right _ _)
  ·exact jpV a l _ q h
theorem jom{a b:List UInt8}{k:Nat}(h:a.take k=b.take k)(h1:k<=a.length)(h2:k<=b.length):k<=jaV a b:=by
 rw[jdu a b k h h1 h2];omega
theorem jjq{f:Nat}{l:List Pair}(h:jaA f l)(h2:2<=l.length):comF l (l.getD 0 pd).1=(l.getD 0 pd).1.extract 0 (comK l):=by
 refine jbt ?_
 obtain⟨a,ha⟩:=vE (l.getD 0 pd).1
 have hm0:l.getD 0 pd∈l:=by
  rw[List.getD_eq_getElem?_getD,List.getElem?_eq_getElem vO];exact List.getElem_mem _
 have hm1:l.getD (l.length - 1) pd∈l:=by
  rw[List.getD_eq_getElem?_getD,List.getElem?_eq_getElem vO];exact List.getElem_mem _
 have hall:=jbu h h2;have hk0:=(hall _ hm0).2;rw[<-ha,jpS a l a a.data.toList.length (List.take_of_length_le (Nat.le_refl _)).symm,jbS]
 congr 1
 have hK:∀ q∈l,comK l<=jak a q.1:=fun q hq=>by
  obtain⟨e1,e2⟩:=hall q hq
  exact jom (by rw[ha];exact e1.symm) (by rw[ha];exact hk0) e2
 have h3:=jpU a (comK l) l a.data.toList.length (by rw[ha];exact hk0) hK;have h4:=jpV a l a.data.toList.length _ hm1;have h5:jak a (l.getD (l.length - 1) pd).1=comK l:=by rw[ha];rfl
 omega
theorem jlL{f:Nat}{l:List Pair}(h:jaA f l)(h2:2<=l.length):jcs ((l.getD 0 pd).1.extract 0 (comK l)) l=jal (comK l) l:=by
 have hm0:l.getD 0 pd∈l:=by
  rw[List.getD_eq_getElem?_getD,List.getElem?_eq_getElem vO];exact List.getElem_mem _
 have hall:=jbu h h2;have hsz:((l.getD 0 pd).1.extract 0 (comK l)).size=comK l:=by
  rw[ByteArray.size_extract];have:=(hall _ hm0).2;omega
 unfold jcs jal;rw[List.filter_eq_self.2 (fun q hq=>by
  obtain⟨e1,e2⟩:=hall q hq
  unfold jfq;rw[hsz,decide_eq_true e2,Bool.true_and];refine decide_eq_true (jbt ?_);rw[jbS,jbS];exact e1),hsz]
theorem jpA(i:Nat)(hi:i < 256)(q:Pair):jfq ⟨#[i.toUInt8]⟩ q.1=jeW i q:=by
 obtain⟨⟨⟨x⟩⟩,v⟩:=q
 cases x with
 | nil=>rfl
 | cons a r =>
  have h1:(1:Nat)<=(⟨⟨a :: r⟩⟩:vB).size:=by show 1<=(a :: r).length;simp
  have h2:(⟨⟨a :: r⟩⟩:vB).extract 0 1=⟨#[a]⟩:=jbt (by rw[jbS];rfl);unfold jfq;show (decide ((1:Nat)<=_) && decide ((⟨⟨a :: r⟩⟩:vB).extract 0 1=⟨#[i.toUInt8]⟩))=(a.toNat == i);rw[show (a.toNat == i)=decide (a.toNat=i)from rfl];rw[decide_eq_true h1,Bool.true_and,h2];refine decide_eq_decide.2 ⟨fun e=>?_,fun e=>?_⟩
  ·have:a=i.toUInt8:=by injection e with e;injection e with e;injection e
   rw[this];simp;omega
  ·rw[<-e];simp
theorem jir(i:Nat)(hi:i < 256)(l:List Pair):jcs ⟨#[i.toUInt8]⟩ l=jal 1 (cutL i l):=by
 unfold jcs jal cutL;rw[show (fun q:Pair=>jfq ⟨#[i.toUInt8]⟩ q.1)=jeW i from funext (jpA i hi)];rfl
end
section
open Go Go.RowKit
attribute [local go_sem] Oper.semAt_some
theorem jji{s:vB}(h:s.size=0):s=⟨#[]⟩:=by
 obtain⟨⟨l⟩⟩:=s
 cases l with
 | nil=>rfl
 | cons x r=>cases h
theorem jl2{s:vB}(h:s.size≠0):s.toList.isEmpty=false:=by
 rw[ByteArray.toList_eq]
 obtain⟨⟨l⟩⟩:=s
 cases l with
 | nil=>exact absurd rfl h
 | cons x r=>rfl
theorem jh8(w:World)(b:vB):vR 123 #[.string ⟨#[]⟩,.string b] w (.int .i64 (jak ⟨#[]⟩ b)):=by
  rw[show jak ⟨#[]⟩ b=0 from jgu _ _ (.inl rfl)];go_enter Tryz.func123,Tryz.ntmps123;go_wp2_with fail
  refine jai [0,1,2,3,4,5,6,7,8,9,10,11,12] Ext ExtR ExtT vY vY vY ?_;iterate 3 refine vK ?_
  iterate 2 (refine qKS _ rfl ?_;refine vS ?_)
  iterate 2 refine vK ?_
  iterate 5 (refine qKS _ rfl ?_;refine vS ?_)
  refine vK ?_
  refine qKE (fun w1 he=>?_);have HE:=Hd ((jaj w).trans he);clear he;go_wp2_with fail
  go_ret
  exact⟨rfl,HE.o⟩
theorem jlr(w:World)(a:vB)(ha:a.size≠0):vR 123 #[.string a,.string ⟨#[]⟩] w (.int .i64 (jak a ⟨#[]⟩)):=by
  have hna:=jl2 ha;rw[show jak a ⟨#[]⟩=0 from jgu _ _ (.inr rfl)];go_enter Tryz.func123,Tryz.ntmps123;go_wp2_with fail
  refine jai [0,1,2,3,4,5,6,7,8,9,10,11,12] Ext ExtR ExtT vY vY vY ?_;iterate 7 refine vK ?_
  iterate 5 (refine qKS _ rfl ?_;refine vS ?_)
  refine vK ?_
  refine qKE (fun w1 he=>?_);have HE:=Hd ((jaj w).trans he);clear he;go_wp2_with fail
  go_ret
  exact⟨rfl,HE.o⟩
theorem jma{a b:vB}(ha:0 < a.size)(hb:0 < b.size)(h:a[0]=b[0]):jak a b=1+jak (a.extract 1 a.size) (b.extract 1 b.size):=by
 have e:∀ {s:vB} (hs:0 < s.size),s.data.toList=s[0] ::(s.extract 1 s.size).data.toList:=fun {s} hs=>by
  have:=jjt s hs
  rw[List.drop_zero]at this;rw[this]
  congr 1
  rw[ByteArray.data_extract]
  simp
  rw[List.take_of_length_le (by rw[List.length_tail];exact Nat.le_refl _)]
 unfold jak;rw[e ha,e hb];show (if a[0]=b[0]then _ else 0)=_;rw[if_pos h];omega
theorem jgt:∀ a b:List UInt8,jaV a b<=a.length
 | [],_=>by simp[jaV]
 | x :: r,[]=>by simp[jaV]
 | x :: r,y :: t=>by
  have:=jgt r t
  show (if x=y then jaV r t+1 else 0)<=_;rw[List.length_cons];split <;> omega
theorem joP(a b:vB):jak a b<=a.size:=jgt _ _
theorem jmc{a b:vB}(ha:0 < a.size)(hb:0 < b.size)(h:a[0]≠b[0]):jak a b=0:=by
 have e:∀ {s:vB} (hs:0 < s.size),s.data.toList=s[0] :: s.data.toList.drop 1:=fun {s} hs=>by
  have:=jjt s hs
  rwa [List.drop_zero]at this
 unfold jak;rw[e ha,e hb];show (if a[0]=b[0]then _ else 0)=_;rw[if_neg h]
theorem jrp:∀ (n:Nat) (w:World) (a b:vB),a.size<=n->n<=1000000->b.size<=1000000->vR 123 #[.string a,.string b] w (.int .i64 (jak a b)):=by
 intro n;induction n with
 | zero =>
  intro w a b ha hn hb;have h0:=jji (s:=a) vO;subst h0;exact jh8 w b
 | succ n ih =>
  intro w a b ha hn hb
  by_cases ha0:a.size=0
  ·have h0:=jji ha0
   subst h0;exact jh8 w b
  by_cases hb0:b.size=0
  ·have h0:=jji hb0
   subst h0;exact jlr w a ha0
  have hna:=jl2 ha0;have hnb:=jl2 hb0;have l1:0 < a.size:=by omega
  have l2:0 < b.size:=by omega
  have b1:(0:Int) < (a.size:Int):=by omega
  have b2:(0:Int) < (b.size:Int):=by omega
  by_cases heq:a[0]=b[0]
  ·rw[jma l1 l2 heq]
   have hh:((a[0].toNat:Int) !=(b[0].toNat:Int))=false:=by rw[heq];simp
   have b3:(1:Int)<=(a.size:Int):=by omega
   have b4:(1:Int)<=(b.size:Int):=by omega
   have HIH:=Hd (fun w1=>ih w1 (a.extract 1 a.size) (b.extract 1 b.size) (by rw[ByteArray.size_extract];omega) vO (by rw[ByteArray.size_extract];omega))
   obtain⟨c,hc⟩:=vE (jak (a.extract 1 a.size) (b.extract 1 b.size))
   have hcl:c<=1000000:=by have:=joP (a.extract 1 a.size) (b.extract 1 b.size);rw[ByteArray.size_extract]at this;omega
   rw[<-hc]at HIH ⊢;clear ih heq hc;go_enter Tryz.func123,Tryz.ntmps123;go_wp2_with fail
   refine jai [0,1,2,3,4,5,6,7,8,9,10,11,12] Ext ExtR ExtT vY vY vY ?_;iterate 13 refine vK ?_
   refine qKE (fun w1 he=>?_);have HE:=Hd ((jaj w).trans he);clear he;go_wp2_with fail
   refine jai [0,1,2,3,4,5,6] Ext ExtR ExtT vY vY vY ?_;iterate 4 refine vK ?_
   refine qKC _ 123 #[.string (a.extract 1 a.size),.string (b.extract 1 b.size)] (.int .i64 c) rfl (fun w2=>jay (vX 123) vY) (fun w2 _=>HIH.o w2) ?_;refine vS ?_;iterate 2 refine vK ?_
   refine qKE (fun w3 he=>?_);have HE3:=Hd (HE.o.trans ((jaj w1).trans he));clear he;go_wp2_with fail
   go_ret
   exact⟨by simp,HE3.o⟩
  ·rw[jmc l1 l2 heq]
   have hh:((a[0].toNat:Int) !=(b[0].toNat:Int))=true:=by
    have:a[0].toNat≠b[0].toNat:=fun e=>heq (UInt8.toNat_inj.1 e)
    simp;omega
   clear ih heq;go_enter Tryz.func123,Tryz.ntmps123;go_wp2_with fail
   refine jai [0,1,2,3,4,5,6,7,8,9,10,11,12] Ext ExtR ExtT vY vY vY ?_;iterate 13 refine vK ?_
   refine qKE (fun w1 he=>?_);have HE:=Hd ((jaj w).trans he);clear he;go_wp2_with fail
   go_ret
   exact⟨rfl,HE.o⟩
theorem jpT(h:vB){l:List Pair}{k:Nat}{q:Pair}(hq:l[k]?=some q):comF (l.take (k+1)) h=(comF (l.take k) h).extract 0 (jak (comF (l.take k) h) q.1):=by
 unfold comF;rw[List.take_add_one,hq,Option.toList_some,List.foldl_append];rfl
theorem jkG:∀ (l:List Pair) (h:vB),(comF l h).size<=h.size
 | [],h=>Nat.le_refl _
 | q :: l,h=>Nat.le_trans (jkG l _) (by rw[ByteArray.size_extract];omega)
def Co5R(w:World)(h:vB)(l:List Pair)(v iv:Value)(wr:World):Prop:=∃ k:Nat,k<=l.length/\v=.string (comF (l.take k) h)/\iv=.int .i64 k/\Ext w wr
theorem jmC(w:World)(v:Value)(l:List Pair)(hv:RdP w v l)(hl:l≠[])(hn:l.length<=1000000)(hs:∀ p∈l,p.1.size<=1000000) :
  vR 76 #[v] w (.string (comF l (l.getD 0 pd).1)):=by
 have HS:=Hd hs;have hpos:0 < l.length:=List.length_pos_iff.2 hl
 obtain⟨⟨x0,y0⟩,hq0⟩:∃ p,l[0]?=some p:=⟨_,List.getElem?_eq_getElem hpos⟩
 have hx0:(l.getD 0 pd).1=x0:=by rw[List.getD_eq_getElem?_getD,hq0];rfl
 rw[hx0];rcases hv with⟨_,_,_,h0⟩ |⟨b,o,c1,rfl,hb,hc,hcell⟩
 ·rw[h0]at hpos;cases hpos
 have q0:=(hcell 0 _ hq0).1;rw[Nat.zero_mul,Nat.add_zero]at q0;have HX0:=Hd (HS.o _ (List.mem_of_getElem? hq0));have HCL:=Hd hcell;have b0:(0:Int) < (l.length:Int):=by omega
 clear hs hcell hq0 hx0;go_enter Tryz.func76,Tryz.ntmps76;go_wp2_with fail
 go_loopw [3,4] (fun v iv wr=>Co5R w x0 l v iv wr) (fun _ iv _=>l.length - (intOf iv).toNat)
 case atStart=>exact⟨0,by omega,rfl,rfl,ExtR w⟩
 case round =>
  obtain⟨k,hk,rfl,rfl,hE⟩:=hrel
  have HE:=Hd hE
  obtain⟨p,hp⟩:=vE (comF (l.take k) x0)
  have HP:=Hd hp;rw[<-hp];have HPS:=Hd (show p.size<=1000000 by rw[hp];exact Nat.le_trans (jkG _ _) HX0.o);clear hE hp
  by_cases hlt:k < l.length
  ·have b1:(k:Int) < (l.length:Int):=by omega
   obtain⟨⟨x,y⟩,hq⟩:∃ p,l[k]?=some p:=⟨_,List.getElem?_eq_getElem hlt⟩
   have q1:=jaa (HCL.o k _ hq).1 HE.o;have HXS:=Hd (HS.o _ (List.mem_of_getElem? hq));have HST:=Hd (jpT x0 hq);rw[<-HP.o]at HST;clear hq;go_wp2_with fail
   refine vC (jrp p.size wr p x (Nat.le_refl _) HPS.o HXS.o) fun w1 hE=>?_
   obtain⟨cm,hcm⟩:=vE (jak p x)
   have hcl:cm<=p.size:=by rw[hcm];exact jgt _ _
   have HE1:=Hd (HE.o.trans hE);rw[<-hcm]at HST ⊢;clear hE hcm;have c0:(cm:Int)<=(p.size:Int):=by omega
   go_wp2_with fail
   go_roundw
   case rel=>exact⟨k+1,by omega,by rw[HST.o],by go_num,HE1.o⟩
   case measure=>simp[intOf];omega
  ·have hkn:k=l.length:=by omega
   have HF:=Hd (show p=comF l x0 by rw[HP.o,hkn,List.take_of_length_le (Nat.le_refl _)]);go_wp2_with fail
   go_ret
   exact⟨by rw[HF.o];rfl,HE.o⟩
def jfO(l:List Pair)(n:jad):Prop:=∀ w v,RdP w v l->vR 122 #[v] w n.V
theorem jf9(f:Nat)(l:List Pair)(hN:jfO l (jav (jac f) l))(h:jaA f l)(w:World)(v:Value)(hv:RdP w v l) :
  vR 75 #[v] w (.string (jac (f+1) l).text):=by
 have HG:=Hd (good f l h).1;have HV:=Hd hv;have HN:=Hd hN
 obtain⟨n,hn⟩:=vE (jav (jac f) l)
 rw[show (jac (f+1) l).text=jaN (jav (jac f) l)from rfl];rw[<-hn]at HG HN ⊢
 obtain⟨a0,c0,rfl⟩:=hv.sl;clear hv hN hn h;go_enter Tryz.func75,Tryz.ntmps75;go_wp2_with fail
 refine vC (HN.o w _ HV.o) fun w1 hE=>?_;have HE:=Hd hE;clear hE;go_wp2_with fail
 refine vC (jid (inlP f) (inlR f) w1 n HG.o) fun w2 hE=>?_;have HE2:=Hd (HE.o.trans hE);clear hE;go_wp2_with fail
 go_ret
 exact⟨rfl,HE2.o⟩
theorem jrE(f:Nat)(l:List Pair)(hN:jfO l (jav (jac f) l))(h:jaA f l)(w:World)(v:Value)(hv:RdP w v l) :
  vR 169 #[v] w (.string (refB (jac (f+1) l).text)):=by
 have HB:=Hd (jf9 f l hN h w v hv);have HSZ:Hid ((jac (f+1) l).text.size<=1000000):=(Nat.le_trans (jiX (jav (jac f) l) ((good f l h).1.one (inlP f))) vI)
 obtain⟨t,ht⟩:=vE (jac (f+1) l).text
 rw[<-ht]at HB HSZ ⊢
 obtain⟨a0,c0,rfl⟩:=hv.sl;clear hv hN ht h;go_enter Tryz.func169,Tryz.ntmps169;go_wp2_with fail
 refine HB.o.mono ?_;rintro e w1 ⟨rfl,hE⟩;have HE:=Hd hE;clear hE;go_wp2_with fail
 refine vC (jv0 w1 t HSZ.o) fun w2 hE=>?_;have HE2:=Hd (HE.o.trans hE);clear hE;go_wp2_with fail
 go_ret
 exact⟨rfl,HE2.o⟩
theorem joL(B:List Pair->PT):jfO [] (jav B []):=by
 intro w v hv
 obtain⟨a0,c0,rfl⟩:=hv.sl;clear hv;go_enter Tryz.func122,Tryz.ntmps122;go_wp2_with (first |(refine jah Tryz.allocNode rfl rfl ?_;intro W1 hB1 hE1) |(refine jag (vs:=jar.cells) rfl rfl rfl rfl hB1 rfl Tryz.szNode jar.one ?_;intro W2 hB2 hE2))
 refine bodyPost_ret (jbE rfl rfl (jap W2 _ jar rfl hB2)) rfl ?_
 exact⟨rfl,hE1.trans' hE2 (fun x hx e=>by have e:x=w.heap.size:=e;omega)⟩
theorem jqZ(B:List Pair->PT)(x y:vB):jfO [(x,y)] (jav B [(x,y)]):=by
 intro w v hv;rcases hv with⟨_,_,_,h0⟩ |⟨b,o,c1,rfl,hb,hc,hcell⟩
 ·cases h0
 obtain⟨q1,q2⟩:=hcell 0 (x,y) rfl
 rw[Nat.zero_mul,Nat.add_zero]at q1;rw[Nat.zero_mul,Nat.add_zero]at q2;have Q1:=Hd q1;have Q2:=Hd q2;rw[show List.length [(x,y)]=1 from rfl]at *;rw[show jav B [(x,y)]=⟨1,x,y,jam 16⟩from rfl];have NB:=Hd (show ¬(b=w.heap.size)from by omega);clear hcell q1 q2 hc hb;go_enter Tryz.func122,Tryz.ntmps122;go_wp2_with (refine jah Tryz.allocNode rfl rfl ?_;intro W1 hB1 hE1)
 have HB1:=Hd hB1;have HE1:=Hd hE1;clear hB1 hE1;refine jaD [0,1,2,3,4,5,6,7,8,9] [9] Ext (jae (fun z=>z=w.heap.size)) ExtR ExtT (fun x y z h k=>jae.trans h k) (fun x y h=>h.mono (fun _ _ h=>h.elim)) vY vY vY ?_;iterate 3 refine vD ?_
 refine qDL ⟨b,o,none⟩ _ rfl (fun w1 h1=>jab Tryz.uStr rfl (jaw (jaa (jaa Q1.o HE1.o) (jaj W1)) h1 NB.o)) ?_;refine vS ?_;iterate 3 refine vD ?_
 refine qDL ⟨b,o+1,none⟩ _ rfl (fun w1 h1=>jab Tryz.uStr rfl (jaw (jaa (jaa Q2.o HE1.o) (jaj W1)) h1 NB.o)) ?_;refine vS ?_
 refine vD ?_
 refine qDH _ rfl (fun w2 he K hK=>?_);refine jkl (vs:=jad.cells ⟨1,x,y,jam 16⟩) rfl rfl rfl ((HB1.o.keeps (jaj W1) (fun h=>h)).keeps he (fun h=>h)) rfl Tryz.szNode (jad.one _) ?_;intro W3 hB3 hE3;have HE3:=Hd (((HE1.o.trans (jaj W1)).trans he).trans' hE3 (fun x hx e=>by have e:x=w.heap.size:=e;omega));have HB3:=Hd hB3;refine hK _ _ hE3 ?_;clear hK K he hB3 hE3;refine qDE (fun w4 he=>?_);have HB4:=Hd (HB3.o.keeps he (fun h=>h));have HE4:=Hd (HE3.o.trans he);clear he;go_wp2_with fail
 refine bodyPost_ret (jbE rfl rfl (jap w4 _ (jad.mk 1 x y (jam 16)) rfl HB4.o)) rfl ?_
 exact⟨rfl,HE4.o⟩
theorem jqY(f:Nat)(l:List Pair)(h2:2<=l.length)(hln:l.length<=1000)(hok:jaA (f+1) l)(hk:0 < comK l)(hB:jfO (jal (comK l) l) (jav (jac f) (jal (comK l) l)))(hok':jaA f (jal (comK l) l)):jfO l (jav (jac (f+1)) l):=by
 intro w v hv;have HV:=Hd hv;have HO:=Hd hok;have HO':=Hd hok';have HB:=Hd hB;have HCF:=Hd (jjq hok h2);have HUN:=Hd (jlL hok h2);have hall:=jbu hok h2;have HSZ:Hid (∀ p∈l,p.1.size<=1000000):=(fun p hp=>Nat.le_trans (hok.size p hp).2.1 vI);have hps:((l.getD 0 pd).1.extract 0 (comK l)).size=comK l:=by
  have hm0:l.getD 0 pd∈l:=by
   rw[List.getD_eq_getElem?_getD,List.getElem?_eq_getElem vO];exact List.getElem_mem _
  rw[ByteArray.size_extract];have:=(hall _ hm0).2;omega
 have hk12:comK l<=12:=by
  have hm0:l.getD 0 pd∈l:=by
   rw[List.getD_eq_getElem?_getD,List.getElem?_eq_getElem vO];exact List.getElem_mem _
  exact Nat.le_trans (hall _ hm0).2 (hok.size _ hm0).2.1
 have hnode:jav (jac (f+1)) l=⟨2,(l.getD 0 pd).1.extract 0 (comK l),⟨#[]⟩,refB (jac (f+1) (jal (comK l) l)).text :: jam 15⟩:=by
  unfold jav;rw[if_neg vO,if_neg vO,if_pos hk]
 rw[hnode]
 obtain⟨p,hp⟩:=vE ((l.getD 0 pd).1.extract 0 (comK l))
 rw[<-hp]at HCF HUN hps ⊢
 obtain⟨r,hr⟩:=vE (refB (jac (f+1) (jal (comK l) l)).text)
 have HR:=Hd (jrE f _ hB hok');rw[<-hr]at HR ⊢;have HPZ:=Hd (show 0 < p.size/\p.size<=12 by omega);have hco:=fun W (e:Ext w W)=>jmC W v l (hv.ext e) (fun e=>by rw[e]at h2;simp at h2) vO HSZ.o;rw[HCF.o]at hco;have HCO:=Hd hco;clear hco
 obtain⟨a0,c0,rfl⟩:=hv.sl;have g0:¬(l.length:Int)=0:=by omega
 have g1:¬(l.length:Int)=1:=by omega
 clear hv hok hok' hB hall hps hk12 hnode hp hr hk;go_enter Tryz.func122,Tryz.ntmps122;go_wp2_with (refine jah Tryz.allocNode rfl rfl ?_;intro W1 hB1 hE1)
 have HB1:=Hd hB1;have HE1:=Hd hE1;clear hB1 hE1;refine vC (HCO.o W1 HE1.o) fun w2 hE=>?_;have HE2:=Hd (HE1.o.trans hE);have HB2:=Hd (HB1.o.keeps hE (fun h=>h));clear hE HE1 HB1 HCO;have hpe:p.toList.isEmpty=false:=by
  rw[ByteArray.toList_eq];cases h:p.data.toList with
  | nil=>have:=HPZ.o.1;have e:p.data.toList.length=p.size:=rfl;rw[h]at e;simp at e;omega
  | cons=>rfl
 go_wp2_with (first |(refine jah Tryz.allocNode rfl rfl ?_;intro W3 hB3 hE3) |(refine jag (vs:=jad.cells ⟨2,p,⟨#[]⟩,jam 16⟩) rfl rfl rfl rfl hB3 rfl Tryz.szNode (jad.one _) ?_;intro W4 hB4 hE4))
 obtain⟨gr,hgr⟩:=vE w.heap.size
 obtain⟨gn,hgn⟩:=vE w2.heap.size
 have HGN:=Hd (show gr≠gn/\w.heap.size<=gr/\w.heap.size<=gn from by have:=HB2.o.lt;have:=HE2.o.size;omega);have HX4:=Hd ((HE2.o.trans hE3).trans' hE4 (fun x hx e=>by have e:x=w2.heap.size:=e;have:=HE2.o.size;omega));have HR4:=Hd ((HB2.o.keeps hE3 (fun h=>h)).keeps hE4 (by have:=HB2.o.lt;omega));have HN4:=Hd hB4;rw[<-hgr]at HR4 ⊢;rw[<-hgn]at HN4 ⊢;clear hB3 hE3 hB4 hE4 hgr hgn HB2;refine (jgc W4 _ l p (HV.o.ext HX4.o) vO HSZ.o (by have:=HPZ.o.2;omega)).mono ?_;rintro e w5 ⟨u,rfl,hU⟩;rw[HUN.o]at hU
 obtain⟨a5,c5,rfl⟩:=hU.sl
 have HU:=Hd hU;clear hU;go_wp2_with fail
 refine vC (HR.o w5 _ (ERow.rd HU.o)) fun w6 hE=>?_;have HE6:=Hd (HU.o.ext.trans hE);have HN6:=Hd (HN4.o.keeps HE6.o (fun h=>h));have HR6:=Hd (HR4.o.keeps HE6.o (fun h=>h));clear hE;have k3:=HN6.o.cellL (i:=3) (v:=.string ⟨#[]⟩) rfl;have f3:w6.frozen? ⟨gn,3,none⟩=false:=HN6.o.frozen;have hN7:Blk (w6.setCell ⟨gn,3,none⟩ (.string r)) gn (.cells (jad.cells ⟨2,p,⟨#[]⟩,r :: jam 15⟩).toArray 144):=HN6.o.set_same (i:=3) (.string r);have HK7:=Hd ((jae.refl (fun z=>z=gn) w6).setCell (p:=⟨gn,3,none⟩) (.inl rfl) (.string r));have hR7:=HR6.o.keeps HK7.o HGN.o.1;have hld:=jan _ gn ⟨2,p,⟨#[]⟩,r :: jam 15⟩ rfl hN7;unfold jad.V at hld;clear hN7;go_wp2_with (first |(refine jaf 144 (.tmp 4) rfl rfl _ _ rfl hld ?_) |(refine jag (vs:=jad.cells ⟨2,p,⟨#[]⟩,r :: jam 15⟩) rfl rfl rfl rfl hR7 rfl Tryz.szNode (jad.one _) ?_;intro W12 hB12 hE12))
 refine bodyPost_ret (jbE rfl rfl (jap W12 _ ⟨2,p,⟨#[]⟩,r :: jam 15⟩ rfl hB12)) rfl ?_;have hz:=HGN.o
 exact⟨rfl,((HX4.o.trans HE6.o).trans' HK7.o (fun x hx e=>by have e:x=gn:=e;omega)).trans' hE12 (fun x hx e=>by have e:x=gr:=e;omega)⟩
end
end Go.Proofs.YtcpnjmcipainpaaGreatDoor
