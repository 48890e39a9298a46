/- Parts of the proof, one behind the other: NodeR, NodeS, RlpS, RlpT, RlpU, RlpV, RlpW, RlpX, RlpY, RlpZ, NodeU, joP, RlpZb, RlpZa, RlpZc, RlpZd. Each is under no condition but those that it states. -/
import Derived.Test.YtcpnjmcipainpaaGreatDoorPa27
import Derived.Test.YtcpnjmcipainpaaGreatDoorPa30
import Derived.Test.YtcpnjmcipainpaaGreatDoorPa16
import Derived.Test.YtcpnjmcipainpaaGreatDoorPa29
import Derived.Test.YtcpnjmcipainpaaGreatDoorPa6
import Derived.Test.YtcpnjmcipainpaaGreatDoorPa13
import Derived.Test.YtcpnjmcipainpaaGreatDoorPa15
import Derived.Test.YtcpnjmcipainpaaGreatDoorPa28
import Derived.Test.YtcpnjmcipainpaaGreatDoorPa17
import Derived.RangeFuncCalls
namespace Go.Proofs.YtcpnjmcipainpaaGreatDoor
set_option linter.unusedSimpArgs false
set_option linter.unusedVariables false
set_option maxRecDepth 100000
set_option maxHeartbeats 16000000
section
open Go Go.RowKit
def jkq(g:ByteArray × Bool × Bool)(o:Option ByteArray)(y:ByteArray):jac × Bool:=
 if g.2.2=true then
  if g.2.1=true then (⟨1,g.1,o.getD ⟨#[]⟩,jau 16⟩,o.isSome)else (⟨2,g.1,⟨#[]⟩,y :: jau 15⟩,true)
 else (jar,false)
def jfB(x y:ByteArray):jac × Bool:=match jcK x with
 | none=>(jar,false)
 | some b=>jkq (jfZ b) (jcK y) y
def jrb(y:ByteArray)(m:jac):Prop:=(∃ p v,m=⟨1,p,v,jau 16⟩∧jbc p=true∧p.size≤1000000∧v.size≤1000000)∨(∃ p,m=⟨2,p,⟨#[]⟩,y :: jau 15⟩∧jbc p=true∧p.size≤1000000)
def jik(w:World)(x y:ByteArray)(e:Ending)(w':World):Prop:=e=.returned (.tuple #[(jfB x y).1.V,.bool (jfB x y).2])∧Ext w w'
theorem jda{s b:ByteArray}(h:jcK s=some b):b.size≤s.size:=by
 unfold jcK at h;split at h
 ·unfold jcZ at h
  split at h
  ·obtain rfl:=Option.some.inj h
   rw[ByteArray.size_extract];omega
  ·cases h
 ·cases h
theorem jmc(x y:ByteArray):(jfB x y).1.refs.length=16:=by
 unfold jfB;split
 ·rfl
 ·unfold jkq
  split
  ·split <;> rfl
  ·rfl
theorem jnV{x y:ByteArray}(hx:x.size≤500000)(hy:y.size≤1000000)(h:(jfB x y).2=true):jrb y (jfB x y).1:=by
 unfold jfB at h ⊢;split at h
 ·cases h
 ·rename_i b hb
  have hbs:=jda hb
  obtain⟨h1,h2⟩:=jnN b
  unfold jkq at h ⊢;split at h
  ·rename_i h3
   rw[if_pos h3];split at h
   ·rename_i h4
    rw[if_pos h4];cases hv:jcK y with
    | none=>rw[hv]at h;cases h
    | some v=>exact .inl ⟨_,v,rfl,h1,by omega,by have:=jda hv;omega⟩
   ·rename_i h4
    rw[if_neg h4];exact .inr ⟨_,rfl,h1,by omega⟩
  ·cases h
theorem jkr(w:World)(x y:ByteArray)(hx:x.size≤1000000)(h:jcK x=none):Calls Tryz.prog 189 #[.string x,.string y] w (jik w x y):=by
 have HH:=Hd h;clear h;go_enter Tryz.func189,Tryz.ntmps189;go_wp2_with (refine jak Tryz.allocNode rfl rfl ?_;intro W1 hB1 hE1)
 refine (jeg _ x (by omega)).mono ?_;rintro e w2 ⟨rfl,hE⟩;rw[HH.o];have hB2:=hB1.keeps hE (fun h=>h);have HE2:=Hd (hE1.trans hE);clear hB1 hE1 hE;unfold optV;simp only;go_wp2_with (refine jaf (vs:=jar.cells) rfl rfl rfl rfl hB2 rfl Tryz.szNode (jac.one _) ?_;intro W8 hB8 hE8)
 refine bodyPost_ret (jag rfl rfl rfl (jal W8 _ jar rfl hB8)) rfl ?_;have e:jfB x y=(jar,false):=by unfold jfB;rw[HH.o]
 unfold jik;rw[e]
 exact⟨rfl,HE2.o.trans' hE8 (fun x hx e=>by have e:x=w.heap.size:=e;omega)⟩
theorem jnX(w:World)(x y b:ByteArray)(hx:x.size≤1000000)(hy:y.size≤1000000)(h:jcK x=some b):Calls Tryz.prog 189 #[.string x,.string y] w (jik w x y):=by
 have hb:=jda h;have HH:=Hd h
 obtain⟨g,hg⟩:∃ g,g=jfZ b:=⟨_,rfl⟩
 obtain⟨o,ho⟩:∃ o,o=jcK y:=⟨_,rfl⟩
 have HP:jik w x y=fun e w'=>e=.returned (.tuple #[(jkq g o y).1.V,.bool (jkq g o y).2])∧Ext w w':=by unfold jik jfB;rw[h,hg,ho]
 rw[HP];have HG:=Hd hg;have HO:=Hd ho;clear h hg HP ho
 obtain⟨p,leaf,ok⟩:=g
 unfold jkq;simp only;go_enter Tryz.func189,Tryz.ntmps189;go_wp2_with (refine jak Tryz.allocNode rfl rfl ?_;intro W1 hB1 hE1)
 refine (jeg _ x (by omega)).mono ?_;rintro e w2 ⟨rfl,hE⟩;rw[HH.o];have HE2:=Hd (hE1.trans hE);have HB2:=Hd (hB1.keeps hE (fun h=>h));clear hB1 hE1 hE;unfold optV;simp only;go_wp2_with fail
 refine (jnO _ b (by omega)).mono ?_;rintro e w3 ⟨rfl,hE⟩;rw[←HG.o];simp only;have HE3:=Hd (HE2.o.trans hE);have HB3:=Hd (HB2.o.keeps hE (fun h=>h));clear hE HE2 HB2;cases ok with
 | false =>
  have hB3:=HB3.o;go_wp2_with (refine jaf (vs:=jar.cells) rfl rfl rfl rfl hB3 rfl Tryz.szNode (jac.one _) ?_;intro W8 hB8 hE8)
  refine bodyPost_ret (jag rfl rfl rfl (jal W8 _ jar rfl hB8)) rfl ?_
  exact⟨rfl,HE3.o.trans' hE8 (fun x hx e=>by have e:x=w.heap.size:=e;omega)⟩
 | true =>
  cases leaf with
  | true =>
   go_wp2_with fail
   refine (jeg _ y (by omega)).mono ?_;rintro e w4 ⟨rfl,hE⟩;have HE4:=Hd (HE3.o.trans hE);have hB4:=HB3.o.keeps hE (fun h=>h);clear hE HE3 HB3;rw[←HO.o];cases o with
   | none =>
    unfold optV;simp only;go_wp2_with (refine jaf (vs:=jcB 1 p ⟨#[]⟩ ⟨#[]⟩) rfl rfl rfl rfl hB4 rfl Tryz.szNode (jbx _ _ _ _) ?_;intro W5 hB5 hE5)
    refine bodyPost_ret (jag rfl rfl rfl (jal W5 _ ⟨1,p,⟨#[]⟩,jau 16⟩ rfl hB5)) rfl ?_
    exact⟨rfl,HE4.o.trans' hE5 (fun x hx e=>by have e:x=w.heap.size:=e;omega)⟩
   | some v =>
    unfold optV;simp only;go_wp2_with (refine jaf (vs:=jcB 1 p v ⟨#[]⟩) rfl rfl rfl rfl hB4 rfl Tryz.szNode (jbx _ _ _ _) ?_;intro W5 hB5 hE5)
    refine bodyPost_ret (jag rfl rfl rfl (jal W5 _ ⟨1,p,v,jau 16⟩ rfl hB5)) rfl ?_
    exact⟨rfl,HE4.o.trans' hE5 (fun x hx e=>by have e:x=w.heap.size:=e;omega)⟩
  | false =>
   go_wp2_with (first |(refine jak Tryz.allocNode rfl rfl ?_;intro W5 hB5 hE5;refine jaf (vs:=jcB 2 p ⟨#[]⟩ ⟨#[]⟩) rfl rfl rfl rfl hB5 rfl Tryz.szNode (jbx _ _ _ _) ?_;intro W6 hB6 hE6;have q3:W6.cell? ⟨w3.heap.size,3,none⟩=some (.string ⟨#[]⟩):=hB6.cell (i:=3) (by rfl);have f3:W6.frozen? ⟨w3.heap.size,3,none⟩=false:=hB6.frozen;have HB7:=Hd (hB6.set_same (i:=3) (.string y))) |(refine jah 144 (.tmp 10) rfl rfl _ _ rfl (jap _ _ ⟨2,p,⟨#[]⟩,y :: jau 15⟩ rfl HB7.o) ?_;refine jaf (vs:=jac.cells ⟨2,p,⟨#[]⟩,y :: jau 15⟩) rfl rfl rfl rfl (((HB3.o.keeps hE5 (fun h=>h)).keeps hE6 (by have:=HB3.o.lt;omega)).set_other (p:=⟨w3.heap.size,3,none⟩) (by have:=HB3.o.lt;show w.heap.size≠w3.heap.size;omega) (.string y)) rfl Tryz.szNode (jac.one _) ?_;intro W8 hB8 hE8))
   refine bodyPost_ret (jag rfl rfl rfl (jal W8 _ ⟨2,p,⟨#[]⟩,y :: jau 15⟩ rfl hB8)) rfl ?_;have k1:Ext w3 (W6.setCell ⟨w3.heap.size,3,none⟩ (.string y)):=(hE5.trans' hE6 (fun x hx e=>by have e:x=w3.heap.size:=e;omega)).setCell (.inr (Nat.le_refl _)) _
   exact⟨rfl,(HE3.o.trans k1).trans' hE8 (fun x hx e=>by have e:x=w.heap.size:=e;omega)⟩
theorem jnW(w:World)(x y:ByteArray)(hx:x.size≤1000000)(hy:y.size≤1000000):Calls Tryz.prog 189 #[.string x,.string y] w (jik w x y):=by
 cases h:jcK x with
 | none=>exact jkr w x y hx h
 | some b=>exact jnX w x y b hx hy h
def jdV(rs:List ByteArray)(z:ByteArray):List ByteArray:=rs.map (fun r=>if r.size=0 then jaq ⟨#[]⟩else r)++[z]
def jkM(w:World)(rs:List ByteArray)(z:ByteArray)(e:Ending)(w':World):Prop:=RdNo w e w'∨∃ v,jcK z=some v∧e=.returned (.tuple #[(⟨3,⟨#[]⟩,v,rs⟩:jac).V,.bool true])∧Ext w w'
theorem jjV(w:World)(a:Value)(rs:List ByteArray)(z:ByteArray)(hr:rs.length=16)(hz:z.size≤1000000)(hne:∀ r∈rs,r.size≠0→r≠jaq ⟨#[]⟩)(ha:RdS w a (jdV rs z)):Calls Tryz.prog 190 #[a] w (jkM w rs z):=by
 have hxl:(jdV rs z).length=17:=by simp[jdV,hr]
 rcases ha with⟨_,_,_,h0⟩ |⟨b,o,c,rfl,hb,hc,hcell⟩
 ·rw[h0]at hxl;cases hxl
 rw[hxl]at hc ⊢;have hit:∀ (k:Nat) r,rs[k]?=some r→w.cell? ⟨b,o+k,none⟩=some (.string (if r.size=0 then jaq ⟨#[]⟩else r)):=fun k r hk=>hcell k _ (by
  unfold jdV;rw[List.getElem?_append_left (by rw[List.length_map];exact (List.getElem?_eq_some_iff.1 hk).1),List.getElem?_map,hk];rfl)
 have hiv:w.cell? ⟨b,o+16,none⟩=some (.string z):=hcell 16 _ (by
  unfold jdV;rw[List.getElem?_append_right (by rw[List.length_map];omega),List.length_map,hr];rfl)
 have HIT:=Hd hit;have HIV:=Hd hiv;have HR:=Hd hr;have HNE:=Hd hne;clear hit hiv hxl hcell hr hne;go_enter Tryz.func190,Tryz.ntmps190;go_wp2_with (first |(refine jak Tryz.allocNode rfl rfl ?_;intro W3 hB3 hE3;refine jaf (vs:=jcB 3 ⟨#[]⟩ ⟨#[]⟩ ⟨#[]⟩) rfl rfl rfl rfl hB3 rfl Tryz.szNode (jbx _ _ _ _) ?_;intro W4 hB4 hE4) |(refine jak Tryz.allocNode rfl rfl ?_;intro W1 hB1 hE1))
 have h4:Ext w W4:=(hE1.trans hE3).trans' hE4 (fun x hx e=>by have e:x=W1.heap.size:=e;have:=hE1.size;omega);have h5:=(hB1.keeps hE3 (fun h=>h)).keeps hE4 (by have:=hB1.lt;omega)
 obtain⟨g4,hg4⟩:∃ g,g=W1.heap.size:=⟨_,rfl⟩
 obtain⟨g2,hg2⟩:∃ g,g=w.heap.size:=⟨_,rfl⟩
 have n24:g2 < g4:=by have:=hB1.lt;omega
 have n2:w.heap.size≤g2:=by omega
 rw[←hg4]at hB4 ⊢;rw[←hg2]at h5 ⊢;have HE4:=Hd h4;have HB4:=Hd hB4;have H5:=Hd h5;clear hg4 hg2 h4 h5 hB4 hE1 hB1 hB3 hE3 hE4;go_loopw [9] (fun i wr=>joq w g2 g4 rs i wr) (fun i _=>16 - (intOf i).toNat)
 case atStart=>exact⟨0,by omega,rfl,HE4.o,H5.o,HB4.o⟩
 case round =>
  obtain⟨k,hk,rfl,hE,hB2,hB4⟩:=hrel
  have HE:=Hd hE;have HB2:=Hd hB2;have HB4:=Hd hB4;clear hE hB2 hB4
  by_cases hlt:k < 16
  ·obtain⟨r,hri⟩:∃ r,rs[k]?=some r:=⟨_,List.getElem?_eq_getElem (by have:=HR.o;omega)⟩
   have qx:=jab (HIT.o k r hri) HE.o;have b1:(k:Int) < 17:=by omega
   have hmem:r∈rs:=List.mem_of_getElem? hri
   obtain⟨em,hem⟩:∃ em,em=jaq ⟨#[]⟩:=⟨_,rfl⟩
   rw[←hem]at qx;have HEM:=Hd hem;have HRI:=Hd hri;clear hem hri
   by_cases h0:r.size=0
   ·rw[if_pos h0]at qx
    have QX:=Hd qx;clear qx;go_wp2_with fail
    refine jas [0,1,2,3,4,5] Ext ExtR ExtT (by kernel_rfl) (by kernel_rfl) (by kernel_rfl) ?_;iterate 3 (refine jai _ rfl (by kernel_rfl) rfl rfl (fun K hK=>?_);go_big_quiet_op;refine hK _ ?_;clear hK K)
    refine jan ⟨b,o+k,none⟩ _ rfl (by kernel_rfl) rfl rfl (fun w2 h2=>jaa Tryz.uStr rfl (jab (by exact QX.o) h2)) ?_;simp only[Act.put,sA,sB,sC];refine jaN _ 160 #[.string ⟨#[]⟩] (.string em) rfl (by kernel_rfl) rfl (fun w1=>jaw Tryz.enterText (by kernel_rfl)) (fun w1 h1=>by rw[HEM.o];exact jbN w1 ⟨#[]⟩ (by decide)) ?_;simp only[Act.put,sA,sB,sC]
    (refine jai _ rfl (by kernel_rfl) rfl rfl (fun K hK=>?_);go_big_quiet_op;refine hK _ ?_;clear hK K)
    refine jaU (by kernel_rfl) (fun w3 he=>?_);have hX:=(jav wr).trans he;have HE3:=Hd (HE.o.trans hX);have HB3:=Hd (HB2.o.keeps hX (fun h=>h));have HB5:=Hd (HB4.o.keeps hX (fun h=>h));clear he hX;go_wp2_with fail
    go_roundw
    case rel=>exact⟨k+1,by omega,by go_num,HE3.o,HB3.o,by rw[jiV HR.o hlt r HRI.o h0];exact HB5.o⟩
    case measure=>simp[intOf];omega
   ·rw[if_neg h0]at qx
    have hq:(r.toList == em.toList)=false:=by
     rw[beq_eq_false_iff_ne,ByteArray.toList_eq,ByteArray.toList_eq];intro e;exact HNE.o r hmem h0 (by rw[←HEM.o];exact ByteArray.ext (Array.ext' e))
    have QX:=Hd qx;clear qx;go_wp2_with fail
    refine jas [0,1,2,3,4,5] Ext ExtR ExtT (by kernel_rfl) (by kernel_rfl) (by kernel_rfl) ?_;iterate 3 (refine jai _ rfl (by kernel_rfl) rfl rfl (fun K hK=>?_);go_big_quiet_op;refine hK _ ?_;clear hK K)
    refine jan ⟨b,o+k,none⟩ _ rfl (by kernel_rfl) rfl rfl (fun w2 h2=>jaa Tryz.uStr rfl (jab (by exact QX.o) h2)) ?_;simp only[Act.put,sA,sB,sC];refine jaN _ 160 #[.string ⟨#[]⟩] (.string em) rfl (by kernel_rfl) rfl (fun w1=>jaw Tryz.enterText (by kernel_rfl)) (fun w1 h1=>by rw[HEM.o];exact jbN w1 ⟨#[]⟩ (by decide)) ?_;simp only[Act.put,sA,sB,sC]
    (refine jai _ rfl (by kernel_rfl) rfl rfl (fun K hK=>?_);go_big_quiet_op;refine hK _ ?_;clear hK K)
    refine jaU (by kernel_rfl) (fun w3 he=>?_);have hX:=(jav wr).trans he;have HE3:=Hd (HE.o.trans hX);have HB3:=Hd (HB2.o.keeps hX (fun h=>h));have HB5:=Hd (HB4.o.keeps hX (fun h=>h));have qx:=jab QX.o hX
    obtain⟨old,q4⟩:∃ v,w3.cell? ⟨g4,3+k,none⟩=some v:=⟨_,HB5.o.cellL (List.getElem?_eq_getElem (by rw[jac.cells_len _ (jio HR.o hk)];omega))⟩
    have f4:w3.frozen? ⟨g4,3+k,none⟩=false:=HB5.o.frozen;have b2:(k:Int) < 16:=by omega
    clear he hX;go_wp2_with fail
    go_roundw
    case rel =>
     refine⟨k+1,by omega,by go_num,HE3.o.setCell (.inr (by show w.heap.size≤g4;omega)) _,HB3.o.set_other (p:=⟨g4,3+k,none⟩) (by show g2≠g4;omega) _,?_⟩
     have:=HB5.o.set_same (i:=3+k) (.string r)
     rw[show (brN rs k).cells.toArray.setIfInBounds (3+k) (.string r)=((brN rs k).cells.set (3+k) (.string r)).toArray by simp,jip HR.o hlt r HRI.o]at this;exact this
    case measure=>simp[intOf];omega
  ·have hk16:k=16:=by omega
   subst hk16;have qx:=jab HIV.o HE.o;go_wp2_with fail
   refine (jeg _ z (by omega)).mono ?_;rintro e w4 ⟨rfl,hE⟩
   obtain⟨o,ho⟩:∃ o,o=jcK z:=⟨_,rfl⟩
   rw[←ho]
   obtain⟨v,hv⟩:∃ v,v=o.getD ⟨#[]⟩:=⟨_,rfl⟩
   have hb4:=HB4.o.keeps hE (fun h=>h);have q4:w4.cell? ⟨g4,2,none⟩=some (.string ⟨#[]⟩):=hb4.cellL (by rfl);have f4:w4.frozen? ⟨g4,2,none⟩=false:=hb4.frozen;have HB5:=Hd (hb4.set_same (i:=2) (.string v));have hb2:=(HB2.o.keeps hE (fun h=>h)).set_other (p:=⟨g4,2,none⟩) (by show g2≠g4;omega) (.string v);have HB6:=Hd hb2;have HE4:=Hd (HE.o.trans hE);have e16:brN rs 16=⟨3,⟨#[]⟩,⟨#[]⟩,rs⟩:=by unfold brN jau;rw[List.take_of_length_le (by have:=HR.o;omega)];simp
   rw[e16]at HB5;have ec:(jac.cells ⟨3,⟨#[]⟩,⟨#[]⟩,rs⟩).toArray.setIfInBounds 2 (.string v)=(jac.cells ⟨3,⟨#[]⟩,v,rs⟩).toArray:=by simp[jac.cells]
   rw[ec]at HB5;clear hE hb4 hb2 qx ec e16;cases o with
   | none =>
    change v=⟨#[]⟩at hv;subst hv;clear ho;unfold optV;go_wp2_with (first |(refine jah 144 (.tmp 4) rfl rfl _ _ rfl (jap _ _ ⟨3,⟨#[]⟩,⟨#[]⟩,rs⟩ HR.o HB5.o) ?_) |(refine jaf (vs:=jac.cells ⟨3,⟨#[]⟩,⟨#[]⟩,rs⟩) rfl rfl rfl rfl HB6.o (by rw[jac.cells_len ⟨3,⟨#[]⟩,⟨#[]⟩,rs⟩ HR.o];rfl) (by rw[jac.cells_len ⟨3,⟨#[]⟩,⟨#[]⟩,rs⟩ HR.o];exact Tryz.szNode) (jac.one _) ?_;intro W8 hB8 hE8))
    refine bodyPost_ret (jag rfl rfl rfl (jal W8 _ ⟨3,⟨#[]⟩,⟨#[]⟩,rs⟩ HR.o hB8)) rfl ?_;exact .inl ⟨_,HR.o,rfl,(HE4.o.setCell (.inr (by show w.heap.size≤g4;omega)) _).trans' hE8 (fun x hx e=>by have e:x=g2:=e;omega)⟩
   | some u =>
    change v=u at hv;subst hv;have HO:=Hd ho.symm;clear ho;unfold optV;go_wp2_with (first |(refine jah 144 (.tmp 4) rfl rfl _ _ rfl (jap _ _ ⟨3,⟨#[]⟩,v,rs⟩ HR.o HB5.o) ?_) |(refine jaf (vs:=jac.cells ⟨3,⟨#[]⟩,v,rs⟩) rfl rfl rfl rfl HB6.o (by rw[jac.cells_len ⟨3,⟨#[]⟩,v,rs⟩ HR.o];rfl) (by rw[jac.cells_len ⟨3,⟨#[]⟩,v,rs⟩ HR.o];exact Tryz.szNode) (jac.one _) ?_;intro W8 hB8 hE8))
    refine bodyPost_ret (jag rfl rfl rfl (jal W8 _ ⟨3,⟨#[]⟩,v,rs⟩ HR.o hB8)) rfl ?_;exact .inr ⟨v,HO.o,rfl,(HE4.o.setCell (.inr (by show w.heap.size≤g4;omega)) _).trans' hE8 (fun x hx e=>by have e:x=g2:=e;omega)⟩
theorem jhn(xs:List ByteArray)(hl:xs.length=17)(h0:∀ x∈xs,x.size≠0):∃ rs z,xs=jdV rs z∧rs.length=16∧(∀ r∈rs,r.size≠0→r≠jaq ⟨#[]⟩)∧(∀ r∈rs,r=⟨#[]⟩∨r∈xs)∧z∈xs:=by
 obtain⟨ys,z,rfl⟩:∃ ys z,xs=ys++[z]:=⟨xs.dropLast,xs.getLast (by intro e;rw[e]at hl;cases hl),(List.dropLast_concat_getLast _).symm⟩
 refine⟨ys.map (fun x=>if x=jaq ⟨#[]⟩then ⟨#[]⟩else x),z,?_,?_,fun r hr h e=>?_,fun r hr=>?_,by simp⟩
 ·unfold jdV
  rw[List.map_map]
  congr 1
  refine (List.map_id' ys).symm.trans (List.map_congr_left fun x hx=>?_);show x=if (if x=jaq ⟨#[]⟩then (⟨#[]⟩:ByteArray)else x).size=0 then jaq ⟨#[]⟩else (if x=jaq ⟨#[]⟩then (⟨#[]⟩:ByteArray)else x)
  by_cases hx':x=jaq ⟨#[]⟩
  ·rw[if_pos hx',if_pos (show (⟨#[]⟩:ByteArray).size=0 from rfl)];exact hx'
  ·rw[if_neg hx',if_neg (h0 x (by simp[hx]))]
 ·rw[List.length_map];simpa using hl
 ·obtain⟨x,_,hx⟩:=List.mem_map.1 hr
  by_cases hx':x=jaq ⟨#[]⟩
  ·rw[if_pos hx']at hx;rw[←hx]at h;exact h rfl
  ·rw[if_neg hx']at hx;rw[hx]at hx';exact hx' e
 ·obtain⟨x,hm,hx⟩:=List.mem_map.1 hr
  by_cases hx':x=jaq ⟨#[]⟩
  ·rw[if_pos hx']at hx;exact .inl hx.symm
  ·rw[if_neg hx']at hx;rw[←hx];exact .inr (by simp[hm])
end
section
open Go Go.RowKit
attribute [local go_sem] Oper.semAt_some
theorem Tryz.valueOfP(w:World)(b:Nat):(callFunc 258 #[.iface 329 (.pointer (some ⟨b,0,none⟩))]).run Tryz.prog w=.ok (.value (.agg #[.pointer (some ⟨3,329,none⟩),.pointer (some ⟨w.heap.size,0,none⟩),.int .u64 150])) (w.alloc (.cells #[.pointer (some ⟨b,0,none⟩)] 329)):=by kernel_rfl
theorem Tryz.valueOfE(w:World)(b:Nat):(callFunc 258 #[.iface 330 (.pointer (some ⟨b,0,none⟩))]).run Tryz.prog w=.ok (.value (.agg #[.pointer (some ⟨3,330,none⟩),.pointer (some ⟨w.heap.size,0,none⟩),.int .u64 150])) (w.alloc (.cells #[.pointer (some ⟨b,0,none⟩)] 330)):=by kernel_rfl
theorem Tryz.valueOfF(w:World)(b:Nat):(callFunc 258 #[.iface 324 (.pointer (some ⟨b,0,none⟩))]).run Tryz.prog w=.ok (.value (.agg #[.pointer (some ⟨3,324,none⟩),.pointer (some ⟨w.heap.size,0,none⟩),.int .u64 150])) (w.alloc (.cells #[.pointer (some ⟨b,0,none⟩)] 324)):=by kernel_rfl
theorem Tryz.valueOfN(w:World)(n:Int):(callFunc 258 #[.iface 27 (.int .i64 n)]).run Tryz.prog w=.ok (.value (.agg #[.pointer (some ⟨3,27,none⟩),.pointer (some ⟨w.heap.size,0,none⟩),.int .u64 130])) (w.alloc (.cells #[.int .i64 n] 27)):=by kernel_rfl
theorem Tryz.typeOfVP(w:World)(a:Nat):(callFunc 259 #[.agg #[.pointer (some ⟨3,329,none⟩),.pointer (some ⟨a,0,none⟩),.int .u64 150]]).run Tryz.prog w=.ok (.value (.iface 269 (.agg #[.pointer (some ⟨3,329,none⟩)]))) w:=by kernel_rfl
theorem Tryz.typeOfVE(w:World)(a:Nat):(callFunc 259 #[.agg #[.pointer (some ⟨3,330,none⟩),.pointer (some ⟨a,0,none⟩),.int .u64 150]]).run Tryz.prog w=.ok (.value (.iface 269 (.agg #[.pointer (some ⟨3,330,none⟩)]))) w:=by kernel_rfl
theorem Tryz.elemTP(w:World):(callFunc 297 #[.agg #[.pointer (some ⟨3,329,none⟩)]]).run Tryz.prog w=.ok (.value (.iface 269 (.agg #[.pointer (some ⟨3,327,none⟩)]))) w:=by kernel_rfl
theorem Tryz.elemTE(w:World):(callFunc 297 #[.agg #[.pointer (some ⟨3,330,none⟩)]]).run Tryz.prog w=.ok (.value (.iface 269 (.agg #[.pointer (some ⟨3,27,none⟩)]))) w:=by kernel_rfl
theorem Tryz.toAt(w:World):(callFunc 295 #[.agg #[.pointer (some ⟨3,324,none⟩)],.iface 269 (.agg #[.pointer (some ⟨3,327,none⟩)])]).run Tryz.prog w=.ok (.value (.bool true)) w:=by kernel_rfl
theorem Tryz.toErr(w:World):(callFunc 295 #[.agg #[.pointer (some ⟨3,324,none⟩)],.iface 269 (.agg #[.pointer (some ⟨3,27,none⟩)])]).run Tryz.prog w=.ok (.value (.bool false)) w:=by kernel_rfl
theorem Tryz.toErr2(w:World):(callFunc 295 #[.agg #[.pointer (some ⟨3,27,none⟩)],.iface 269 (.agg #[.pointer (some ⟨3,27,none⟩)])]).run Tryz.prog w=.ok (.value (.bool true)) w:=by kernel_rfl
theorem Tryz.typeOfF(v:Value)(w:World):(callFunc 154 #[.iface 324 v]).run Tryz.prog w=.ok (.value (.iface 269 (.agg #[.pointer (some ⟨3,324,none⟩)]))) w:=by kernel_rfl
theorem Tryz.typeOfN(v:Value)(w:World):(callFunc 154 #[.iface 27 v]).run Tryz.prog w=.ok (.value (.iface 269 (.agg #[.pointer (some ⟨3,27,none⟩)]))) w:=by kernel_rfl
theorem jba{P:Program}{t:TypeId}{d:TypeDesc}(h:P.underlying t=some d)(hd:(match d with | .struct _ | .array _ _=>true | _=>false)=false){w:World}{a:Addr}{v:Value}(hc:w.cell? a=some v):(loadVar t a).run P w=.ok v w:=by
 have:(isAgg t).run P w=.ok false w:=by cases d <;> simp_all [isAgg,run_underlying h]
 simp[loadVar,Sem.run_bind,this,Result.andThen,hc]
theorem jfO{P:Program}{z:Sem Value}{f:TypeId→Addr→Nat→Nat→Sem Value}{v x:Value}{t:TypeId}{a:Addr}{fl:Nat}{w:World}(hp:(Extern.ReflectliteValue.parts v).run P w=.ok (some (t,a,fl)) w)(hf:(f t a fl (fl % 32)).run P w=.ok x w):(Extern.ReflectliteValue.method z f #[v]).run P w=.ok x w:=by
 show Sem.run P (Extern.ReflectliteValue.parts v >>= _) w=_;rw[Sem.run_bind,hp];exact hf
theorem jhL{w:World}{t:TypeId}{a p:Nat}(hl:(loadVar t ⟨a,0,none⟩).run Tryz.prog w=.ok (.pointer (some ⟨p,0,none⟩)) w)
  (hp:∀ w,(Extern.ReflectliteValue.parts (.agg #[.pointer (some ⟨3,t,none⟩),.pointer (some ⟨a,0,none⟩),.int .u64 150])).run Tryz.prog w=.ok (some (t,⟨a,0,none⟩,150)) w) :
  (callFunc 260 #[.agg #[.pointer (some ⟨3,t,none⟩),.pointer (some ⟨a,0,none⟩),.int .u64 150]]).run Tryz.prog w=.ok (.value (.bool false)) w:=by
 have h:=@run_callFunc_extern Tryz.prog 260 _ (Extern.ReflectliteValue.method (Extern.ReflectliteValue.valueError "reflectlite.Value.IsNil" 0) Extern.ReflectliteValue.isNil) Tryz.func260 (by kernel_rfl) (by kernel_rfl) (by kernel_rfl) (by kernel_rfl);rw[h];have hm:(Extern.ReflectliteValue.isNil t ⟨a,0,none⟩ 150 (150 % 32)).run Tryz.prog w=.ok (.bool false) w:=by
  simp[Extern.ReflectliteValue.isNil,Sem.run_bind,hl,Result.andThen,Sem.run_pure]
 rw[jfO (hp w) hm];rfl
theorem jif{w:World}{t e:TypeId}{a p k:Nat}(hl:(loadVar t ⟨a,0,none⟩).run Tryz.prog w=.ok (.pointer (some ⟨p,0,none⟩)) w)
  (hp:∀ w,(Extern.ReflectliteValue.parts (.agg #[.pointer (some ⟨3,t,none⟩),.pointer (some ⟨a,0,none⟩),.int .u64 150])).run Tryz.prog w=.ok (some (t,⟨a,0,none⟩,150)) w)
  (he:∀ w,(Extern.Rtype.elem? t).run Tryz.prog w=.ok (some e) w) (hk:∀ w,(Extern.ReflectliteValue.mk e ⟨p,0,none⟩ Extern.ReflectliteValue.flagAddr).run Tryz.prog w=.ok (.agg #[.pointer (some ⟨3,e,none⟩),.pointer (some ⟨p,0,none⟩),.int .u64 k]) w) :
  (callFunc 266 #[.agg #[.pointer (some ⟨3,t,none⟩),.pointer (some ⟨a,0,none⟩),.int .u64 150]]).run Tryz.prog w=.ok (.value (.agg #[.pointer (some ⟨3,e,none⟩),.pointer (some ⟨p,0,none⟩),.int .u64 k])) w:=by
 have h:=@run_callFunc_extern Tryz.prog 266 _ (Extern.ReflectliteValue.method (Extern.ReflectliteValue.valueError "reflectlite.Value.Elem" 0) Extern.ReflectliteValue.elem) Tryz.func266 (by kernel_rfl) (by kernel_rfl) (by kernel_rfl) (by kernel_rfl);rw[h];have hm:(Extern.ReflectliteValue.elem t ⟨a,0,none⟩ 150 (150 % 32)).run Tryz.prog w=.ok (.agg #[.pointer (some ⟨3,e,none⟩),.pointer (some ⟨p,0,none⟩),.int .u64 k]) w:=by
  simp[Extern.ReflectliteValue.elem,Sem.run_bind,hl,he,hk,Result.andThen,Sem.run_pure]
 rw[jfO (hp w) hm];rfl
theorem Tryz.partsP(a:Nat):∀ w,(Extern.ReflectliteValue.parts (.agg #[.pointer (some ⟨3,329,none⟩),.pointer (some ⟨a,0,none⟩),.int .u64 150])).run Tryz.prog w=.ok (some (329,⟨a,0,none⟩,150)) w:=fun w=>by kernel_rfl
theorem Tryz.partsE(a:Nat):∀ w,(Extern.ReflectliteValue.parts (.agg #[.pointer (some ⟨3,330,none⟩),.pointer (some ⟨a,0,none⟩),.int .u64 150])).run Tryz.prog w=.ok (some (330,⟨a,0,none⟩,150)) w:=fun w=>by kernel_rfl
theorem Tryz.elemP:∀ w,(Extern.Rtype.elem? 329).run Tryz.prog w=.ok (some 327) w:=fun w=>by kernel_rfl
theorem Tryz.elemE:∀ w,(Extern.Rtype.elem? 330).run Tryz.prog w=.ok (some 27) w:=fun w=>by kernel_rfl
theorem Tryz.mkP(p:Nat):∀ w,(Extern.ReflectliteValue.mk 327 ⟨p,0,none⟩ Extern.ReflectliteValue.flagAddr).run Tryz.prog w=.ok (.agg #[.pointer (some ⟨3,327,none⟩),.pointer (some ⟨p,0,none⟩),.int .u64 404]) w:=fun w=>by kernel_rfl
theorem Tryz.mkE(p:Nat):∀ w,(Extern.ReflectliteValue.mk 27 ⟨p,0,none⟩ Extern.ReflectliteValue.flagAddr).run Tryz.prog w=.ok (.agg #[.pointer (some ⟨3,27,none⟩),.pointer (some ⟨p,0,none⟩),.int .u64 386]) w:=fun w=>by kernel_rfl
theorem jeL{P:Program}{w:World}{t:TypeId}{b:Nat}{v old:Value}(hv:v.oneCell'=true)(hi:(P.info? t).map (·.size)=some 1)(hc:w.cell? ⟨b,0,none⟩=some old)(hf:w.frozen? ⟨b,0,none⟩=false):(storeVar t ⟨b,0,none⟩ v).run P w=.ok () (w.setCell ⟨b,0,none⟩ v):=by
 obtain⟨inf,hi1,hi2⟩:=Option.map_eq_some_iff.1 hi
 have hs:(storeCells ⟨b,0,none⟩ [v]).run P w=.ok () (w.setCell ⟨b,0,none⟩ v):=by
  rw[jfM,run_store P w _ v _ hv,hc,hf];rfl
 simp[storeVar,Sem.run_bind,Result.andThen,jhU hv,sizeOf,typeInfo,hi1,hi2,hs]
theorem Tryz.partsF(a:Nat):∀ w,(Extern.ReflectliteValue.parts (.agg #[.pointer (some ⟨3,324,none⟩),.pointer (some ⟨a,0,none⟩),.int .u64 150])).run Tryz.prog w=.ok (some (324,⟨a,0,none⟩,150)) w:=fun w=>by kernel_rfl
theorem Tryz.partsN(a:Nat):∀ w,(Extern.ReflectliteValue.parts (.agg #[.pointer (some ⟨3,27,none⟩),.pointer (some ⟨a,0,none⟩),.int .u64 130])).run Tryz.prog w=.ok (some (27,⟨a,0,none⟩,130)) w:=fun w=>by kernel_rfl
theorem Tryz.partsP2(a:Nat):∀ w,(Extern.ReflectliteValue.parts (.agg #[.pointer (some ⟨3,327,none⟩),.pointer (some ⟨a,0,none⟩),.int .u64 404])).run Tryz.prog w=.ok (some (327,⟨a,0,none⟩,404)) w:=fun w=>by kernel_rfl
theorem Tryz.partsE2(a:Nat):∀ w,(Extern.ReflectliteValue.parts (.agg #[.pointer (some ⟨3,27,none⟩),.pointer (some ⟨a,0,none⟩),.int .u64 386])).run Tryz.prog w=.ok (some (27,⟨a,0,none⟩,386)) w:=fun w=>by kernel_rfl
theorem jom{P:Program}{v x val:Value}{dst src:TypeId}{a b:Addr}{fl fl2:Nat}{w w':World}(hp1:(Extern.ReflectliteValue.parts v).run P w=.ok (some (dst,a,fl)) w)(hp2:(Extern.ReflectliteValue.parts x).run P w=.ok (some (src,b,fl2)) w)(hfl:(fl / Extern.ReflectliteValue.flagAddr % 2 == 0)=false)
  (hl:(loadVar src b).run P w=.ok val w) (hd:(Extern.Rtype.directlyAssignable dst src).run P w=.ok true w) (hst:(storeVar dst a val).run P w=.ok () w'):(Extern.ReflectliteValue.set #[v,x]).run P w=.ok (.tuple #[]) w':=by
 show Sem.run P (Extern.ReflectliteValue.parts v >>= _) w=_;rw[Sem.run_bind,hp1];show Sem.run P (Extern.ReflectliteValue.parts x >>= _) w=_;rw[Sem.run_bind,hp2];simp only[Result.andThen,hfl,Sem.run_bind,hl,hd,hst,Sem.run_pure,Bool.false_eq_true,if_false,if_true]
theorem jkK{P:Program}{v x val:Value}{dst src:TypeId}{a b:Addr}{fl fl2 k:Nat}{w w':World}(hp1:(Extern.ReflectliteValue.parts v).run P w=.ok (some (dst,a,fl)) w)(hp2:(Extern.ReflectliteValue.parts x).run P w=.ok (some (src,b,fl2)) w)(hfl:(fl / Extern.ReflectliteValue.flagAddr % 2 == 0)=false)
  (hl:(loadVar src b).run P w=.ok val w) (hd:(Extern.Rtype.directlyAssignable dst src).run P w=.ok false w) (hi:(Extern.Rtype.implements dst src).run P w=.ok true w) (hk:(Extern.Rtype.kind src).run P w=.ok k w) (hk2:(k == 20)=false) (hst:(storeVar dst a (.iface src val)).run P w=.ok () w'):(Extern.ReflectliteValue.set #[v,x]).run P w=.ok (.tuple #[]) w':=by
 show Sem.run P (Extern.ReflectliteValue.parts v >>= _) w=_;rw[Sem.run_bind,hp1];show Sem.run P (Extern.ReflectliteValue.parts x >>= _) w=_;rw[Sem.run_bind,hp2];simp only[Result.andThen,hfl,Sem.run_bind,hl,hd,hi,hk,hk2,hst,Sem.run_pure,Bool.false_eq_true,if_false,if_true]
end
section
open Go Go.RowKit
theorem Tryz.methodAssign(n:Nat)(v:Value)(w:World):(Go.method (n+1) 269 v "AssignableTo").run Tryz.prog w=.ok (295,v) w:=by kernel_rfl
theorem Tryz.szAt:(Tryz.prog.info? 327).map (·.size)=some 1:=by kernel_rfl
theorem Tryz.szErrno:(Tryz.prog.info? 27).map (·.size)=some 1:=by kernel_rfl
theorem jmv{w:World}{p c b:Nat}{old:Value}(hc:w.cell? ⟨c,0,none⟩=some (.pointer (some ⟨b,0,none⟩)))(ho:w.cell? ⟨p,0,none⟩=some old)(hf:w.frozen? ⟨p,0,none⟩=false) :
  (callFunc 267 #[.agg #[.pointer (some ⟨3,327,none⟩),.pointer (some ⟨p,0,none⟩),.int .u64 404],.agg #[.pointer (some ⟨3,324,none⟩),.pointer (some ⟨c,0,none⟩),.int .u64 150]]).run Tryz.prog w=.ok (.value (.tuple #[])) (w.setCell ⟨p,0,none⟩ (.iface 324 (.pointer (some ⟨b,0,none⟩)))):=by
 have h:=@run_callFunc_extern Tryz.prog 267 _ Extern.ReflectliteValue.set Tryz.func267 (by kernel_rfl) (by kernel_rfl) (by kernel_rfl) (by kernel_rfl);have hd:∀ w,(Extern.Rtype.directlyAssignable 327 324).run Tryz.prog w=.ok false w:=fun w=>by kernel_rfl
 have hi:∀ w,(Extern.Rtype.implements 327 324).run Tryz.prog w=.ok true w:=fun w=>by kernel_rfl
 have hk:∀ w,(Extern.Rtype.kind 324).run Tryz.prog w=.ok 22 w:=fun w=>by kernel_rfl
 rw[h,jkK (Tryz.partsP2 p w) (Tryz.partsF c w) (by decide) (jba Tryz.underlying324 rfl hc) (hd w) (hi w) (hk w) (by decide) (jeL rfl Tryz.szAt ho hf)];rfl
theorem jmu{w:World}{p c:Nat}{n:Int}{old:Value}(hc:w.cell? ⟨c,0,none⟩=some (.int .i64 n))(ho:w.cell? ⟨p,0,none⟩=some old)(hf:w.frozen? ⟨p,0,none⟩=false) :
  (callFunc 267 #[.agg #[.pointer (some ⟨3,27,none⟩),.pointer (some ⟨p,0,none⟩),.int .u64 386],.agg #[.pointer (some ⟨3,27,none⟩),.pointer (some ⟨c,0,none⟩),.int .u64 130]]).run Tryz.prog w=.ok (.value (.tuple #[])) (w.setCell ⟨p,0,none⟩ (.int .i64 n)):=by
 have h:=@run_callFunc_extern Tryz.prog 267 _ Extern.ReflectliteValue.set Tryz.func267 (by kernel_rfl) (by kernel_rfl) (by kernel_rfl) (by kernel_rfl);have hd:∀ w,(Extern.Rtype.directlyAssignable 27 27).run Tryz.prog w=.ok true w:=fun w=>by kernel_rfl
 rw[h,jom (Tryz.partsE2 p w) (Tryz.partsN c w) (by decide) (jba Tryz.underlying27 rfl hc) (hd w) (jeL rfl Tryz.szErrno ho hf)];rfl
end
section
open Go Go.RowKit
attribute [local go_sem] Oper.semAt_some
def vP(a:Nat):Value:=.agg #[.pointer (some ⟨3,329,none⟩),.pointer (some ⟨a,0,none⟩),.int .u64 150]
def AsPl(w:World)(p b:Nat)(e:Ending)(w':World):Prop:=e=.returned (.bool true)∧jae (fun z=>z=p) w w'∧Blk w' p (.cells #[.iface 324 (.pointer (some ⟨b,0,none⟩))] 327)
theorem jm4(w:World)(a p b:Nat)(tg:Value)(hA:Blk w a (.cells #[.pointer (some ⟨p,0,none⟩)] 329))(hP:Blk w p (.cells #[.nilIface] 327)) :
  Calls Tryz.prog 261 #[.iface 324 (.pointer (some ⟨b,0,none⟩)),tg,vP a,.iface 269 (.agg #[.pointer (some ⟨3,327,none⟩)])] w (AsPl w p b):=by
 unfold vP
 obtain⟨w1,hw1⟩:∃ w1,w1=w.alloc (.cells #[.pointer (some ⟨3,329,none⟩),.pointer (some ⟨a,0,none⟩),.int .u64 150] 336):=⟨_,rfl⟩
 have hx1:Ext w w1:=by rw[hw1];exact (ExtR w).alloc _
 have hA1:=hA.keeps hx1 (fun h=>h);have hP1:=hP.keeps hx1 (fun h=>h);have hT:=Tryz.typeOfF (.pointer (some ⟨b,0,none⟩));have hM:=Tryz.methodAssign 487;have hTo:=Tryz.toAt;have hVE:(callFunc 266 #[.agg #[.pointer (some ⟨3,329,none⟩),.pointer (some ⟨a,0,none⟩),.int .u64 150]]).run Tryz.prog w1=_:=jif (jba Tryz.underlying329 rfl (hA1.cell (i:=0) (by rfl))) (Tryz.partsP a) Tryz.elemP (Tryz.mkP p);have hVF:=Tryz.valueOfF w1 b;have hx2:Ext w1 (w1.alloc (.cells #[.pointer (some ⟨b,0,none⟩)] 324)):=(ExtR w1).alloc _;have hP2:=hP1.keeps hx2 (fun h=>h);have hB2:Blk (w1.alloc (.cells #[.pointer (some ⟨b,0,none⟩)] 324)) w1.heap.size (.cells #[.pointer (some ⟨b,0,none⟩)] 324):=Blk.new w1 _;have hS:=jmv (b:=b) (hB2.cell (i:=0) (by rfl)) (hP2.cell (i:=0) (by rfl)) hP2.frozen;have HX:=Hd (And.intro (hx1.trans hx2) hP2);clear hA hP hA1 hP1 hx1 hx2 hP2 hB2;rw[hw1]at hVE hVF hS HX;rw[World.size_alloc]at hS;clear hw1 w1;go_enter Tryz.func261,Tryz.ntmps261;go_wp2_with fail
 refine wp_loop_rounds 1 ?_;rw[rounds_succ];go_wp2_with fail
 go_ret
 refine⟨rfl,(HX.o.1.mono (fun z _ g=>g.elim)).trans' (jae.oneSet _ _ _) (fun z _ g=>g),HX.o.2.set_same (i:=0) _⟩
theorem Tryz.noAsF(v:Value)(xT:TypeId)(w:World):(Instr.typeAssert (.iface 324 v) xT 352 true).run Tryz.prog w=.ok (.tuple #[.nilIface,.bool false]) w:=run_typeAssert_lacksB Tryz.underlying352 (by kernel_rfl) (by kernel_rfl) v xT w
def vE(a:Nat):Value:=.agg #[.pointer (some ⟨3,330,none⟩),.pointer (some ⟨a,0,none⟩),.int .u64 150]
def Fa2(W:World)(b:Nat):Prop:=∃ (c:Nat) (k l:Int),Blk W b (.cells #[.int .i64 k,.iface 324 (.pointer (some ⟨c,0,none⟩))] 326)∧Blk W c (.cells #[.int .i64 l,malE] 326)
def AsEr(w:World)(p:Nat)(e:Ending)(w':World):Prop:=e=.returned (.bool true)∧jae (fun z=>z=p) w w'∧Blk w' p (.cells #[.int .i64 2] 27)
theorem jm3(w:World)(a p b:Nat)(tg:Value)(n:Int)(hA:Blk w a (.cells #[.pointer (some ⟨p,0,none⟩)] 330))(hP:Blk w p (.cells #[.int .i64 n] 27))(hF:Fa2 w b) :
  Calls Tryz.prog 261 #[.iface 324 (.pointer (some ⟨b,0,none⟩)),tg,vE a,.iface 269 (.agg #[.pointer (some ⟨3,27,none⟩)])] w (AsEr w p):=by
 obtain⟨c,k,l,hF1,hF2⟩:=hF
 unfold vE
 obtain⟨w1,hw1⟩:∃ w1,w1=w.alloc (.cells #[.pointer (some ⟨3,330,none⟩),.pointer (some ⟨a,0,none⟩),.int .u64 150] 336):=⟨_,rfl⟩
 have hx1:Ext w w1:=by rw[hw1];exact (ExtR w).alloc _
 have hA1:=hA.keeps hx1 (fun h=>h);have hP1:=hP.keeps hx1 (fun h=>h);have HU1:=Hd (jg0 w1 b k _ (hF1.keeps hx1 (fun h=>h)));have HU2:=Hd (jg0 w1 c l _ (hF2.keeps hx1 (fun h=>h)));have hT:=fun x=>Tryz.typeOfF x;have hT2:=fun x=>Tryz.typeOfN x;have hM:=Tryz.methodAssign 487;have hTo:=Tryz.toErr;have hTo2:=Tryz.toErr2;have nA:=Tryz.noAsF;have n2:=Tryz.hasUnwrapF;have n3:=Tryz.methodUnwrapF 487;have hq1:∀ (z:Nat) w,(binOp .eql 162 (.iface 324 (.pointer (some ⟨z,0,none⟩))) .nilIface).run Tryz.prog w=.ok (.bool false) w:=fun z w=>by kernel_rfl
 have hq2:∀ w,(binOp .eql 162 malE .nilIface).run Tryz.prog w=.ok (.bool false) w:=fun w=>by kernel_rfl
 unfold malE at *;have hVE:(callFunc 266 #[.agg #[.pointer (some ⟨3,330,none⟩),.pointer (some ⟨a,0,none⟩),.int .u64 150]]).run Tryz.prog w1=_:=jif (jba Tryz.underlying330 rfl (hA1.cell (i:=0) (by rfl))) (Tryz.partsE a) Tryz.elemE (Tryz.mkE p);have hVF:=Tryz.valueOfN w1 2;have hx2:Ext w1 (w1.alloc (.cells #[.int .i64 2] 27)):=(ExtR w1).alloc _;have hP2:=hP1.keeps hx2 (fun h=>h);have hB2:Blk (w1.alloc (.cells #[.int .i64 2] 27)) w1.heap.size (.cells #[.int .i64 2] 27):=Blk.new w1 _;have hS:=jmu (n:=2) (hB2.cell (i:=0) (by rfl)) (hP2.cell (i:=0) (by rfl)) hP2.frozen;have HX:=Hd (And.intro (hx1.trans hx2) hP2);clear hA hP hA1 hP1 hx1 hx2 hP2 hB2 hF1 hF2;rw[hw1]at hVE hVF hS HX HU1 HU2;rw[World.size_alloc]at hS;clear hw1 w1;go_enter Tryz.func261,Tryz.ntmps261;go_wp2_with fail
 refine wp_loop_rounds 3 ?_;rw[rounds_succ];go_wp2_with fail
 refine HU1.o.mono ?_;rintro e w2 ⟨rfl,rfl⟩;go_wp2_with fail
 rw[rounds_succ];go_wp2_with fail
 refine HU2.o.mono ?_;rintro e w2 ⟨rfl,rfl⟩;go_wp2_with fail
 rw[rounds_succ];go_wp2_with fail
 go_ret
 refine⟨rfl,(HX.o.1.mono (fun z _ g=>g.elim)).trans' (jae.oneSet _ _ _) (fun z _ g=>g),HX.o.2.set_same (i:=0) _⟩
theorem Tryz.methodKind(n:Nat)(t:TypeId)(w:World):(Go.method (n+1) 269 (.agg #[.pointer (some ⟨3,t,none⟩)]) "Kind").run Tryz.prog w=.ok (287,.pointer (some ⟨3,t,none⟩)) w:=by kernel_rfl
theorem Tryz.methodElem(n:Nat)(v:Value)(w:World):(Go.method (n+1) 269 v "Elem").run Tryz.prog w=.ok (297,v) w:=by kernel_rfl
theorem Tryz.kindP(w:World):(callFunc 287 #[.pointer (some ⟨3,329,none⟩)]).run Tryz.prog w=.ok (.value (.int .u8 22)) w:=by kernel_rfl
theorem Tryz.kindI(w:World):(callFunc 287 #[.pointer (some ⟨3,327,none⟩)]).run Tryz.prog w=.ok (.value (.int .u8 20)) w:=by kernel_rfl
theorem jmS(w:World)(p b:Nat)(hP:Blk w p (.cells #[.nilIface] 327)) :
  Calls Tryz.prog 247 #[.iface 324 (.pointer (some ⟨b,0,none⟩)),.iface 329 (.pointer (some ⟨p,0,none⟩))] w (AsPl w p b):=by
 obtain⟨w1,hw1⟩:∃ w1,w1=w.alloc (.cells #[.pointer (some ⟨p,0,none⟩)] 329):=⟨_,rfl⟩
 have hx1:Ext w w1:=by rw[hw1];exact (ExtR w).alloc _
 have hA1:Blk w1 w.heap.size (.cells #[.pointer (some ⟨p,0,none⟩)] 329):=by rw[hw1];exact Blk.new w _
 obtain⟨w2,hw2⟩:∃ w2,w2=w1.alloc (.cells #[.pointer (some ⟨3,329,none⟩),.pointer (some ⟨w.heap.size,0,none⟩),.int .u64 150] 336):=⟨_,rfl⟩
 have hx2:Ext w1 w2:=by rw[hw2];exact (ExtR w1).alloc _
 have hA2:=hA1.keeps hx2 (fun h=>h);have hP2:=(hP.keeps hx1 (fun h=>h)).keeps hx2 (fun h=>h);have HAS:=Hd (jm4 w2 w.heap.size p b (.iface 329 (.pointer (some ⟨p,0,none⟩))) hA2 hP2);have HX:=Hd (hx1.trans hx2);have hV:=Tryz.valueOfP w p;have hT:=fun w=>Tryz.typeOfVP w;have hK:=fun t w=>Tryz.methodKind 487 t w;have hEl:=fun v w=>Tryz.methodElem 487 v w;have hk1:=Tryz.kindP;have hk2:=Tryz.kindI;have hel:=Tryz.elemTP;have hN:(callFunc 260 #[.agg #[.pointer (some ⟨3,329,none⟩),.pointer (some ⟨w.heap.size,0,none⟩),.int .u64 150]]).run Tryz.prog w2=_:=jhL (jba Tryz.underlying329 rfl (hA2.cell (i:=0) (by rfl))) (Tryz.partsP w.heap.size);have hq1:∀ w,(binOp .eql 162 (.iface 324 (.pointer (some ⟨b,0,none⟩))) .nilIface).run Tryz.prog w=.ok (.bool false) w:=fun w=>by kernel_rfl
 have hq2:∀ w,(binOp .eql 20 (.iface 329 (.pointer (some ⟨p,0,none⟩))) .nilIface).run Tryz.prog w=.ok (.bool false) w:=fun w=>by kernel_rfl
 unfold vP at HAS;clear hx1 hx2 hA1 hA2 hP2 hP;rw[hw2,hw1]at HAS HX hN;clear hw1 hw2 w1 w2;go_enter Tryz.func247,Tryz.ntmps247;go_wp2_with fail
 refine HAS.o.mono ?_;rintro e w3 ⟨rfl,hk,hB⟩;have HK:=Hd (And.intro hk hB);clear hk hB;go_wp2_with fail
 go_ret
 exact⟨rfl,(HX.o.mono (fun z _ g=>g.elim)).trans' HK.o.1 (fun z _ g=>g),HK.o.2⟩
def ErrT(w:World):Prop:=w.cell? ⟨1,0,none⟩=some (.iface 269 (.agg #[.pointer (some ⟨3,162,none⟩)]))
theorem ErrT.ext{w w':World}(h:ErrT w)(k:Ext w w'):ErrT w':=jab h k
theorem Fa2.ext{w w':World}{b:Nat}(h:Fa2 w b)(k:Ext w w'):Fa2 w' b:=by
 obtain⟨c,x,y,h1,h2⟩:=h
 exact⟨c,x,y,h1.keeps k (fun h=>h),h2.keeps k (fun h=>h)⟩
theorem Tryz.methodImpl(n:Nat)(v:Value)(w:World):(Go.method (n+1) 269 v "Implements").run Tryz.prog w=.ok (298,v) w:=by kernel_rfl
theorem Tryz.implN(w:World):(callFunc 298 #[.agg #[.pointer (some ⟨3,27,none⟩)],.iface 269 (.agg #[.pointer (some ⟨3,162,none⟩)])]).run Tryz.prog w=.ok (.value (.bool true)) w:=by kernel_rfl
theorem Tryz.kindE(w:World):(callFunc 287 #[.pointer (some ⟨3,330,none⟩)]).run Tryz.prog w=.ok (.value (.int .u8 22)) w:=by kernel_rfl
theorem Tryz.kindN(w:World):(callFunc 287 #[.pointer (some ⟨3,27,none⟩)]).run Tryz.prog w=.ok (.value (.int .u8 2)) w:=by kernel_rfl
theorem jmR(w:World)(p b:Nat)(n:Int)(hG:ErrT w)(hF:Fa2 w b)(hP:Blk w p (.cells #[.int .i64 n] 27)) :
  Calls Tryz.prog 247 #[.iface 324 (.pointer (some ⟨b,0,none⟩)),.iface 330 (.pointer (some ⟨p,0,none⟩))] w (AsEr w p):=by
 obtain⟨w1,hw1⟩:∃ w1,w1=w.alloc (.cells #[.pointer (some ⟨p,0,none⟩)] 330):=⟨_,rfl⟩
 have hx1:Ext w w1:=by rw[hw1];exact (ExtR w).alloc _
 have hA1:Blk w1 w.heap.size (.cells #[.pointer (some ⟨p,0,none⟩)] 330):=by rw[hw1];exact Blk.new w _
 obtain⟨w2,hw2⟩:∃ w2,w2=w1.alloc (.cells #[.pointer (some ⟨3,330,none⟩),.pointer (some ⟨w.heap.size,0,none⟩),.int .u64 150] 336):=⟨_,rfl⟩
 have hx2:Ext w1 w2:=by rw[hw2];exact (ExtR w1).alloc _
 have hA2:=hA1.keeps hx2 (fun h=>h);have hP2:=(hP.keeps hx1 (fun h=>h)).keeps hx2 (fun h=>h);have HAS:=Hd (jm3 w2 w.heap.size p b (.iface 330 (.pointer (some ⟨p,0,none⟩))) n hA2 hP2 ((hF.ext hx1).ext hx2));have HX:=Hd (hx1.trans hx2);have hV:=Tryz.valueOfE w p;have hT:=fun w=>Tryz.typeOfVE w;have hK:=fun t w=>Tryz.methodKind 487 t w;have hEl:=fun v w=>Tryz.methodElem 487 v w;have hk1:=Tryz.kindE;have hk2:=Tryz.kindN;have hel:=Tryz.elemTE;have hN:(callFunc 260 #[.agg #[.pointer (some ⟨3,330,none⟩),.pointer (some ⟨w.heap.size,0,none⟩),.int .u64 150]]).run Tryz.prog w2=_:=jhL (jba Tryz.underlying330 rfl (hA2.cell (i:=0) (by rfl))) (Tryz.partsE w.heap.size);have hq1:∀ w,(binOp .eql 162 (.iface 324 (.pointer (some ⟨b,0,none⟩))) .nilIface).run Tryz.prog w=.ok (.bool false) w:=fun w=>by kernel_rfl
 have hq2:∀ w,(binOp .eql 20 (.iface 330 (.pointer (some ⟨p,0,none⟩))) .nilIface).run Tryz.prog w=.ok (.bool false) w:=fun w=>by kernel_rfl
 unfold vE at HAS;have hG2:w2.cell? ⟨1,0,none⟩=some (.iface 269 (.agg #[.pointer (some ⟨3,162,none⟩)])):=jab hG (hx1.trans hx2);have hIm:=Tryz.implN;have hMI:=fun v w=>Tryz.methodImpl 487 v w;clear hx1 hx2 hA1 hA2 hP2 hP hG hF;rw[hw2,hw1]at HAS HX hN hG2;clear hw1 hw2 w1 w2;go_enter Tryz.func247,Tryz.ntmps247;go_wp2_with fail
 refine HAS.o.mono ?_;rintro e w3 ⟨rfl,hk,hB⟩;have HK:=Hd (And.intro hk hB);clear hk hB;go_wp2_with fail
 go_ret
 exact⟨rfl,(HX.o.mono (fun z _ g=>g.elim)).trans' HK.o.1 (fun z _ g=>g),HK.o.2⟩
theorem jde(b:Bool)(w:World)(hG:ErrT w)(n:jac)(hr:n.refs.length=16)(hk:n.kind≤3)(f:FuncId)(hf:[fnV 191,fnV 192,fnV 193,fnV 194][n.kind]?=some (fnV f))
  (eg:∀ args w,(callFunc f args).run Tryz.prog w=.ok (.enter f args) w) (hc:∀ w,ErrT w→Calls Tryz.prog f #[n.V] w fun e w'=>e=.returned (.bool b)∧Ext w w') :
  Calls Tryz.prog 145 #[n.V] w fun e w'=>e=.returned (.bool b)∧Ext w w':=by
 have e0:n.cells[0]?=some (.int .i64 (n.kind:Int)):=rfl;have c0:¬(n.kind:Int) < 0:=by omega
 have c1:¬(3:Int) < (n.kind:Int):=by omega
 have c2:(n.kind:Int) < 4:=by omega
 have HF:=Hd hf;have HC:=Hd hc;have HR:=Hd hr;have HG:=Hd hG;clear hf hc hr hG;unfold jac.V;go_enter Tryz.func145,Tryz.ntmps145;go_wp2_with (refine jak Tryz.allocTabV rfl rfl ?_;intro W1 hB1 hE1;refine jaf (vs:=[fnV 191,fnV 192,fnV 193,fnV 194]) rfl rfl rfl rfl hB1 rfl Tryz.szTabV (by simp[fnV,Value.oneCell']) ?_;intro W2 hB2 hE2;have q0:W2.cell? ⟨w.heap.size,0,none⟩=some (.int .i64 (n.kind:Int)):=(((Blk.new w (.cells n.cells.toArray 144)).keeps hE1 (fun h=>h)).keeps hE2 (by rw[World.size_alloc];omega)).cellL e0)
 have qt:W2.cell? ⟨w.heap.size+1,n.kind,none⟩=some (fnV f):=by
  have:=hB2.cellL HF.o
  rwa [World.size_alloc]at this
 have hbn:=((Blk.new w (.cells n.cells.toArray 144)).keeps hE1 (fun h=>h)).keeps hE2 (by rw[World.size_alloc];omega);have QT:=Hd qt;have Q0:=Hd q0;have HBN:=Hd hbn;have HE:=Hd ((((ExtR w).alloc (.cells n.cells.toArray 144)).trans hE1).trans' hE2 (fun x hx e=>by have e:x=(w.alloc (.cells n.cells.toArray 144)).heap.size:=e;rw[World.size_alloc]at e;omega));clear hB1 hE1 hB2 hE2 q0 qt hbn;refine jas [0,1,2,3,4,5,6] Ext ExtR ExtT (by kernel_rfl) (by kernel_rfl) (by kernel_rfl) ?_
 (refine jai _ rfl (by kernel_rfl) rfl rfl (fun K hK=>?_);go_big_quiet_op;refine hK _ ?_;clear hK K)
 refine jan ⟨w.heap.size,0,none⟩ _ rfl (by kernel_rfl) rfl rfl (fun w2 h2=>jaa Tryz.uKind rfl (jab (by exact Q0.o) h2)) ?_;simp only[Act.put,sA,sB,sC]
 (refine jai _ rfl (by kernel_rfl) rfl rfl (fun K hK=>?_);go_big_quiet_op;refine hK _ ?_;clear hK K)
 refine jan ⟨w.heap.size+1,n.kind,none⟩ _ rfl (by kernel_rfl) rfl rfl (fun w2 h2=>jd3 Tryz.aggV (jab (by exact QT.o) h2)) ?_;simp only[Act.put,sA,sB,sC];refine jan ⟨w.heap.size,0,none⟩ _ rfl (by kernel_rfl) rfl rfl (fun w2 h2=>jap w2 _ n HR.o (HBN.o.keeps ((jav W2).trans h2) (fun h=>h))) ?_;simp only[Act.put,sA,sB,sC];refine jaN _ f #[n.V] (.bool b) rfl (by kernel_rfl) rfl (fun w1=>jdX rfl eg rfl) (fun w1 h1=>HC.o w1 (HG.o.ext (HE.o.trans ((jav W2).trans h1)))) ?_;simp only[Act.put,sA,sB,sC]
 (refine jai _ rfl (by kernel_rfl) rfl rfl (fun K hK=>?_);go_big_quiet_op;refine hK _ ?_;clear hK K)
 refine jaU (by kernel_rfl) (fun w3 he=>?_);go_wp2_with fail
 go_ret
 exact⟨rfl,HE.o.trans ((jav W2).trans he)⟩
theorem jiC(w:World)(n:jac)(hr:n.refs.length=16)(hps:n.path.size≤1000000)(hp:n.pathOk 0=false):Calls Tryz.prog 192 #[n.V] w fun e w'=>e=.returned (.bool false)∧Ext w w':=by
 have hld:=jbw w n hr;have HP:=Hd hp;clear hp;unfold jac.V at hld ⊢;go_enter Tryz.func192,Tryz.ntmps192;go_wp2_with (refine jah 208 (.tmp 1) rfl rfl _ _ rfl hld ?_)
 refine (jd0 _ n hr 0 hps).mono ?_;rintro e w1 ⟨rfl,hE⟩;rw[HP.o];have HE1:=Hd (((ExtR w).alloc _).trans hE);clear hld hE;go_wp2_with fail
 go_ret
 exact⟨rfl,HE1.o⟩
theorem jhO(w:World)(n:jac)(hr:n.refs.length=16)(hps:n.path.size≤1000000)(hp:n.pathOk 0=true)(h0:n.value=⟨#[]⟩):Calls Tryz.prog 192 #[n.V] w fun e w'=>e=.returned (.bool false)∧Ext w w':=by
 have hld:=jbw w n hr;have e2:n.cells[2]?=some (.string ⟨#[]⟩):=by rw[←h0];rfl
 have HP:=Hd hp;clear hp h0;unfold jac.V at hld ⊢;go_enter Tryz.func192,Tryz.ntmps192;go_wp2_with (refine jah 208 (.tmp 1) rfl rfl _ _ rfl hld ?_)
 refine (jd0 _ n hr 0 hps).mono ?_;rintro e w1 ⟨rfl,hE⟩;rw[HP.o];have B1:=(Blk.new w (.cells n.cells.toArray 208)).keeps hE (fun h=>h);have q2:=B1.cellL e2;have HE1:=Hd (((ExtR w).alloc _).trans hE);clear hld hE B1;go_wp2_with fail
 go_ret
 exact⟨rfl,HE1.o⟩
theorem jkl(w:World)(n:jac)(hr:n.refs.length=16)(hps:n.path.size≤1000000)(hp:n.pathOk 0=true)(h8:80 < n.value.size)(h9:n.value.size≤1000000000):Calls Tryz.prog 192 #[n.V] w fun e w'=>e=.returned (.bool false)∧Ext w w':=by
 have hld:=jbw w n hr;have e2:n.cells[2]?=some (.string n.value):=rfl;have hne:=jaO (s:=n.value) (by omega);have c1:¬(n.value.size:Int)≤80:=by omega
 have HP:=Hd hp;clear hp;unfold jac.V at hld ⊢;go_enter Tryz.func192,Tryz.ntmps192;go_wp2_with (refine jah 208 (.tmp 1) rfl rfl _ _ rfl hld ?_)
 refine (jd0 _ n hr 0 hps).mono ?_;rintro e w1 ⟨rfl,hE⟩;rw[HP.o];have B1:=(Blk.new w (.cells n.cells.toArray 208)).keeps hE (fun h=>h);have q2:=B1.cellL e2;have HE1:=Hd (((ExtR w).alloc _).trans hE);clear hld hE B1;go_wp2_with fail
 go_ret
 exact⟨rfl,HE1.o⟩
theorem jkc(w:World)(n:jac)(hr:n.refs.length=16)(hps:n.path.size≤1000000)(hp:n.pathOk 1=false):Calls Tryz.prog 193 #[n.V] w fun e w'=>e=.returned (.bool false)∧Ext w w':=by
 have hld:=jbw w n hr;have HP:=Hd hp;clear hp;unfold jac.V at hld ⊢;go_enter Tryz.func193,Tryz.ntmps193;go_wp2_with (refine jah 208 (.tmp 1) rfl rfl _ _ rfl hld ?_)
 refine (jd0 _ n hr 1 hps).mono ?_;rintro e w1 ⟨rfl,hE⟩;rw[HP.o];have HE1:=Hd (((ExtR w).alloc _).trans hE);clear hld hE;go_wp2_with fail
 go_ret
 exact⟨rfl,HE1.o⟩
theorem jlC(w:World)(hG:ErrT w)(n:jac)(r:ByteArray)(m:jac)(ok:Bool)(hr:n.refs.length=16)(hp:n.pathOk 1=true)(h0:n.value=⟨#[]⟩)(hb:n.behindN=1)(h3:n.refs[0]?=some r)(hs:r.size≤1000000000)(hh:jgF r=none)(hml:m.refs.length=16)
  (hI:∀ w,ErrT w→Calls Tryz.prog 119 #[.string r] w fun e w'=>e=.returned (.tuple #[m.V,.bool ok])∧Ext w w') (hk:ok=true→m.kind≠3):Calls Tryz.prog 193 #[n.V] w fun e w'=>e=.returned (.bool false)∧Ext w w':=by
 have hps:n.path.size≤1000000:=by
  simp only[jac.pathOk,Bool.and_eq_true,decide_eq_true_eq]at hp;omega
 have hld:=jbw w n hr;have e2:n.cells[2]?=some (.string ⟨#[]⟩):=by rw[←h0];rfl
 have e3:n.cells[3]?=some (.string r):=by
  show (n.refs.map Value.string)[0]?=_;rw[List.getElem?_map,h3];rfl
 have HP:=Hd hp;have HB:=Hd hb;have E3:=Hd e3;have HH:=Hd hh;have HI:=Hd hI;have HRL:=Hd hml;have HK:=Hd hk;have HG:=Hd hG;clear hp hb h0 h3 e3 hh hI hml hk hG;unfold jac.V at hld ⊢;go_enter Tryz.func193,Tryz.ntmps193;go_wp2_with (refine jah 208 (.tmp 1) rfl rfl _ _ rfl hld ?_)
 refine (jd0 _ n hr 1 hps).mono ?_;rintro e w1 ⟨rfl,hE⟩;rw[HP.o];have B1:=(Blk.new w (.cells n.cells.toArray 208)).keeps hE (fun h=>h);have q2:=B1.cellL e2;have hld1:=ja8 w1 _ n hr B1;have HE1:=Hd (((ExtR w).alloc _).trans hE);have HB1:=Hd B1;unfold jac.V at hld1;clear hld hE B1;go_wp2_with (refine jah 208 (.tmp 1) rfl rfl _ _ rfl hld1 ?_)
 refine (jgz _ n hr).mono ?_;rintro e w2 ⟨rfl,hE⟩;rw[HB.o];have B2:=HB1.o.keeps hE (fun h=>h);have HE2:=Hd (HE1.o.trans hE);have q3:=B2.cellL E3.o;have HB2:=Hd B2;clear hld1 hE q2 B2 HB1 HE1;go_wp2_with fail
 refine (jje w2 r hs).mono ?_;rintro e w3 ⟨rfl,hE⟩;rw[HH.o];have B3:=HB2.o.keeps hE (fun h=>h);have HE:=Hd (HE2.o.trans hE);have q3':=B3.cellL E3.o;clear hE q3 B3;unfold optV;simp only;go_wp2_with fail
 refine (HI.o w3 (HG.o.ext HE.o)).mono ?_;rintro e w4 ⟨rfl,hE2⟩;have HE2:=Hd (HE.o.trans hE2);clear hE2 q3';unfold jac.V;cases ok with
 | false =>
  go_wp2_with (refine jak Tryz.allocNode rfl rfl ?_;intro W3 hB hE3;refine jaf (vs:=m.cells) rfl rfl rfl rfl hB (by rw[m.cells_len HRL.o];rfl) (by rw[m.cells_len HRL.o];exact Tryz.szNode) m.one ?_;intro W4 hB4 hE4)
  have hE5:Ext w4 W4:=hE3.trans' hE4 (fun x hx e=>by have e:x=w4.heap.size:=e;omega);have HE5:=Hd (HE2.o.trans hE5);go_ret
  exact⟨rfl,HE5.o⟩
 | true =>
  have hk3:((m.kind:Int) == 3)=false:=by have:=HK.o rfl;simp;omega
  go_wp2_with (refine jak Tryz.allocNode rfl rfl ?_;intro W3 hB hE3;refine jaf (vs:=m.cells) rfl rfl rfl rfl hB (by rw[m.cells_len HRL.o];rfl) (by rw[m.cells_len HRL.o];exact Tryz.szNode) m.one ?_;intro W4 hB4 hE4;have q0:W4.cell? ⟨w4.heap.size,0,none⟩=some (.int .i64 (m.kind:Int)):=hB4.cellL (by rfl))
  have hE5:Ext w4 W4:=hE3.trans' hE4 (fun x hx e=>by have e:x=w4.heap.size:=e;omega);have HE5:=Hd (HE2.o.trans hE5);go_ret
  exact⟨rfl,HE5.o⟩
def MayD(b:Bool)(r:ByteArray):Prop:=∀ w,ErrT w→Calls Tryz.prog 231 #[.string r] w fun e w'=>e=.returned (.bool b)∧Ext w w'
theorem jqF(r:ByteArray)(hs:r.size≤1000000000)(hh:jgF r=none)(hI:∀ w,ErrT w→Calls Tryz.prog 119 #[.string r] w fun e w'=>e=.returned (.tuple #[jar.V,.bool false])∧Ext w w'):MayD false r:=fun w hG=>by
 have HG:=Hd hG;clear hG;have HH:=Hd hh;have HI:=Hd hI;clear hh hI;go_enter Tryz.func231,Tryz.ntmps231;go_wp2_with fail
 refine (jje w r hs).mono ?_;rintro e w1 ⟨rfl,hE⟩;rw[HH.o];have HE:=Hd hE;clear hE;unfold optV;simp only;go_wp2_with fail
 refine (HI.o w1 (HG.o.ext HE.o)).mono ?_;rintro e w2 ⟨rfl,hE2⟩;have HE2:=Hd (HE.o.trans hE2);clear hE2;unfold jac.V;go_wp2_with (refine jak Tryz.allocNode rfl rfl ?_;intro W3 hB hE3;refine jaf (vs:=jar.cells) rfl rfl rfl rfl hB rfl Tryz.szNode jar.one ?_;intro W4 hB4 hE4)
 have hE5:Ext w2 W4:=hE3.trans' hE4 (fun x hx e=>by have e:x=w2.heap.size:=e;omega);go_ret
 exact⟨rfl,HE2.o.trans hE5⟩
theorem jhm(w:World)(n:jac)(hp:n.path=⟨#[]⟩)(h8:80 < n.value.size)(h9:n.value.size≤1000000000):Calls Tryz.prog 194 #[n.V] w fun e w'=>e=.returned (.bool false)∧Ext w w':=by
 have e1:n.cells[1]?=some (.string ⟨#[]⟩):=by rw[←hp];rfl
 have e2:n.cells[2]?=some (.string n.value):=rfl;have c1:(80:Int) < (n.value.size:Int):=by omega
 clear hp;unfold jac.V;rw[←callsIn_wide (n:=0)];refine callsIn_of_wp_marks Tryz.func194 rfl trivial ?_ rfl;simp only[Tryz.ntmps194,List.size_toArray,List.length_cons,List.length_nil,Nat.reduceAdd,Nat.reduceSub,Array.replicate_succ,Array.replicate_zero,List.push_toArray,List.append_toArray,List.nil_append,List.cons_append];have hE2:Ext w ((w.alloc (.cells n.cells.toArray 208)).alloc (.cells #[.bool false] 4)):=((ExtR w).alloc _).alloc _;have hB:=Blk.new (w.alloc (.cells n.cells.toArray 208)) (.cells #[.bool false] 4);rw[World.size_alloc]at hB;have c2:=hB.cell (i:=0) (v:=.bool false) (by rfl);have HX:=Hd (And.intro hE2 c2);clear hE2 hB c2;gi_wp2;have c2:=HX.o.2
 exact⟨.bool false,by simp[results,Tryz.results194,go_sem,c2],rfl,HX.o.1⟩
def braN(M:ByteArray→Bool)(n:jac):Bool:=decide (2≤min n.value.size 1+n.refsL.length) && n.refsL.all fun x=>M x.2
theorem jna(w:World)(hG:ErrT w)(n:jac)(hr:n.refs.length=16)(hp:n.path=⟨#[]⟩)(h8:n.value.size≤80)(M:ByteArray→Bool)(hm:∀ r∈n.refs,r.size≠0→MayD (M r) r):Calls Tryz.prog 194 #[n.V] w fun e w'=>e=.returned (.bool (braN M n))∧Ext w w':=by
 have HG:=Hd hG;clear hG;have e1:n.cells[1]?=some (.string ⟨#[]⟩):=by rw[←hp];rfl
 have e2:n.cells[2]?=some (.string n.value):=rfl;have c1:¬(80:Int) < (n.value.size:Int):=by omega
 obtain⟨c,hc⟩:∃ c,c=min n.value.size 1:=⟨_,rfl⟩
 have hci:min (n.value.size:Int) 1=(c:Int):=by omega
 obtain⟨R,hR⟩:∃ R,R=braN M n:=⟨_,rfl⟩
 rw[←hR];have HB:=Hd (show R=(decide (2≤c+n.refsL.length) && n.refsL.all fun x=>M x.2)from by rw[hR];unfold braN;rw[hc]);clear hR;have HC:=Hd hci;clear hp hc hci;rw[←callsIn_wide (n:=0)];refine callsIn_of_wp_marks Tryz.func194 rfl trivial ?_ rfl;simp only[Tryz.ntmps194,List.size_toArray,List.length_cons,List.length_nil,Nat.reduceAdd,Nat.reduceSub,Array.replicate_succ,Array.replicate_zero,List.push_toArray,List.append_toArray,List.nil_append,List.cons_append]
 obtain⟨W0,hW0⟩:∃ W0,W0=((w.alloc (.cells n.cells.toArray 208)).alloc (.cells #[.bool false] 4)).alloc (.cells #[.int .i64 (min (n.value.size:Int) 1)] 3):=⟨_,rfl⟩
 have B0:Blk W0 w.heap.size (.cells n.cells.toArray 208):=by rw[hW0];exact ((Blk.new w _).alloc _).alloc _
 have B1:Blk W0 (w.heap.size+1) (.cells #[.bool false] 4):=by
  rw[hW0];have:=(Blk.new (w.alloc (.cells n.cells.toArray 208)) (.cells #[.bool false] 4)).alloc (.cells #[.int .i64 (min (n.value.size:Int) 1)] 3);rwa [World.size_alloc]at this
 have B2:Blk W0 (w.heap.size+1+1) (.cells #[.int .i64 (c:Int)] 3):=by
  rw[hW0, ←HC.o];have:=Blk.new ((w.alloc (.cells n.cells.toArray 208)).alloc (.cells #[.bool false] 4)) (.cells #[.int .i64 (min (n.value.size:Int) 1)] 3);rwa [World.size_alloc,World.size_alloc]at this
 have E0:Ext w W0:=by rw[hW0];exact (((ExtR w).alloc _).alloc _).alloc _
 have hs0:W0.heap.size=w.heap.size+3:=by rw[hW0];simp
 have hld:=ja8 W0 _ n hr B0;rw[hW0]at hld;have HW0:=Hd hW0;have HE0:=Hd E0;have HB0:=Hd B0;have HB1:=Hd B1;have HB2:=Hd B2;have HS0:=Hd hs0;clear hW0 E0 B0 B1 B2 hs0;unfold jac.V at hld ⊢;gi_wp2_with (refine jaT rfl 208 (.tmp 1) rfl _ _ rfl hld ?_)
 refine⟨trivial,rfl,CallsIn.mono (callsIn_wide.2 (jh7 _ n)) ?_⟩
 rintro e w1 ⟨rfl,hbn,hE⟩;rw[←HW0.o]at hbn hE ⊢;rw[HS0.o]at hbn ⊢;have hC0:BraC w w.heap.size (w.heap.size+1) (w.heap.size+1+1) (w.heap.size+3) n c 0 w1∧(∀ j,j < 0→M (n.rr j)=true):=⟨⟨HE0.o.trans hE,HB1.o.keeps hE (fun h=>h),HB0.o.keeps hE (fun h=>h),HB2.o.keeps hE (fun h=>h),hbn⟩,fun j hj=>by omega⟩;have hl1:=hbn.lt;have HC0:=Hd hC0;have hcc:c≤1:=by have:=HC.o;omega
 clear hbn hE hld hC0 HW0 HE0 HB0 HB1 HB2 HS0;gi_wp2_with fail
 refine jcF (N:=n.refsL.length) (gf:=215) (lb:=#[.pointer (some ⟨w.heap.size+3,0,none⟩)]) rfl Tryz.enterRefs1 (jfK (w.heap.size+3) n hr)
  (fun k=>rfl) (fun k W=>BraC w w.heap.size (w.heap.size+1) (w.heap.size+1+1) (w.heap.size+3) n c k W∧∀ j,j < k→M (n.rr j)=true) (fun cd k W=>cd=.ret∧M (n.rr (k - 1))=false∧BraC w w.heap.size (w.heap.size+1) (w.heap.size+1+1) (w.heap.size+3) n c (k - 1) W)
  (fun k W W' h e=>⟨⟨h.1.ext.trans e,h.1.res.keeps e (fun h=>h),h.1.node.keeps e (fun h=>h),h.1.full.keeps e (fun h=>h),h.1.it.keeps e (fun h=>h)⟩,h.2⟩)
  (fun cd k W W' h e=>⟨h.1,h.2.1,⟨h.2.2.ext.trans e,h.2.2.res.keeps e (fun h=>h),h.2.2.node.keeps e (fun h=>h),h.2.2.full.keeps e (fun h=>h),h.2.2.it.keeps e (fun h=>h)⟩⟩) (fun k W h=>h.1.it)
  (fun k W o h=>⟨⟨h.1.ext.putObj (.inr (by omega)) _,h.1.res.put_other (by omega) _,h.1.node.put_other (by omega) _,h.1.full.put_other (by omega) _,h.1.it.put_other (by omega) _⟩,h.2⟩)
  (fun k W o h=>⟨⟨h.1.ext.putObj (.inr (by omega)) _,h.1.res.put_other (by omega) _,h.1.node.put_other (by omega) _,h.1.full.put_other (by omega) _,h.1.it.put_other (by omega) _⟩,h.2⟩)
  (fun cd k W o h=>⟨h.1,h.2.1,⟨h.2.2.ext.putObj (.inr (by omega)) _,h.2.2.res.put_other (by omega) _,h.2.2.node.put_other (by omega) _,h.2.2.full.put_other (by omega) _,h.2.2.it.put_other (by omega) _⟩⟩)
  HC0.o (fun k=>{ tmps:=#[.agg n.cells.toArray,.pointer (some ⟨w.heap.size,0,none⟩),.pointer (some ⟨w.heap.size+1,0,none⟩),.pointer (some ⟨w.heap.size+1+1,0,none⟩),undef,.string (n.rr k),.pointer (some ⟨w.heap.size,1,none⟩),.string ⟨#[]⟩,.bool false,.bool false,.pointer (some ⟨w.heap.size,2,none⟩),.string n.value,.int .i64 n.value.size,.bool false,.bool false,.pointer (some ⟨w.heap.size,2,none⟩),.string n.value,.int .i64 n.value.size,.int .i64 (min (n.value.size:Int) 1),.agg n.cells.toArray,.func (.func 215) #[] #[.pointer (some ⟨w.heap.size+3,0,none⟩)],.int .i64 (n.ri k:Nat),.string (n.rr k),undef,undef,undef,undef,undef,undef,undef],defers:=[] })
  ?hassign ?hbody ?hdone ?hstop
 case hassign =>
  intro l j W K hK;rw[jms,jgE];simp only[List.set_cons_zero,List.set_cons_succ];gi_wp2;exact hK
 case hbody =>
  intro l k W hk h hlt
  obtain⟨h,hall⟩:=h
  have hri:=jmp n hr hk;have hmay:=hm _ (List.mem_of_getElem? hri.2.1) hri.2.2;have hk16:k < 16:=Nat.lt_of_lt_of_le hk (by
   have:∀ (l:List ByteArray) (i:Nat),(jao i l).length≤l.length:=by
    intro l;induction l with
    | nil=>intro i;simp[jao]
    | cons x r ih=>intro i;unfold jao;split <;> simp <;> have:=ih (i+1) <;> omega
   have:=this n.refs 0
   rw[hr]at this;exact this)
  have H:=Hd h;have HM:=Hd hmay;have HA:=Hd hall;clear h hri hmay hall;gi_wp2_with fail
  refine⟨trivial,rfl,CallsIn.mono (CallsIn.inRound l (callsIn_wide.2 (HM.o W (HG.o.ext H.o.ext)))) ?_⟩
  rintro e w5 ⟨rfl,hE⟩;have q:=(H.o.full.keeps hE (fun h=>h)).cell (i:=0) (v:=.int .i64 ((c+k:Nat):Int)) (by rfl);have f:w5.frozen? ⟨w.heap.size+1+1,0,none⟩=false:=(H.o.full.keeps hE (fun h=>h)).frozen;have HE:=Hd hE;have f1:w5.frozen? ⟨w.heap.size+1,0,none⟩=false:=(H.o.res.keeps hE (fun h=>h)).frozen;have q1:w5.cell? ⟨w.heap.size+1,0,none⟩=some (.bool false):=(H.o.res.keeps hE (fun h=>h)).cell (i:=0) (by rfl);clear hE
  obtain⟨mb,hmb⟩:∃ mb,mb=M (n.rr k):=⟨_,rfl⟩
  rw[←hmb];have HMB:=Hd hmb;clear hmb;cases mb with
  | false =>
   gi_wp2;have K5:jae (fun b=>b=w.heap.size+1) w5 (w5.setCell ⟨w.heap.size+1,0,none⟩ (.bool false)):=jae.oneSet w5 ⟨w.heap.size+1,0,none⟩ _;have K6:jae (fun b=>b=w.heap.size+1) W (w5.setCell ⟨w.heap.size+1,0,none⟩ (.bool false)):=(HE.o.mono (fun _ _ h=>h.elim)).trans K5
   refine⟨K6.mono (fun x hx e=>?_),?_⟩
   ·have e:x=_:=e;show x≠_∧x≠_;omega
   ·exact⟨rfl,HMB.o.symm,⟨H.o.ext.trans' K6 (fun x hx e=>by omega),((H.o.res.keeps HE.o (fun h=>h)).set_same (i:=0) _),H.o.node.keeps K6 (by omega),H.o.full.keeps K6 (by omega),H.o.it.keeps K6 (by omega)⟩⟩
  | true =>
  gi_wp2;rw[show (c:Int)+(k:Int)+1=((c+(k+1):Nat):Int) by omega];have K5:jae (fun b=>b=w.heap.size+1+1) w5 (w5.setCell ⟨w.heap.size+1+1,0,none⟩ (.int .i64 ((c+(k+1):Nat):Int))):=jae.oneSet w5 ⟨w.heap.size+1+1,0,none⟩ _;have K6:jae (fun b=>b=w.heap.size+1+1) W (w5.setCell ⟨w.heap.size+1+1,0,none⟩ (.int .i64 ((c+(k+1):Nat):Int))):=(HE.o.mono (fun _ _ h=>h.elim)).trans K5
  refine⟨K6.mono (fun x hx e=>?_),?_⟩
  ·have e:x=_:=e;show x≠_∧x≠_;omega
  ·refine⟨⟨H.o.ext.trans' K6 (fun x hx e=>by omega),H.o.res.keeps K6 (by omega),H.o.node.keeps K6 (by omega),((H.o.full.keeps HE.o (fun h=>h)).set_same (i:=0) _),H.o.it.keeps K6 (by omega)⟩,fun j hj=>?_⟩
   by_cases hjk:j < k
   ·exact HA.o j hjk
   ·have:j=k:=by omega
    subst this;exact HMB.o.symm
 case hdone =>
  intro W h hd
  obtain⟨h,hall⟩:=h
  have q:=h.full.cell (i:=0) (v:=.int .i64 ((c+n.refsL.length:Nat):Int)) (by rfl);have q2:=h.res.cell (i:=0) (v:=.bool false) (by rfl);have f2:W.frozen? ⟨w.heap.size+1,0,none⟩=false:=h.res.frozen;have hb:(n.refsL.all fun x=>M x.2)=true:=by
   rw[List.all_eq_true];intro x hx
   obtain⟨i,hi,rfl⟩:=List.getElem_of_mem hx
   have:=hall i hi
   unfold jac.rr at this;rw[List.getD_eq_getElem?_getD,List.getElem?_eq_getElem hi]at this;exact this
  have hRb:R=decide (2≤c+n.refsL.length):=by rw[HB.o,hb,Bool.and_true]
  have H:=Hd h;have HD:=Hd hd;clear h hd hall hb
  obtain⟨bb,hbb⟩:∃ bb,bb=decide (2≤c+n.refsL.length):=⟨_,rfl⟩
  have c5:decide ((2:Int)≤((c+n.refsL.length:Nat):Int))=bb:=by rw[hbb];exact decide_eq_decide.2 (by omega)
  have c6:decide ((2:Int)≤(c:Int)+(n.refsL.length:Int))=bb:=by rw[hbb];exact decide_eq_decide.2 (by omega)
  have HRB:=Hd (hRb.trans hbb.symm);clear hbb hRb;gi_wp2;have B2:=(H.o.res.set_same (i:=0) (.bool bb));have BD:=HD.o.set_other (p:=⟨w.heap.size+1,0,none⟩) (by show w1.heap.size≠w.heap.size+1;omega) (.bool bb);have hX:Ext w ((W.setCell ⟨w.heap.size+1,0,none⟩ (.bool bb)).putObj w1.heap.size (.deferred none)):=(H.o.ext.setCell (.inr (by show w.heap.size≤w.heap.size+1;omega)) _).putObj (.inr (by omega)) _
  obtain⟨W3,hW3⟩:∃ W3,W3=W.setCell ⟨w.heap.size+1,0,none⟩ (.bool bb):=⟨_,rfl⟩
  rw[←hW3]at B2 BD hX ⊢;have c2:(W3.putObj w1.heap.size (.deferred none)).cell? ⟨w.heap.size+1,0,none⟩=some (.bool bb):=(B2.put_other (by omega) _).cell (i:=0) (by simp)
  refine⟨by simp,.inl ⟨_,_,rfl,run_takeDeferred BD,?_⟩⟩
  exact⟨.bool bb,by simp[results,Tryz.results194,go_sem,c2],by rw[HRB.o],hX⟩
 case hstop =>
  intro cd k W hk hk0 h hd
  obtain⟨rfl,hm1,h⟩:=h
  have hb:(n.refsL.all fun x=>M x.2)=false:=by
   rw[List.all_eq_false]
   refine⟨n.refsL.getD (k - 1) (0,⟨#[]⟩),?_,?_⟩
   ·rw[List.getD_eq_getElem?_getD,List.getElem?_eq_getElem (by omega)];exact List.getElem_mem _
   ·have:M (n.rr (k - 1))=false:=hm1
    unfold jac.rr at this;rw[this];simp
  have HRB:=Hd (show R=false by rw[HB.o,hb,Bool.and_false]);have q2:=h.res.cell (i:=0) (v:=.bool false) (by rfl);have H:=Hd h;have HD:=Hd hd;clear h hd hm1 hb;have hX:Ext w (W.putObj w1.heap.size (.deferred none)):=H.o.ext.putObj (.inr (by omega)) _;have c2:(W.putObj w1.heap.size (.deferred none)).cell? ⟨w.heap.size+1,0,none⟩=some (.bool false):=(H.o.res.put_other (by omega) _).cell (i:=0) (by rfl);gi_wp2
  refine⟨by simp,.inl ⟨_,_,rfl,run_takeDeferred HD.o,?_⟩⟩
  exact⟨.bool false,by simp[results,Tryz.results194,go_sem,c2],by rw[HRB.o],hX⟩
end
section
open Go Go.RowKit
def joP(P:Program)(gf:FuncId)(lb:Array Value)(N:Nat)(V:Nat→World→Array Value→Prop)(S:World→Prop):Prop:=
 ∀ (l:Nat) (C:Nat→World→Prop) (Cx:Nat→World→Prop),(∀ k,St (C k))→(∀ k,St (Cx k))→(∀ k W,C k W→S W) →
  ∀ W,(∀ k W' vs,k < N→C k W'→V k W' vs→jiP P l vs W' (C (k+1)) (Cx (k+1)))→C 0 W →
   CallsIn Fence.wide 0 P gf (#[.func (.yield l) #[] #[]]++lb) W (jg8 N C Cx)
theorem jmN{P:Program}{g:Operand}{ps:Array Tmp}{assign body:Code}{Q:Exit→Act→World→Prop}{a:Act}{w:World}
  {gf:Nat} {lb:Array Value} (hg:a.eval g=.func (.func gf) #[] lb) (eg:∀ args w,(callFunc gf args).run P w=.ok (.enter gf args) w)
  {N:Nat} {V:Nat→World→Array Value→Prop} {S:World→Prop} (IS:joP P gf lb N V S)
  (hps:∀ k W vs,V k W vs→vs.size=ps.size) (hV:∀ k W vs L o,V k W vs→Blk W (w.heap.size+1) (.loop L)→V k (W.putObj (w.heap.size+1) o) vs)
  (C:Nat→World→Prop) (Cj:Code→Nat→World→Prop) (hC:∀ k,St (C k)) (hCj:∀ c k,St (Cj c k)) (hS:∀ k W,C k W→S W)
  (hup:∀ k W o,C k W→C k (W.putObj w.heap.size o)) (hup1:∀ k W o,C k W→C k (W.putObj (w.heap.size+1) o)) (hupj:∀ c k W o,Cj c k W→Cj c k (W.putObj (w.heap.size+1) o))
  (h0:C 0 w) (a₁:Array Value→Act)
  (hassign:∀ (l k:Nat) (W:World) (vs:Array Value) (K:Act→World→Prop),k < N→V k W vs→K (a₁ vs) W →
   assign.wpIn (Fence.wide.inRound l) 0 P (Exit.then K (fun _ _ _=>False)) { tmps:=(ps.zip vs).foldl (fun t (p,v)=>t.setIfInBounds p v) a.tmps,defers:=[] } W)
  (hbody:∀ (l k:Nat) (W:World) (vs:Array Value),k < N→C k W→V k W vs→w.heap.size+1 < W.heap.size→body.wpIn (Fence.wide.inRound l) 0 P (jot w.heap.size W (C (k+1)) (fun c=>Cj c (k+1))) (a₁ vs) W)
  (hdone:∀ (W:World),C N W→Blk W w.heap.size (.deferred (some []))→Q .normal { a with defers:={ target:=.collected w.heap.size,args:=#[] } :: a.defers } W)
  (hstop:∀ (c:Code) (k:Nat) (W:World),k≤N→0 < k→Cj c k W→Blk W w.heap.size (.deferred (some [])) →
   c.wpIn Fence.wide 0 P Q { a with defers:={ target:=.collected w.heap.size,args:=#[] } :: a.defers } W) :
  (Code.rangeFunc g ps assign body).wpIn Fence.wide 0 P Q a w:=by
 refine wpIn_rangeFunc ?_;intro fn _;show ∃ l mark w₁ d w₁' f args w₂,(Instr.enterLoop fn a.tmps ps assign body none).run P w=_∧_
 obtain⟨rec,hrec⟩:∃ rec:LoopState→Option Code→Loop,rec=fun st pe=>{ state:=st,pending:=pe,fn,tmps:=a.tmps,params:=ps,assign,body,defers:=w.heap.size }:=⟨_,rfl⟩
 obtain⟨W1,hW1⟩:∃ W1,(w.alloc (.deferred (some []))).alloc (.loop (rec .ready none))=W1:=⟨_,rfl⟩
 have hL1:Blk W1 (w.heap.size+1) (.loop (rec .ready none)):=by
  rw[←hW1];have:=Blk.new (w.alloc (.deferred (some []))) (.loop (rec .ready none));rwa [World.size_alloc]at this
 have hK1:Blk W1 w.heap.size (.deferred (some [])):=by
  rw[←hW1];exact (Blk.new w _).alloc _
 have hX1:Ext w W1:=by rw[←hW1];exact ((jae.refl _ w).alloc _).alloc _
 refine⟨w.heap.size+1,[{ target:=.collected w.heap.size,args:=#[] }],W1,{ target:=.fn (.func gf) lb,args:=#[.func (.yield (w.heap.size+1)) #[] #[]] },W1,gf,
  #[.func (.yield (w.heap.size+1)) #[] #[]]++lb,W1,?_,?_,?_,?_,fun h=>by simp[Fence.wide]at h,?_⟩
 ·rw[←hW1,hrec];exact run_enterLoop_outer _ _ _ _ _
 ·simp only[resolve,hg]
  simp[go_sem]
 ·intro f' _;trivial
 ·simp[invoke,go_sem,eg]
 ·let CC:Nat→World→Prop:=fun k W=>C k W∧Blk W (w.heap.size+1) (.loop (rec .ready none))∧Blk W w.heap.size (.deferred (some []))
  let CX:Nat→World→Prop:=fun k W=>∃ c,Cj c k W∧Blk W (w.heap.size+1) (.loop (rec .done (some c)))∧Blk W w.heap.size (.deferred (some []))
  have key:=IS (w.heap.size+1) CC CX (fun k W W' ⟨h1,h2,h3⟩ e=>⟨hC k _ _ h1 e,h2.keeps e (fun h=>h),h3.keeps e (fun h=>h)⟩)
   (fun k W W' ⟨c,h1,h2,h3⟩ e=>⟨c,hCj c k _ _ h1 e,h2.keeps e (fun h=>h),h3.keeps e (fun h=>h)⟩) (fun k W h=>hS k W h.1) W1 ?_ ⟨hC 0 _ _ h0 hX1,hL1,hK1⟩
  ·refine CallsIn.mono key ?_
   rintro e W' ⟨⟨v,rfl⟩,hcase⟩;rcases hcase with⟨h1,h3,h4⟩ |⟨k,hk1,hk2,c,h1,h3,h4⟩
   ·obtain⟨ox,he⟩:∃ ox,(Instr.endLoop (w.heap.size+1)).run P W'=.ok none (W'.putObj (w.heap.size+1) ox):=⟨_,(run_endLoop (r:=rec .ready none) h3 (by rw[hrec];simp)).trans (by rw[hrec])⟩
    exact⟨none,_,he,hdone _ (hup1 N _ _ h1) (h4.put_other (by omega) _)⟩
   ·obtain⟨ox,he⟩:∃ ox,(Instr.endLoop (w.heap.size+1)).run P W'=.ok (some c) (W'.putObj (w.heap.size+1) ox):=⟨_,(run_endLoop (r:=rec .done (some c)) h3 (by rw[hrec];simp)).trans (by rw[hrec])⟩
    exact⟨some c,_,he,hstop c k _ hk1 hk2 (hupj c k _ _ h1) (h4.put_other (by omega) _)⟩
  ·rintro k W vs hk ⟨h1,h3,h4⟩ hvs
   refine⟨_,_,_,_,run_yield h3 (by rw[hrec];exact hps k W vs hvs),?_⟩
   refine roundIn_of_wpIn trivial ?_;rw[show (rec .ready none).tmps=a.tmps from by rw[hrec],show (rec .ready none).params=ps from by rw[hrec],show (rec .ready none).assign=assign from by rw[hrec],show (rec .ready none).body=body from by rw[hrec]];refine hassign _ k W vs _ hk hvs ?_
   refine⟨_,run_beginRound h3 (by rw[hrec]),?_⟩
   have hb1:C k (W.putObj (w.heap.size+1) (.loop { rec .ready none with state:=.busy })):=hup1 k _ _ h1;refine Code.wpIn_mono ?_ (hbody (w.heap.size+1) k _ vs hk hb1 (hV k W vs _ _ hvs h3) (by rw[World.putObj_size];exact h3.lt));have fin:∀ (j:Option Code) (W':World),jae (fun b=>b≠w.heap.size∧b≠w.heap.size+1) (W.putObj (w.heap.size+1) (.loop { rec .ready none with state:=.busy })) W' →
     (Instr.endRound (w.heap.size+1) j).run P W'=.ok (.bool j.isNone) (W'.putObj (w.heap.size+1) (.loop (rec (if j.isNone then .ready else .done) j))) ∧
     Blk (W'.putObj (w.heap.size+1) (.loop (rec (if j.isNone then .ready else .done) j))) (w.heap.size+1) (.loop (rec (if j.isNone then .ready else .done) j)) ∧
     Blk (W'.putObj (w.heap.size+1) (.loop (rec (if j.isNone then .ready else .done) j))) w.heap.size (.deferred (some [])):=by
    intro j W' hK;have hl:Blk W' (w.heap.size+1) (.loop { rec .ready none with state:=.busy }):=(h3.put_same _).keeps hK (fun h=>h.2 rfl);have hd:Blk W' w.heap.size (.deferred (some [])):=(h4.put_other (by omega) _).keeps hK (fun h=>h.1 rfl)
    refine⟨?_,hl.put_same _,hd.put_other (by omega) _⟩
    rw[run_endRound j hl,hrec]
   intro e a' W' hq;cases e with
   | normal =>
    obtain⟨hK,hc⟩:=hq
    obtain⟨f1,f2,f3⟩:=fin none W' hK
    exact⟨_,_,f1,.inl ⟨rfl,hup1 _ _ _ hc,f2,f3⟩⟩
   | ret =>
    obtain⟨hK,hc⟩:=hq
    obtain⟨f1,f2,f3⟩:=fin (some .ret) W' hK
    exact⟨_,_,f1,.inr ⟨rfl,.ret,hupj _ _ _ _ hc,f2,f3⟩⟩
   | exit i =>
    obtain⟨hK,hc⟩:=hq
    obtain⟨f1,f2,f3⟩:=fin (some (.exit i)) W' hK
    exact⟨_,_,f1,.inr ⟨rfl,.exit i,hupj _ _ _ _ hc,f2,f3⟩⟩
   | goto t=>exact hq.elim
   | panic ch=>exact hq.elim
   | outgrown=>exact hq.elim
end
section
open Go Go.RowKit
attribute [local go_sem] Oper.semAt_some
def jq4(xs:List ByteArray)(k:Nat)(W:World)(vs:Array Value):Prop:=
 (k < xs.length∧vs=#[.string (xs.getD k ⟨#[]⟩),.nilIface])∨(k=xs.length∧∃ b,vs=#[.string ⟨#[]⟩,.iface 324 (.pointer (some ⟨b,0,none⟩))]∧Fa2 W b)
def jmT(W:World)(xs:List ByteArray)(z0:ByteArray)(C:Nat→World→Prop)(v:Value)(wr:World):Prop:=∃ k:Nat,k≤xs.length∧v=.string (catB (xs.drop k)++z0)∧C k wr
theorem jnn(b:Nat)(xs:List ByteArray)(z0:ByteArray)(hx:∀ x∈xs,jcG x)(hs:(catB xs++z0).size≤1000000000)(hz0:0 < z0.size)(hcz:cutN z0=none):joP Tryz.prog 246 #[.pointer (some ⟨b,0,none⟩)] (xs.length+1) (jq4 xs) (fun W=>Blk W b (.cells #[.string (catB xs++z0)] 9)):=by
 intro l C Cx hC hCx hS W hY h0;have hB:=(hS 0 W h0).cell (i:=0) (v:=.string (catB xs++z0)) (by rfl);have HY:=Hd hY;have H0:=Hd h0;have HSZ:=Hd hs;have HZ0:=Hd hz0;have HCZ:=Hd hcz;have HSS0:=Hd hS;clear hY h0 hS hs hz0 hcz;refine callsIn_of_wp Tryz.func246 rfl trivial ?_ rfl;simp only[Tryz.ntmps246,List.size_toArray,List.length_cons,List.length_nil,Nat.reduceAdd,Nat.reduceSub,Array.replicate_succ,Array.replicate_zero,List.push_toArray,List.append_toArray,List.nil_append,List.cons_append];gi_wp2;have HST:=Hd hC;have HSX:=Hd hCx;clear hC hCx;gi_loopw [3] (fun v wr=>jmT W xs z0 C v wr) (fun v _=>jqY v)
 case atStart=>exact⟨0,by omega,rfl,H0.o⟩
 case round =>
  obtain⟨k,hk,rfl,hCk⟩:=hrel
  have HCk:=Hd hCk;clear hCk
  by_cases hlt:k < xs.length
  ·obtain⟨x,hxk⟩:∃ x,x=xs[k]:=⟨_,rfl⟩
   have hdc:=ji0 hlt;rw[←hxk]at hdc
   obtain⟨y,hy⟩:∃ y,y=catB (xs.drop (k+1))++z0:=⟨_,rfl⟩
   have hdc:catB (xs.drop k)++z0=x++y:=by rw[hy,hdc,ByteArray.append_assoc]
   have hsz:(x++y).size≤1000000000:=by
    have h1:(catB (xs.drop k)++z0).size≤(catB xs++z0).size:=by
     have h2:(catB xs).size=(catB (xs.take k)).size+(catB (xs.drop k)).size:=by
      conv=>lhs;rw[←List.take_append_drop k xs]
      simp only[catB,ByteArray.size,List.map_append,List.flatten_append,List.size_toArray,List.length_append]
     rw[ByteArray.size_append,ByteArray.size_append];omega
    rw[hdc]at h1;have:=HSZ.o;omega
   obtain⟨r,hr1,hr2⟩:=hx x (hxk ▸ List.getElem_mem hlt) y hsz
   obtain⟨z,hz⟩:∃ z,z=x++y:=⟨_,rfl⟩
   have hzs:z.size=x.size+y.size:=by rw[hz,ByteArray.size_append]
   rw[←hz]at hdc hsz hr1;rw[hdc];have hpos:=jcu hr1;have hne:=jaO hpos.1;have he1:z.extract (r.2.1+r.2.2) z.size=y:=by
    rw[hr2,hz];exact jd9 x y
   have he2:z.extract 0 x.size=x:=by
    rw[hz];exact jfl x y
   have hgx:xs.getD k ⟨#[]⟩=x:=by rw[List.getD_eq_getElem?_getD,List.getElem?_eq_getElem hlt, ←hxk];rfl
   have HGX:=Hd hgx;have HX:=Hd hxk;have HSS:=Hd hsz;have HYY:=Hd hy;have HZ:=Hd hz;have HZS:=Hd hzs;have HP:=Hd hpos;have HR2:=Hd hr2;clear hxk hdc hy hz hgx hpos hr2 hzs;gi_wp2_with fail
   refine⟨trivial,rfl,CallsIn.mono (callsIn_wide.2 (jpb wr z r hsz hr1)) ?_⟩
   rintro e w1 ⟨rfl,hE⟩;unfold jcq;rw[he1]
   obtain⟨u,hu⟩:∃ u,u=z.extract r.2.1 (r.2.1+r.2.2):=⟨_,rfl⟩
   rw[←hu]
   obtain⟨b1,o,ln⟩:=r
   simp only;clear hr1 he1 hu hsz
   obtain⟨fn,tm,asg,bd,hyr,hrd⟩:=HY.o k w1 _ (by omega) (HST.o k _ _ HCk.o hE) (.inl ⟨hlt,rfl⟩)
   simp only[HGX.o]at hyr;have HRD:=Hd hrd;clear hE hrd;have c1:(z.size:Int) - (y.size:Int)=(x.size:Int):=by have:=HZS.o;omega
   have c2:(x.size:Int)≤(z.size:Int):=by have:=HZS.o;omega
   have c3:z.size≤1000000000:=HSS.o;gi_wp2
   refine⟨rfl,(HRD.o.mono ?_)⟩
   rintro e w5 (⟨rfl,C5⟩ |⟨rfl,C5⟩)
   ·have HC5:=Hd C5
    clear C5;gi_wp2;go_roundw
    case rel=>exact⟨k+1,by omega,by rw[←HYY.o],HC5.o⟩
    case measure=>show y.size < z.size;have:=(show 0 < o+ln from HP.o.2);have:=HZS.o;have:=(show o+ln=x.size from HR2.o);omega
   ·have HC5:=Hd C5
    clear C5;gi_wp2;refine bodyPost_ret (results_none rfl _ _ _) rfl ?_
    exact⟨⟨_,rfl⟩,.inr ⟨k+1,by omega,by omega,HC5.o⟩⟩
  ·have hkl:k=xs.length:=by omega
   subst hkl;have hd:catB (xs.drop xs.length)++z0=z0:=by rw[List.drop_length];exact ByteArray.empty_append
   rw[hd];have hne:=jaO HZ0.o;have hsz:z0.size≤(catB xs++z0).size:=by rw[ByteArray.size_append];omega
   have hBk:=(HSS0.o _ _ HCk.o).cell (i:=0) (v:=.string (catB xs++z0)) (by rfl)
   obtain⟨s,hs⟩:∃ s,s=catB xs++z0:=⟨_,rfl⟩
   rw[←hs]at hsz hBk;have hs9:s.size≤1000000000:=by rw[hs];exact HSZ.o
   have HS:=Hd hs;clear hd hs;gi_wp2_with fail
   refine⟨trivial,rfl,CallsIn.mono (callsIn_wide.2 (joA wr z0 (by omega) HCZ.o)) ?_⟩
   rintro e w1 ⟨v,rfl,hE,hF⟩
   obtain⟨c,k2,rfl,hFB,hFn⟩:=hF
   have hBk:=jab hBk hE;have HCk1:=Hd (HST.o _ _ _ HCk.o hE);have HFB:=Hd hFB;have hx2:Ext w1 (w1.alloc (.cells #[.int .i64 ((s.size:Int) - (z0.size:Int)),.iface 324 (.pointer (some ⟨c,0,none⟩))] 326)):=(ExtR w1).alloc _
   obtain⟨fn,tm,asg,bd,hyr,hrd⟩:=HY.o xs.length _ _ (Nat.lt_succ_self _) (HST.o _ _ _ HCk1.o hx2) (.inr ⟨rfl,w1.heap.size,rfl,c,_,k2,Blk.new w1 _,hFB.alloc _⟩)
   have HRD:=Hd hrd;clear hE hFB HCk hx2 hrd;gi_wp2_with fail
   refine⟨rfl,(HRD.o.mono ?_)⟩
   rintro e w5 (⟨rfl,C5⟩ |⟨rfl,C5⟩)
   ·have HC5:=Hd C5
    clear C5;gi_wp2;refine bodyPost_ret (results_none rfl _ _ _) rfl ?_
    exact⟨⟨_,rfl⟩,.inl HC5.o⟩
   ·have HC5:=Hd C5
    clear C5;gi_wp2;refine bodyPost_ret (results_none rfl _ _ _) rfl ?_
    exact⟨⟨_,rfl⟩,.inr ⟨xs.length+1,Nat.le_refl _,Nat.succ_pos _,HC5.o⟩⟩
theorem at_c(w:World)(b:Nat)(k:Int)(c:Value)(hB:Blk w b (.cells #[.int .i64 k,c] 326)):Calls Tryz.prog 323 #[.pointer (some ⟨b,0,none⟩)] w fun e w'=>e=.returned (.int .i64 k)∧w=w':=by
 have q0:=hB.cell (i:=0) (v:=.int .i64 k) (by rfl);clear hB;go_enter Tryz.func323,Tryz.ntmps323;go_wp2_with fail
 go_ret
 exact⟨rfl,rfl⟩
theorem Tryz.methodAt(n:Nat)(v:Value)(w:World):(Go.method (n+1) 324 v "At").run Tryz.prog w=.ok (323,v) w:=by kernel_rfl
def WhyP(w:World)(e:Ending)(w':World):Prop:=∃ k:Int,e=.returned (.tuple #[.int .i64 k,.int .i64 2])∧Ext w w'
theorem jrx(w:World)(b:Nat)(hG:ErrT w)(hF:Fa2 w b):Calls Tryz.prog 227 #[.iface 324 (.pointer (some ⟨b,0,none⟩))] w (WhyP w):=by
 have HG:=Hd hG;have HF:=Hd hF;have hM:=fun v w=>Tryz.methodAt 487 v w;clear hG hF;go_enter Tryz.func227,Tryz.ntmps227;go_wp2_with fail
 have hx1:Ext w (w.alloc (.cells #[.nilIface] 327)):=(ExtR w).alloc _;refine (jmS _ w.heap.size b (Blk.new w _)).mono ?_;rintro e w1 ⟨rfl,hk,hB⟩;have hE1:Ext w w1:=hx1.trans' hk (fun z hz e=>by have e:z=w.heap.size:=e;omega);have HF1:=Hd (HF.o.ext hE1);have HE1:=Hd hE1;have q1:=hB.cell (i:=0) (v:=.iface 324 (.pointer (some ⟨b,0,none⟩))) (by rfl);clear hk hB hE1 hx1;go_wp2_with fail
 obtain⟨c,k,l,hF1,hF2⟩:=HF1.o
 refine (at_c w1 b k _ hF1).mono ?_;rintro e w2 ⟨rfl,rfl⟩;clear hF1 hF2 q1;go_wp2_with fail
 have hx2:Ext w1 (w1.alloc (.cells #[.int .i64 0] 27)):=(ExtR w1).alloc _;refine (jmR _ w1.heap.size b 0 (HG.o.ext (HE1.o.trans hx2)) (HF1.o.ext hx2) (Blk.new w1 _)).mono ?_;rintro e w3 ⟨rfl,hk,hB⟩;have HE3:=Hd (HE1.o.trans (hx2.trans' hk (fun z hz e=>by have e:z=w1.heap.size:=e;omega)));have q1:=hB.cell (i:=0) (v:=.int .i64 2) (by rfl);clear hk hB hx2;go_wp2_with fail
 go_ret2
 exact⟨k,rfl,HE3.o⟩
structure ItN(w:World)(g m:Nat)(s:ByteArray)(k:Nat)(W:World):Prop where
 ext:Ext w W
 b2:Blk W g (.cells #[.slice none 0 0] 34)
 b3:Blk W (g+1) (.cells #[.int .i64 0] 27)
 bc:Blk W (g+3) (.cells #[.string s] 9)
 row:∃ v xs,Blk W (g+2) (.cells #[v] 34)∧W.ownsRow 0 9 1 v k xs∧∀ b,v.ownBlock=some b→m+2≤b
theorem ItN.st{w:World}{g m:Nat}{s:ByteArray}{k:Nat}{W W':World}(h:ItN w g m s k W)(e:Ext W W'):ItN w g m s k W':=
 let ⟨v,xs,h1,h2,h3⟩:=h.row
 ⟨h.ext.trans e,h.b2.keeps e (fun h=>h),h.b3.keeps e (fun h=>h),h.bc.keeps e (fun h=>h),v,xs,h1.keeps e (fun h=>h),ja7 h2 e,h3⟩
theorem ItN.put{w:World}{g m:Nat}{s:ByteArray}{k:Nat}{W:World}(h:ItN w g m s k W){r:Nat}(hr:w.heap.size≤r)(h1:g+3 < r)(h2:r < m+2)(o:Obj):ItN w g m s k (W.putObj r o):=
 let ⟨v,xs,h3,h4,h5⟩:=h.row
 ⟨h.ext.putObj (.inr hr) _,h.b2.put_other (by omega) _,h.b3.put_other (by omega) _,h.bc.put_other (by omega) _,v,xs,h3.put_other (by omega) _,
  jaG h4 (jae.onePut W r o) (fun b hb e=>by have:=h5 b hb;omega),h5⟩
structure ItX(w:World)(g:Nat)(W:World):Prop where
 ext:Ext w W
 b2:Blk W g (.cells #[.slice none 0 0] 34)
 b3:Blk W (g+1) (.cells #[.int .i64 2] 27)
theorem ItX.st{w:World}{g:Nat}{W W':World}(h:ItX w g W)(e:Ext W W'):ItX w g W':=⟨h.ext.trans e,h.b2.keeps e (fun h=>h),h.b3.keeps e (fun h=>h)⟩
theorem ItX.put{w:World}{g:Nat}{W:World}(h:ItX w g W){r:Nat}(hr:w.heap.size≤r)(h1:g+1 < r)(o:Obj):ItX w g (W.putObj r o):=⟨h.ext.putObj (.inr hr) _,h.b2.put_other (by omega) _,h.b3.put_other (by omega) _⟩
def va0(vs:Array Value):Value:=vs.getD 0 undef
def va1(vs:Array Value):Value:=vs.getD 1 undef
theorem Fa2.put{W:World}{b r:Nat}{o L:_}(h:Fa2 W b)(hB:Blk W r (.loop L)):Fa2 (W.putObj r o) b:=by
 obtain⟨c,k,l,h1,h2⟩:=h
 have ne:∀ {x:Nat} {cs T},Blk W x (.cells cs T)→x≠r:=fun hx e=>by
  subst e
  have:=hx.symm.trans hB
  cases this
 exact⟨c,k,l,h1.put_other (ne h1) _,h2.put_other (ne h2) _⟩
theorem jnF(w:World)(hG:ErrT w)(xs:List ByteArray)(z0:ByteArray)(hx:∀ x∈xs,jcG x)(hs:(catB xs++z0).size≤1000000000)(hn:xs.length≤1000000)(hz0:0 < z0.size)(hcz:cutN z0=none):Calls Tryz.prog 188 #[.string (catB xs++z0)] w fun e w'=>e=.returned (.tuple #[.slice none 0 0,.int .i64 2])∧Ext w w':=by
 obtain⟨i0,hi,hz,hz1,hz2⟩:=info_parts Tryz.infoStr
 have hIT:=fun b=>jnn b xs z0 hx hs hz0 hcz
 obtain⟨s,hsd⟩:∃ s,s=catB xs++z0:=⟨_,rfl⟩
 rw[←hsd]at hIT ⊢;have HIT:=Hd hIT;have HG:=Hd hG;clear hsd hIT hs hx hz0 hcz hG;rw[←callsIn_wide (n:=0)];refine callsIn_of_wp_marks Tryz.func188 rfl trivial ?_ rfl;simp only[Tryz.ntmps188,List.size_toArray,List.length_cons,List.length_nil,Nat.reduceAdd,Nat.reduceSub,Array.replicate_succ,Array.replicate_zero,List.push_toArray,List.append_toArray,List.nil_append,List.cons_append];gi_wp2_with fail
 obtain⟨W0,hW0⟩:∃ W0,W0=((w.alloc (.cells #[.slice none 0 0] 34)).alloc (.cells #[.int .i64 0] 27)).alloc (.cells #[.slice none 0 0] 34):=⟨_,rfl⟩
 rw[←hW0];have hs0:W0.heap.size=w.heap.size+3:=by rw[hW0];simp
 have E0:Ext w W0:=by rw[hW0];exact ((((ExtR w).alloc _).alloc _).alloc _)
 have B2:Blk W0 w.heap.size (.cells #[.slice none 0 0] 34):=by rw[hW0];exact ((Blk.new w _).alloc _).alloc _
 have B3:Blk W0 (w.heap.size+1) (.cells #[.int .i64 0] 27):=by
  rw[hW0];have:=(Blk.new (w.alloc (.cells #[.slice none 0 0] 34)) (.cells #[.int .i64 0] 27)).alloc (.cells #[.slice none 0 0] 34);rwa [World.size_alloc]at this
 have B4:Blk W0 (w.heap.size+2) (.cells #[.slice none 0 0] 34):=by
  rw[hW0];have:=(Blk.new ((w.alloc (.cells #[.slice none 0 0] 34)).alloc (.cells #[.int .i64 0] 27)) (.cells #[.slice none 0 0] 34));rwa [World.size_alloc,World.size_alloc]at this
 clear hW0
 refine⟨trivial,rfl,CallsIn.mono (callsIn_wide.2 (joB W0 s)) ?_⟩
 rintro e w1 ⟨rfl,hbc,hE⟩;rw[hs0]at hbc ⊢;have S0:ItN w w.heap.size w1.heap.size s 0 w1:=⟨E0.trans hE,B2.keeps hE (fun h=>h),B3.keeps hE (fun h=>h),hbc,_,[],B4.keeps hE (fun h=>h),World.ownsRow_nil _ _ _ _,fun b hb=>by cases hb⟩;have hl1:=hbc.lt;have HS0:=Hd S0;clear hs0 E0 B2 B3 B4 hbc hE S0 W0;gi_wp2_with fail
 refine jmN (N:=xs.length+1) (gf:=246) (lb:=#[.pointer (some ⟨w.heap.size+3,0,none⟩)]) rfl Tryz.enterEach1 (HIT.o (w.heap.size+3))
  (fun k W vs h=>by rcases h with⟨_,rfl⟩ |⟨_,b,rfl,_⟩ <;> rfl)
  (fun k W vs L o h hB=>h.imp id fun ⟨h1,b,h2,h3⟩=>⟨h1,b,h2,h3.put hB⟩)
  (fun k W=>k≤xs.length∧ItN w w.heap.size w1.heap.size s k W) (fun cd _ W=>cd=.ret∧ItX w w.heap.size W)
  (fun k W W' h e=>⟨h.1,h.2.st e⟩) (fun cd _ W W' h e=>⟨h.1,h.2.st e⟩) (fun k W h=>h.2.bc)
  (fun k W o h=>⟨h.1,h.2.put (by omega) (by omega) (by omega) _⟩)
  (fun k W o h=>⟨h.1,h.2.put (by omega) (by omega) (by omega) _⟩) (fun cd _ W o h=>⟨h.1,h.2.put (by omega) (by omega) _⟩)
  ⟨Nat.zero_le _,HS0.o⟩ (fun vs=>{ tmps:=#[.string s,undef,.pointer (some ⟨w.heap.size,0,none⟩),.pointer (some ⟨w.heap.size+1,0,none⟩),.pointer (some ⟨w.heap.size+1+1,0,none⟩),va0 vs,va1 vs,undef,undef,.string s,.func (.func 246) #[] #[.pointer (some ⟨w.heap.size+3,0,none⟩)],va0 vs,va1 vs,undef,undef,undef,undef,undef,undef,undef,undef,undef,undef,undef,undef,undef],defers:=[] })
  ?hassign ?hbody ?hdone ?hstop
 case hassign =>
  intro l j W vs K hj hV hK
  obtain⟨a,b,rfl⟩:∃ a b,vs=#[a,b]:=by rcases hV with⟨_,rfl⟩ |⟨_,b,rfl,_⟩ <;> exact⟨_,_,rfl⟩
  rw[jgE];simp only[List.set_cons_zero,List.set_cons_succ];gi_wp2;exact hK
 case hbody =>
  rintro l k W vs hk ⟨hkl,hS⟩ hV hlt;rcases hV with⟨hlk,rfl⟩ |⟨rfl,b,rfl,hF⟩
  ·have e0:va0 #[.string (xs.getD k ⟨#[]⟩),.nilIface]=.string (xs.getD k ⟨#[]⟩):=rfl
   have e1:va1 #[.string (xs.getD k ⟨#[]⟩),.nilIface]=.nilIface:=rfl;rw[e0,e1]
   obtain⟨v,ys,h1,h2,h3⟩:=hS.row
   obtain⟨ad,cp,rfl⟩:=jaH h2
   obtain⟨x,hxk⟩:∃ x,x=xs.getD k ⟨#[]⟩:=⟨_,rfl⟩
   rw[←hxk];have q4:W.cell? ⟨w.heap.size+1+1,0,none⟩=some (.slice ad k cp):=h1.cell (i:=0) (by rfl);have f4:W.frozen? ⟨w.heap.size+1+1,0,none⟩=false:=h1.frozen;have HS:=Hd hS;have H1:=Hd h1;have H2:=Hd h2;have H3:=Hd h3;clear hS h1 h2 h3 hxk e0 e1;gi_wp2_with (gi_at_builtin;refine jbd _ rfl (.tmp 21) (.tmp 23) 34 rfl 9 i0 _ 1 16 Tryz.uStrs hi hz hz1 hz2 rfl (by decide) (.slice ad k cp) k _ rfl (ja7 H2.o ((ExtR W).alloc _)) ⟨W.heap.size,0,none⟩ 1 1 [.string x] rfl rfl (jbe (Blk.new W _)) (by simp[Value.oneCell']) (by unfold maxLen;omega) (by omega) ?_)
   intro v' w6 r1 r2 r3;have K6:jae (fun b=>(Value.slice ad k cp).ownBlock=some b) W w6:=((jae.refl _ W).alloc _).trans r2;have hlt1:=HS.o.b2.lt;have hlt4:=H1.o.lt;have hw3:w.heap.size≤w1.heap.size:=by omega
   have nb:∀ b,b < w1.heap.size+2→¬(Value.slice ad k cp).ownBlock=some b:=fun b hb e=>by have:=H3.o b e;omega
   obtain⟨ad',cp',rfl⟩:=jaH r1
   have hv':∀ b,(Value.slice ad' (k+1) cp').ownBlock=some b→w1.heap.size+2≤b:=fun b hb=>by
    rcases r3 with r3 | r3
    ·exact H3.o b (r3 ▸ hb)
    ·have:=r3 b hb;omega
   have B4:=H1.o.keeps K6 (nb _ (by omega));have q4':w6.cell? ⟨w.heap.size+1+1,0,none⟩=some (.slice ad k cp):=B4.cell (i:=0) (by rfl);have f4':w6.frozen? ⟨w.heap.size+1+1,0,none⟩=false:=B4.frozen;have HK6:=Hd K6;have HB4:=Hd B4;have R1:=Hd r1;have HV':=Hd hv';have NB:=Hd nb;clear K6 r1 r2 r3 hv' B4 nb q4 f4;gi_wp2;have k7:jae (fun b=>b=w.heap.size+1+1) w6 (w6.setCell ⟨w.heap.size+1+1,0,none⟩ (.slice ad' (k+1) cp')):=jae.oneSet w6 ⟨w.heap.size+1+1,0,none⟩ _
   refine⟨(HK6.o.mono (fun x _ e=>?_)).trans' k7 (fun x _ e=>?_),?_⟩
   ·have:=H3.o x e;show x≠_∧x≠_;omega
   ·have e:x=_:=e;show x≠_∧x≠_;omega
   ·refine⟨by omega,(HS.o.ext.trans' HK6.o (fun x hx e=>by have:=H3.o x e;omega)).trans' k7 (fun x hx e=>by have e:x=_:=e;omega),
     (HS.o.b2.keeps HK6.o (NB.o _ (by omega))).keeps k7 (fun e=>by omega),(HS.o.b3.keeps HK6.o (NB.o _ (by omega))).keeps k7 (fun e=>by omega),(HS.o.bc.keeps HK6.o (NB.o _ (by omega))).keeps k7 (fun e=>by omega),
     _,_,HB4.o.set_same (i:=0) _,jaG R1.o k7 (fun b hb e=>by have:=HV'.o b hb;omega),HV'.o⟩
  ·have e0:va0 #[.string ⟨#[]⟩,.iface 324 (.pointer (some ⟨b,0,none⟩))]=.string ⟨#[]⟩:=rfl
   have e1:va1 #[.string ⟨#[]⟩,.iface 324 (.pointer (some ⟨b,0,none⟩))]=.iface 324 (.pointer (some ⟨b,0,none⟩)):=rfl;rw[e0,e1];have hq:∀ w,(binOp .neq 162 (.iface 324 (.pointer (some ⟨b,0,none⟩))) .nilIface).run Tryz.prog w=.ok (.bool true) w:=fun w=>by kernel_rfl
   have HS:=Hd hS;have HF:=Hd hF;clear hS hF e0 e1;gi_wp2_with fail
   refine⟨trivial,rfl,CallsIn.mono (CallsIn.inRound l (callsIn_wide.2 (jrx W b (HG.o.ext HS.o.ext) HF.o))) ?_⟩
   rintro e w5 ⟨kk,rfl,hE⟩;have B2:=HS.o.b2.keeps hE (fun h=>h);have B3:=HS.o.b3.keeps hE (fun h=>h);have f2:w5.frozen? ⟨w.heap.size,0,none⟩=false:=B2.frozen;have f3:w5.frozen? ⟨w.heap.size+1,0,none⟩=false:=B3.frozen;have q2:=B2.cell (i:=0) (v:=.slice none 0 0) (by rfl);have q3:=B3.cell (i:=0) (v:=.int .i64 0) (by rfl);have HB2:=Hd B2;have HB3:=Hd B3;have HE:=Hd hE;have hlt1:=B2.lt;clear B2 B3 hE;gi_wp2;have C2:=(HB2.o.set_same (i:=0) (.slice none 0 0)).set_other (p:=⟨w.heap.size+1,0,none⟩) (by show w.heap.size≠w.heap.size+1;omega) (.int .i64 2);have C3:=(HB3.o.set_other (p:=⟨w.heap.size,0,none⟩) (by show w.heap.size+1≠w.heap.size;omega) (.slice none 0 0)).set_same (i:=0) (.int .i64 2);have K5:jae (fun b=>b=w.heap.size∨b=w.heap.size+1) W ((w5.setCell ⟨w.heap.size,0,none⟩ (.slice none 0 0)).setCell ⟨w.heap.size+1,0,none⟩ (.int .i64 2)):=
    ((HE.o.mono (fun _ _ h=>h.elim)).setCell (.inl (.inl rfl)) _).setCell (.inl (.inr rfl)) _
   refine⟨K5.mono (fun x hx e=>?_),?_⟩
   ·show x≠_∧x≠_;omega
   ·exact⟨rfl,HS.o.ext.trans' K5 (fun x hx e=>by omega),C2,C3⟩
 case hdone =>
  rintro W ⟨h,_⟩ hd;omega
 case hstop =>
  rintro cd k W hk hk0 ⟨rfl,h⟩ hd;have HX:=Hd h;have HD:=Hd hd;clear h hd;have K3:Ext w (W.putObj w1.heap.size (.deferred none)):=HX.o.ext.putObj (.inr (by omega)) _;have c2:(W.putObj w1.heap.size (.deferred none)).cell? ⟨w.heap.size,0,none⟩=some (.slice none 0 0):=(HX.o.b2.put_other (by omega) _).cell (i:=0) (by simp);have c3:(W.putObj w1.heap.size (.deferred none)).cell? ⟨w.heap.size+1,0,none⟩=some (.int .i64 2):=(HX.o.b3.put_other (by omega) _).cell (i:=0) (by simp);gi_wp2
  refine⟨by simp,.inl ⟨_,_,rfl,run_takeDeferred HD.o,?_⟩⟩
  exact⟨.tuple #[.slice none 0 0,.int .i64 2],by simp[results,Tryz.results188,go_sem,c2,c3],rfl,K3⟩
end
section
open Go Go.RowKit
theorem jnL{a:UInt8}{t t':List UInt8}{to n:Nat}(h2:2≤to)(h:lenB ⟨(a :: t).toArray⟩ to=some n)(hl:to≤t'.length+1)(he:t'.take (to - 1)=t.take (to - 1)):lenB ⟨(a :: t').toArray⟩ to=some n:=by
 obtain⟨h3,h4,h5,h6,h7⟩:=jcD h
 have e1:((⟨(a :: t').toArray⟩:ByteArray).data.toList.take to).drop 1=((⟨(a :: t).toArray⟩:ByteArray).data.toList.take to).drop 1:=by
  show ((a :: t').take to).drop 1=((a :: t).take to).drop 1
  obtain⟨k,rfl⟩:∃ k,to=k+1:=⟨to - 1,by omega⟩
  rw[List.take_succ_cons,List.take_succ_cons,List.drop_succ_cons,List.drop_succ_cons];simpa using he
 have e2:(⟨(a :: t').toArray⟩:ByteArray).data.toList.getD 1 0=(⟨(a :: t).toArray⟩:ByteArray).data.toList.getD 1 0:=by
  show t'.getD 0 0=t.getD 0 0;have g:∀ l:List UInt8,l.getD 0 0=(l.take (to - 1)).getD 0 0:=fun l=>by
   cases l with
   | nil=>simp
   | cons x r =>
    obtain⟨k,hk⟩:∃ k,to - 1=k+1:=⟨to - 2,by omega⟩
    rw[hk];rfl
  rw[g t',g t,he]
 unfold lenB;rw[e1,e2,h5,if_neg,if_pos ⟨h6,h7⟩];rintro (hh | hh)
 ·have:(⟨(a :: t').toArray⟩:ByteArray).size=t'.length+1:=rfl
  omega
 ·exact h4 hh
theorem jpd(s y:ByteArray)(r:Bool × Nat × Nat)(h:cutN s=some r):cutN (s.extract 0 (r.2.1+r.2.2)++y)=some r:=by
 obtain⟨⟨l⟩⟩:=s
 cases l with
 | nil=>exact absurd (jcu h).1 (by decide)
 | cons a t =>
  obtain⟨b,o,n⟩:=r
  have hpos:=(jcu h).2;have hle:=jfc h;have hle:o+n≤t.length+1:=hle;have hpos:0 < o+n:=hpos;have e0:(ByteArray.extract ⟨⟨a :: t⟩⟩ 0 (o+n)++y)=⟨(a ::(t.take (o+n - 1)++y.data.toList)).toArray⟩:=by
   apply ByteArray.ext;apply Array.ext';rw[ByteArray.data_append,Array.toList_append,ByteArray.data_extract,Array.toList_extract,List.extract_eq_take_drop];show ((a :: t).drop 0).take (o+n - 0)++_=_
   obtain⟨k,hk⟩:∃ k,o+n=k+1:=⟨o+n - 1,by omega⟩
   rw[hk];rfl
  show cutN (ByteArray.extract ⟨⟨a :: t⟩⟩ 0 (o+n)++y)=_;rw[e0];have h:cutN ⟨(a :: t).toArray⟩=some (b,o,n):=h;rw[jcS]at h ⊢
  obtain⟨m,hm⟩:∃ m,m=(if a.toNat < 192 then a.toNat - 128 else a.toNat - 192):=⟨_,rfl⟩
  rw[←hm]at h ⊢;have hmb:m≤63:=by have:=a.toNat_lt;rw[hm];split <;> omega
  clear hm e0;have hlen:(t.take (o+n - 1)++y.data.toList).length=(o+n - 1)+y.data.toList.length:=by
   rw[List.length_append,List.length_take,Nat.min_eq_left (by omega)]
  by_cases h1:a.toNat < 128
  ·rw[if_pos h1]at h ⊢;exact h
  rw[if_neg h1]at h ⊢
  by_cases h2:m≤55
  ·rw[if_pos h2]at h ⊢
   split at h
   ·rename_i hc
    obtain⟨rfl,e⟩:=Prod.mk.inj (Option.some.inj h)
    obtain⟨rfl,rfl⟩:=Prod.mk.inj e
    rw[if_pos]
    refine⟨by rw[hlen];omega,hc.2.imp id fun hc=>?_⟩
    by_cases hm1:m=1
    ·subst hm1
     refine .inr ?_;have hc:128≤((a :: t).getD 1 0).toNat:=hc.resolve_left (fun h=>h rfl);cases t with
     | nil=>exact absurd (show 2≤1 from hle) (by decide)
     | cons x t=>simpa using hc
    ·exact .inl hm1
   ·cases h
  ·rw[if_neg h2]at h ⊢
   split at h
   ·rename_i n' hl
    split at h
    ·rename_i hc
     obtain⟨rfl,e⟩:=Prod.mk.inj (Option.some.inj h)
     obtain⟨rfl,rfl⟩:=Prod.mk.inj e
     rw[jnL (by omega) hl (by rw[hlen];omega) (by
      rw[List.take_append_of_le_length (by rw[List.length_take,Nat.min_eq_left (by omega)];omega),List.take_take,Nat.min_eq_left (by omega)])]
     show (if _ then _ else _)=_;rw[if_pos (by rw[hlen];omega)]
    ·cases h
   ·cases h
theorem jpp{s:ByteArray}{r:Bool × Nat × Nat}(h:cutN s=some r):jcG (s.extract 0 (r.2.1+r.2.2)):=fun y _=>⟨r,jpd s y r h,by
 have:=jfc h
 rw[ByteArray.size_extract];omega⟩
theorem jlu(s:ByteArray)(k:Nat):s.extract 0 k++s.extract k s.size=s:=by
 apply ByteArray.ext;apply Array.ext';rw[ByteArray.data_append,Array.toList_append,ByteArray.data_extract,ByteArray.data_extract,Array.toList_extract,Array.toList_extract,List.extract_eq_take_drop,List.extract_eq_take_drop];show (s.data.toList.drop 0).take (k - 0)++(s.data.toList.drop k).take (s.size - k)=_;rw[List.take_of_length_le (l:=s.data.toList.drop k) (by rw[List.length_drop];exact Nat.le_refl _)];exact List.take_append_drop k _
theorem jiB:∀ (f:Nat) (s:ByteArray),s.size≤f→∃ xs z,(∀ x∈xs,jcG x)∧s=catB xs++z∧(∀ x∈xs,x.size≤s.size)∧xs.length≤s.size∧(z=⟨#[]⟩∨(0 < z.size∧cutN z=none)):=by
 intro f;induction f with
 | zero =>
  intro s hs
  have:s=⟨#[]⟩:=jbS (by omega)
  subst this
  exact⟨[],⟨#[]⟩,(fun x hx=>(List.not_mem_nil hx).elim),(by decide),(fun x hx=>(List.not_mem_nil hx).elim),(by decide),.inl rfl⟩
 | succ f ih =>
  intro s hs
  by_cases h0:s.size=0
  ·have:s=⟨#[]⟩:=jbS h0
   subst this
   exact⟨[],⟨#[]⟩,(fun x hx=>(List.not_mem_nil hx).elim),(by decide),(fun x hx=>(List.not_mem_nil hx).elim),(by decide),.inl rfl⟩
  cases hc:cutN s with
  | none=>exact⟨[],s,(fun x hx=>(List.not_mem_nil hx).elim),ByteArray.empty_append.symm,(fun x hx=>(List.not_mem_nil hx).elim),Nat.zero_le _,.inr ⟨by omega,hc⟩⟩
  | some r =>
   have hp:=(jcu hc).2;have hle:=jfc hc;have hd:(s.extract (r.2.1+r.2.2) s.size).size=s.size - (r.2.1+r.2.2):=by rw[ByteArray.size_extract];omega
   obtain⟨xs,z,h1,h2,h3,h4,h5⟩:=ih (s.extract (r.2.1+r.2.2) s.size) (by omega)
   refine⟨s.extract 0 (r.2.1+r.2.2) :: xs,z,fun x hx=>?_,?_,fun x hx=>?_,by rw[List.length_cons];omega,h5⟩
   ·rcases List.mem_cons.1 hx with rfl | hx
    ·exact jpp hc
    ·exact h1 x hx
   ·rw[jlh,ByteArray.append_assoc, ←h2,jlu]
   ·rcases List.mem_cons.1 hx with rfl | hx
    ·rw[ByteArray.size_extract];omega
    ·have:=h3 x hx;omega
end
end Go.Proofs.YtcpnjmcipainpaaGreatDoor
