/- Parts of the proof, one behind the other: TrP, TrQ, TrR, TrS, TrT, RlpS, RlpT, RlpU, RlpV, RlpW, RlpX, RlpY, RlpZ, TrU, NibbleE, NodeR, NodeS, NodeU, IterV, RlpZb, RlpZa, RlpZc, RlpZd, NodeT, NodeV, TrV. Each is under no condition but those that it states. -/
import Derived.Test.YtpaacnhboilkkaaGreatDoorPt34
import Derived.Test.YtpaacnhboilkkaaGreatDoorPt38
import Derived.Test.YtpaacnhboilkkaaGreatDoorPt29
import Derived.Test.YtpaacnhboilkkaaGreatDoorPt36
import Derived.Test.YtpaacnhboilkkaaGreatDoorPt6
import Derived.Test.YtpaacnhboilkkaaGreatDoorPt17
import Derived.Test.YtpaacnhboilkkaaGreatDoorPt19
import Derived.Test.YtpaacnhboilkkaaGreatDoorPt37
import Derived.Test.YtpaacnhboilkkaaGreatDoorPt14
import Derived.Test.YtpaacnhboilkkaaGreatDoorPt16
import Derived.Test.YtpaacnhboilkkaaGreatDoorPt35
import Derived.Test.YtpaacnhboilkkaaGreatDoorPt18
import Derived.RangeFuncCalls
namespace Go.Proofs.YtpaacnhboilkkaaGreatDoor
set_option linter.unusedSimpArgs false
set_option linter.unusedVariables false
set_option maxRecDepth 100000
set_option maxHeartbeats 16000000
section
open Go Go.RowKit
noncomputable def inlOf(r:ByteArray):NodeT:=@dite _ (∃ m d,InlD d r m) (Classical.propDecidable _) (fun h=>h.choose) (fun _=>emptyN)
theorem inl_uniq(w:World){d g:Nat}{r:ByteArray}{m n:NodeT}(h:InlD d r m)(k:InlD g r n):m=n:=by
 cases d with
 | zero=>exact h.elim
 | succ d =>
  cases g with
  | zero=>exact k.elim
  | succ g=>exact nodeB_inj w h.1 k.1 (h.2.1.symm.trans k.2.1)
theorem inlOf_is(w:World){d:Nat}{r:ByteArray}{m:NodeT}(h:InlD d r m):inlOf r=m:=by
 have hh:∃ m d,InlD d r m:=⟨m,d,h⟩
 unfold inlOf
 rw[dif_pos hh]
 obtain⟨g,hg⟩:=hh.choose_spec
 exact inl_uniq w hg h
noncomputable def gRef(S:List Nd5)(r:ByteArray):Option NodeT:=match hashR r with
 | some h=>(atL S h.data.toList).map fun x=>nodeOf x.2.2.text
 | none=>some (inlOf r)
def readK(R:NodeT→Nat→Option (PA × Nat))(G:ByteArray→Option NodeT)(rs:List ByteArray):Nat→Nat→Option ((Nat→PA) × Nat)
 | 0,left=>some (fun _=>.nil,left)
 | k+1,left=>(readK R G rs k left).bind fun x=>if (rs.getD k ⟨#[]⟩).size=0 then some x else (G (rs.getD k ⟨#[]⟩)).bind fun m=>(R m x.2).map fun y=>(setK x.1 k y.1,y.2)
def readN(G:ByteArray→Option NodeT):Nat→NodeT→Nat→Option (PA × Nat)
 | 0,_,_=>none
 | f+1,n,left=>if left=0 then none
  else if n.kind=1 then some (.leaf n.path n.value,left - 1)
  else if n.kind=2 then (G (n.refs.getD 0 ⟨#[]⟩)).bind fun m=>(readN G f m (left - 1)).map fun x=>(.ext n.path x.1,x.2)
  else if n.kind=3 then (readK (readN G f) G n.refs 16 (left - 1)).map fun x=>(.br n.value x.1,x.2)
  else some (.no,left - 1)
theorem readN_zero(G:ByteArray→Option NodeT)(f:Nat)(n:NodeT):readN G f n 0=none:=by
 cases f with
 | zero=>rfl
 | succ f=>rfl
theorem readK_succ(R:NodeT→Nat→Option (PA × Nat))(G:ByteArray→Option NodeT)(rs:List ByteArray)(k left:Nat):readK R G rs (k+1) left=(readK R G rs k left).bind fun x=>if (rs.getD k ⟨#[]⟩).size=0 then some x else (G (rs.getD k ⟨#[]⟩)).bind fun m=>(R m x.2).map fun y=>(setK x.1 k y.1,y.2):=rfl
theorem readN_succ(G:ByteArray→Option NodeT)(f:Nat)(n:NodeT)(left:Nat):readN G (f+1) n left=if left=0 then none
  else if n.kind=1 then some (.leaf n.path n.value,left - 1)
  else if n.kind=2 then (G (n.refs.getD 0 ⟨#[]⟩)).bind fun m=>(readN G f m (left - 1)).map fun x=>(.ext n.path x.1,x.2)
  else if n.kind=3 then (readK (readN G f) G n.refs 16 (left - 1)).map fun x=>(.br n.value x.1,x.2)
  else some (.no,left - 1):=rfl
theorem readK_le{R:NodeT→Nat→Option (PA × Nat)}{G:ByteArray→Option NodeT}{rs:List ByteArray}(hR:∀ m l y,R m l=some y→y.2≤l):∀ (k left:Nat) (x:(Nat→PA) × Nat),readK R G rs k left=some x→x.2≤left
 | 0,left,x,h=>by
  have h:some ((fun _=>PA.nil),left)=some x:=h
  rw[←Option.some.inj h]
  exact Nat.le_refl _
 | k+1,left,x,h=>by
  rw[readK_succ,Option.bind_eq_some_iff]at h
  obtain⟨y,hy,h⟩:=h
  have ih:=readK_le hR k left y hy
  by_cases h0:(rs.getD k ⟨#[]⟩).size=0
  ·rw[if_pos h0]at h
   rw[←Option.some.inj h];exact ih
  ·rw[if_neg h0,Option.bind_eq_some_iff]at h
   obtain⟨m,_,h⟩:=h
   rw[Option.map_eq_some_iff]at h
   obtain⟨z,hz,e⟩:=h
   have:=hR m y.2 z hz
   rw[←e];exact Nat.le_trans this ih
theorem readN_le(G:ByteArray→Option NodeT):∀ (f:Nat) (n:NodeT) (left:Nat) (y:PA × Nat),readN G f n left=some y→y.2≤left - 1
 | 0,_,_,_,h=>by cases h
 | f+1,n,left,y,h=>by
  rw[readN_succ]at h
  by_cases h0:left=0
  ·rw[if_pos h0]at h;cases h
  rw[if_neg h0]at h
  by_cases h1:n.kind=1
  ·rw[if_pos h1]at h
   rw[←Option.some.inj h];exact Nat.le_refl _
  rw[if_neg h1]at h
  by_cases h2:n.kind=2
  ·rw[if_pos h2,Option.bind_eq_some_iff]at h
   obtain⟨m,_,h⟩:=h
   rw[Option.map_eq_some_iff]at h
   obtain⟨z,hz,e⟩:=h
   have:=readN_le G f m _ z hz
   rw[←e]
   show z.2≤left - 1
   omega
  rw[if_neg h2]at h
  by_cases h3:n.kind=3
  ·rw[if_pos h3,Option.map_eq_some_iff]at h
   obtain⟨z,hz,e⟩:=h
   have:=readK_le (fun m l y h=>Nat.le_trans (readN_le G f m l y h) (Nat.sub_le _ _)) 16 _ z hz
   rw[←e];exact this
  rw[if_neg h3]at h
  rw[←Option.some.inj h];exact Nat.le_refl _
def RdAt(W:World)(rb s left:Nat):Prop:=Blk W rb (.cells #[.pointer (some ⟨s,0,none⟩),.int .i64 (left:Int)] 172)
def Since(W W':World):Nat→Prop:=fun z=>W.heap.size≤z∧z < W'.heap.size
def RdO(W:World)(rb s:Nat)(o:Option (PA × Nat))(e:Ending)(w':World):Prop:=Keeps (fun z=>z=rb) W w'∧match o with
 | some (P,l)=>∃ T x,e=.returned (.tuple #[.iface T x,.bool true])∧PaAt P (.iface T x) (Since W w') w'∧RdAt w' rb s l
 | none=>∃ v l,e=.returned (.tuple #[v,.bool false])∧(v=.nilIface∨∃ T x,v=.iface T x)∧RdAt w' rb s l
def NodesS(S:List Nd5):Prop:=∀ x∈S,∃ n,IsNode x.2.2.text n
end
section
open Go Go.RowKit
attribute [local go_sem] Oper.semAt_some
theorem hash1_c(W:World)(x:ByteArray):Calls Tryz.prog 150 #[.string x] W fun e w'=>e=.returned (.tuple #[])∧w'=W:=by
 go_enter Tryz.func150,Tryz.ntmps150
 go_wp2_with fail
 refine bodyPost_end (results_none rfl _ _ _) rfl ?_
 exact⟨rfl,rfl⟩
theorem at_in(W:World)(s bm:Nat)(room:Int)(S:List Nd5)(hs:StoreAt W s bm room S)(k:ByteArray)(y:Nd5)(hy:atL S k.data.toList=some y)(f:Nat)(n:NodeT)(hg:GoodW (InlD f) n)(ht:y.2.2.text=nodeB n) :
  Calls Tryz.prog 108 #[.pointer (some ⟨s,0,none⟩),.string k,.func (.func 150) #[] #[]] W fun e w'=>e=.returned (.tuple #[n.V,.bool true])∧Ext W w':=by
 have hn:=(hg.one (inlP f)).refs
 have HN:=Hd hn
 have HG:=Hd hg
 have HL:=Hd (n.cells_len hn)
 have hsg:=fun w (h:StoreAt w s bm room S)=>sget_c w s bm room S k h
 rw[hy]at hsg
 simp only[Option.map_some,optV]at hsg
 have HSG:=Hd hsg
 have HS:=Hd hs
 obtain⟨t,htt⟩:∃ t,t=y.2.2.text:=⟨_,rfl⟩
 rw[←htt]at HSG ht
 have HT:=Hd ht
 clear hsg hs hg ht hn hy htt
 go_enter Tryz.func108,Tryz.ntmps108
 go_wp2_with (refine wpList_new Tryz.allocNode rfl rfl ?_;intro W1 hB1 hE1)
 refine (HSG.out W1 (HS.out.ext hE1)).mono ?_
 rintro e w3 ⟨rfl,hE⟩
 have HB3:=Hd (hB1.keeps hE (fun h=>h))
 have HE3:=Hd (hE1.trans hE)
 clear hE hB1 hE1
 go_wp2_with fail
 refine (hash1_c w3 t).mono ?_
 rintro e w4 ⟨rfl,rfl⟩
 go_wp2_with fail
 rw[HT.out]
 refine (get_c4 (inlP f) w4 n HG.out).mono ?_
 rintro e w5 ⟨rfl,hE⟩
 rw[←HT.out]
 have hB5r:=HB3.out.keeps hE (fun h=>h)
 have HE5:=Hd hE
 clear hE HB3
 unfold NodeT.V
 go_wp2_with (first |(refine wpList_new Tryz.allocNode rfl rfl ?_;intro W5 hB5 hE5;refine wpList_fill (vs:=n.cells) rfl rfl rfl rfl hB5 (by rw[HL.out];rfl) (by rw[HL.out];exact Tryz.szNode) n.one ?_;intro W6 hB6 hE6;have hB56:=(hB5r.keeps hE5 (fun h=>h)).keeps hE6 (by have:=hB5r.lt;omega)) |(refine wpList_load_known 144 (.tmp 10) rfl rfl _ _ rfl (run_load_api _ _ n HN.out hB6) ?_) |(refine wpList_fill (vs:=n.cells) rfl rfl rfl rfl hB56 (by rw[HL.out];rfl) (by rw[HL.out];exact Tryz.szNode) n.one ?_;intro W8 hB8 hE8))
 refine bodyPost_ret (results_cell_tmp rfl rfl rfl (run_loadVar_api W8 _ n HN.out hB8)) rfl ?_
 have hX6:Ext W W6:=(((HE3.out.trans HE5.out).trans hE5)).trans' hE6 (fun x hx e=>by have e:x=w5.heap.size:=e;have:=HE5.out.size;have:=HE3.out.size;omega)
 exact⟨rfl,hX6.trans' hE8 (fun x hx e=>by have e:x=W.heap.size:=e;omega)⟩
section
variable (w0:World) (s bm:Nat) (room:Int) (S:List Nd5) (rb:Nat)
structure RdS0:Prop where
 st:StoreAt w0 s bm room S
 nodes:NodesS S
 new:w0.heap.size≤rb
def NodeC(f:Nat):Prop:=∀ n d,GoodW (InlD d) n→∀ (W:World) (left:Nat),Ext w0 W→RdAt W rb s left→left≤f→left≤160→Calls Tryz.prog 151 #[.pointer (some ⟨rb,0,none⟩),n.V] W (RdO W rb s (readN (gRef S) f n left))
def RefC(f:Nat):Prop:=∀ r d,MayP (InlD d) r→∀ (W:World) (left:Nat),Ext w0 W→RdAt W rb s left→left≤f→left≤160→Calls Tryz.prog 193 #[.pointer (some ⟨rb,0,none⟩),.string r] W (RdO W rb s ((gRef S r).bind fun m=>readN (gRef S) f m left))
noncomputable def gHash(h:ByteArray):Option NodeT:=(atL S h.data.toList).map fun x=>nodeOf x.2.2.text
def HashC(f:Nat):Prop:=∀ h,∀ (W:World) (left:Nat),Ext w0 W→RdAt W rb s left→left≤f→left≤160→Calls Tryz.prog 112 #[.pointer (some ⟨rb,0,none⟩),.string h] W (RdO W rb s ((gHash S h).bind fun m=>readN (gRef S) f m left))
end
theorem RdAt.ext{W W':World}{rb s left:Nat}(h:RdAt W rb s left)(e:Ext W W'):RdAt W' rb s left:=h.keeps e (fun e=>e)
theorem hash_no_c(w0:World)(s bm:Nat)(room:Int)(S:List Nd5)(rb:Nat)(hR:RdS0 w0 s bm room S rb)(h:ByteArray)(W:World)(left:Nat)(hE:Ext w0 W)(hr:RdAt W rb s left)(ha:atL S h.data.toList=none) :
  Calls Tryz.prog 112 #[.pointer (some ⟨rb,0,none⟩),.string h] W (RdO W rb s none):=by
 have hat:=at8_no W s bm room S (hR.st.ext hE) (.func (.func 150) #[] #[]) h ha
 have HAT:=Hd hat
 have HR:=Hd hr
 unfold RdAt at hr
 have q0:=hr.cell (i:=0) (v:=.pointer (some ⟨s,0,none⟩)) (by rfl)
 clear hat hr hR hE ha
 go_enter Tryz.func112,Tryz.ntmps112
 go_wp2_with fail
 refine HAT.out.mono ?_
 rintro e w1 ⟨rfl,hE⟩
 have HE:=Hd hE
 clear hE
 unfold NodeT.V
 go_wp2_with (first |(refine wpList_new Tryz.allocNode rfl rfl ?_;intro W5 hB5 hE5;refine wpList_fill (vs:=emptyN.cells) rfl rfl rfl rfl hB5 rfl Tryz.szNode emptyN.one ?_;intro W6 hB6 hE6))
 go_ret2
 have hX6:Ext W W6:=(HE.out.trans hE5).trans' hE6 (fun x hx e=>by have e:x=w1.heap.size:=e;have:=HE.out.size;omega)
 exact⟨hX6.mono (fun _ _ e=>e.elim),_,left,rfl,.inl rfl,HR.out.ext hX6⟩
theorem hash_in_c(w0:World)(s bm:Nat)(room:Int)(S:List Nd5)(rb:Nat)(hR:RdS0 w0 s bm room S rb)(f:Nat)(hN:NodeC w0 s S rb f)(h:ByteArray)(W:World)(left:Nat)(hE:Ext w0 W)(hr:RdAt W rb s left)(hf:left≤f)(h160:left≤160)(y:Nd5)(ha:atL S h.data.toList=some y) :
  Calls Tryz.prog 112 #[.pointer (some ⟨rb,0,none⟩),.string h] W (RdO W rb s (readN (gRef S) f (nodeOf y.2.2.text) left)):=by
 obtain⟨n0,hn0⟩:=hR.nodes y (atL_mem ha).1
 have hn:=nodeOf_is hn0
 obtain⟨n,hnn⟩:∃ n,n=nodeOf y.2.2.text:=⟨_,rfl⟩
 rw[←hnn]at hn ⊢
 obtain⟨ht,d,hg⟩:=hn
 have hrl:=(hg.one (inlP d)).refs
 have HRL:=Hd hrl
 have HL:=Hd (n.cells_len hrl)
 have hat:=at_in W s bm room S (hR.st.ext hE) h y ha d n hg ht
 have HAT:=Hd hat
 have HR:=Hd hr
 have HNC:=Hd (show ∀ w,Ext W w→Calls Tryz.prog 151 #[.pointer (some ⟨rb,0,none⟩),n.V] w (RdO w rb s (readN (gRef S) f n left))from fun w e=>hN n d hg w left (hE.trans e) (hr.ext e) hf h160)
 unfold RdAt at hr
 have q0:=hr.cell (i:=0) (v:=.pointer (some ⟨s,0,none⟩)) (by rfl)
 obtain⟨o,ho⟩:∃ o,o=readN (gRef S) f n left:=⟨_,rfl⟩
 rw[←ho]at HNC ⊢
 clear hat hr hR hE ha hn0 hnn ht hg hrl hN ho
 go_enter Tryz.func112,Tryz.ntmps112
 go_wp2_with fail
 refine HAT.out.mono ?_
 rintro e w1 ⟨rfl,hE⟩
 have HE:=Hd hE
 clear hE
 unfold NodeT.V
 go_wp2_with (first |(refine wpList_new Tryz.allocNode rfl rfl ?_;intro W5 hB5 hE5;refine wpList_fill (vs:=n.cells) rfl rfl rfl rfl hB5 (by rw[HL.out];rfl) (by rw[HL.out];exact Tryz.szNode) n.one ?_;intro W6 hB6 hE6) |(refine wpList_load_known 144 (.tmp 6) rfl rfl _ _ rfl (run_load_api _ _ n HRL.out hB6) ?_))
 have hX6:Ext W W6:=(HE.out.trans hE5).trans' hE6 (fun x hx e=>by have e:x=w1.heap.size:=e;have:=HE.out.size;omega)
 have HX:=Hd hX6
 clear hX6 hB5 hE5 hB6 hE6
 refine (HNC.out W6 HX.out).mono ?_
 intro e w7 hO
 obtain⟨hk,hO2⟩:=hO
 cases o with
 | none =>
  obtain⟨v,l,rfl,hv,hr7⟩:=hO2
  have HZ:=Hd (And.intro hk (And.intro hv hr7))
  clear hk hr7
  rcases hv with rfl |⟨T,x,rfl⟩
  ·go_wp2_with fail
   go_ret2
   exact⟨(HX.out.mono (fun _ _ e=>e.elim)).trans HZ.out.1,_,l,rfl,.inl rfl,HZ.out.2.2⟩
  ·go_wp2_with fail
   go_ret2
   exact⟨(HX.out.mono (fun _ _ e=>e.elim)).trans HZ.out.1,_,l,rfl,.inr ⟨T,x,rfl⟩,HZ.out.2.2⟩
 | some Pl =>
  obtain⟨P,l⟩:=Pl
  obtain⟨T,x,rfl,hP,hr7⟩:=hO2
  have HZ:=Hd (And.intro hk (And.intro hP hr7))
  clear hk hP hr7
  go_wp2_with fail
  go_ret2
  exact⟨(HX.out.mono (fun _ _ e=>e.elim)).trans HZ.out.1,T,x,rfl,HZ.out.2.1.mono (fun z hz=>⟨Nat.le_trans HX.out.size hz.1,hz.2⟩),HZ.out.2.2⟩
theorem rhash_c(w0:World)(s bm:Nat)(room:Int)(S:List Nd5)(rb:Nat)(hR:RdS0 w0 s bm room S rb)(f:Nat)(hN:NodeC w0 s S rb f):HashC w0 s S rb f:=by
 intro h W left hE hr hf h160
 unfold gHash
 cases ha:atL S h.data.toList with
 | none=>exact hash_no_c w0 s bm room S rb hR h W left hE hr ha
 | some y=>exact hash_in_c w0 s bm room S rb hR f hN h W left hE hr hf h160 y ha
end
section
open Go Go.RowKit
attribute [local go_sem] Oper.semAt_some
theorem hashA_R(r:ByteArray):hashA r=hashR r:=by
 unfold hashA hashR
 cases cutN r <;> rfl
theorem ref_hash(w0:World)(s:Nat)(S:List Nd5)(rb:Nat)(f:Nat)(hH:HashC w0 s S rb f)(r h:ByteArray)(hrh:hashR r=some h)(hs:r.size≤1000)(W:World)(left:Nat)(hE:Ext w0 W)(hr:RdAt W rb s left)(hf:left≤f)(h160:left≤160) :
  Calls Tryz.prog 193 #[.pointer (some ⟨rb,0,none⟩),.string r] W (RdO W rb s ((gHash S h).bind fun m=>readN (gRef S) f m left)):=by
 have hany:=hash_any W r (by omega)
 rw[hashA_R,hrh]at hany
 unfold optV at hany
 have HA:=Hd hany
 have HC:=Hd (show ∀ w,Ext W w→Calls Tryz.prog 112 #[.pointer (some ⟨rb,0,none⟩),.string h] w (RdO w rb s ((gHash S h).bind fun m=>readN (gRef S) f m left))from fun w e=>hH h w left (hE.trans e) (hr.ext e) hf h160)
 obtain⟨o,ho⟩:∃ o,o=(gHash S h).bind fun m=>readN (gRef S) f m left:=⟨_,rfl⟩
 rw[←ho]at HC ⊢
 clear hH hrh hs hE hr hf h160 hany ho
 go_enter Tryz.func193,Tryz.ntmps193
 go_wp2_with fail
 refine HA.out.mono ?_
 rintro e w1 ⟨rfl,hE⟩
 have HX:=Hd hE
 clear hE
 go_wp2_with fail
 refine (HC.out w1 HX.out).mono ?_
 intro e w7 hO
 obtain⟨hk,hO2⟩:=hO
 cases o with
 | none =>
  obtain⟨v,l,rfl,hv,hr7⟩:=hO2
  have HZ:=Hd (And.intro hk (And.intro hv hr7))
  clear hk hr7
  rcases hv with rfl |⟨T,x,rfl⟩
  ·go_wp2_with fail
   go_ret2
   exact⟨(HX.out.mono (fun _ _ e=>e.elim)).trans HZ.out.1,_,l,rfl,.inl rfl,HZ.out.2.2⟩
  ·go_wp2_with fail
   go_ret2
   exact⟨(HX.out.mono (fun _ _ e=>e.elim)).trans HZ.out.1,_,l,rfl,.inr ⟨T,x,rfl⟩,HZ.out.2.2⟩
 | some Pl =>
  obtain⟨P,l⟩:=Pl
  obtain⟨T,x,rfl,hP,hr7⟩:=hO2
  have HZ:=Hd (And.intro hk (And.intro hP hr7))
  clear hk hP hr7
  go_wp2_with fail
  go_ret2
  exact⟨(HX.out.mono (fun _ _ e=>e.elim)).trans HZ.out.1,T,x,rfl,HZ.out.2.1.mono (fun z hz=>⟨Nat.le_trans HX.out.size hz.1,hz.2⟩),HZ.out.2.2⟩
theorem ref_inl(w0:World)(s:Nat)(S:List Nd5)(rb:Nat)(f:Nat)(hN:NodeC w0 s S rb f)(r:ByteArray)(d:Nat)(n:NodeT)(hi:InlD (d+1) r n)(hs:r.size≤1000)(W:World)(left:Nat)(hE:Ext w0 W)(hr:RdAt W rb s left)(hf:left≤f)(h160:left≤160) :
  Calls Tryz.prog 193 #[.pointer (some ⟨rb,0,none⟩),.string r] W (RdO W rb s (readN (gRef S) f n left)):=by
 have hany:=hash_any W r (by omega)
 rw[hashA_R,hashR_inl (inlP (d+1)) hi]at hany
 unfold optV at hany
 have HA:=Hd hany
 have hrl:=(hi.1.one (inlP d)).refs
 have HRL:=Hd hrl
 have HL:=Hd (n.cells_len hrl)
 have HI:=Hd (fun w=>(inlP (d+1)).inl r n hi w)
 have HNC:=Hd (show ∀ w,Ext W w→Calls Tryz.prog 151 #[.pointer (some ⟨rb,0,none⟩),n.V] w (RdO w rb s (readN (gRef S) f n left))from fun w e=>hN n d hi.1 w left (hE.trans e) (hr.ext e) hf h160)
 obtain⟨o,ho⟩:∃ o,o=readN (gRef S) f n left:=⟨_,rfl⟩
 rw[←ho]at HNC ⊢
 clear hN hi hs hE hr hf h160 hany hrl ho
 go_enter Tryz.func193,Tryz.ntmps193
 go_wp2_with fail
 refine HA.out.mono ?_
 rintro e w0' ⟨rfl,hE0⟩
 have HE0:=Hd hE0
 clear hE0
 go_wp2_with fail
 refine (HI.out w0').mono ?_
 rintro e w1 ⟨rfl,hE⟩
 have HE:=Hd (HE0.out.trans hE)
 clear hE
 unfold NodeT.V
 go_wp2_with (first |(refine wpList_new Tryz.allocNode rfl rfl ?_;intro W5 hB5 hE5;refine wpList_fill (vs:=n.cells) rfl rfl rfl rfl hB5 (by rw[HL.out];rfl) (by rw[HL.out];exact Tryz.szNode) n.one ?_;intro W6 hB6 hE6) |(refine wpList_load_known 144 (.tmp 8) rfl rfl _ _ rfl (run_load_api _ _ n HRL.out hB6) ?_))
 have hX6:Ext W W6:=(HE.out.trans hE5).trans' hE6 (fun x hx e=>by have e:x=w1.heap.size:=e;have:=HE.out.size;omega)
 have HX:=Hd hX6
 clear hX6 hB5 hE5 hB6 hE6
 refine (HNC.out W6 HX.out).mono ?_
 intro e w7 hO
 obtain⟨hk,hO2⟩:=hO
 cases o with
 | none =>
  obtain⟨v,l,rfl,hv,hr7⟩:=hO2
  have HZ:=Hd (And.intro hk (And.intro hv hr7))
  clear hk hr7
  rcases hv with rfl |⟨T,x,rfl⟩
  ·go_wp2_with fail
   go_ret2
   exact⟨(HX.out.mono (fun _ _ e=>e.elim)).trans HZ.out.1,_,l,rfl,.inl rfl,HZ.out.2.2⟩
  ·go_wp2_with fail
   go_ret2
   exact⟨(HX.out.mono (fun _ _ e=>e.elim)).trans HZ.out.1,_,l,rfl,.inr ⟨T,x,rfl⟩,HZ.out.2.2⟩
 | some Pl =>
  obtain⟨P,l⟩:=Pl
  obtain⟨T,x,rfl,hP,hr7⟩:=hO2
  have HZ:=Hd (And.intro hk (And.intro hP hr7))
  clear hk hP hr7
  go_wp2_with fail
  go_ret2
  exact⟨(HX.out.mono (fun _ _ e=>e.elim)).trans HZ.out.1,T,x,rfl,HZ.out.2.1.mono (fun z hz=>⟨Nat.le_trans HX.out.size hz.1,hz.2⟩),HZ.out.2.2⟩
theorem rref_c(w0:World)(s bm:Nat)(room:Int)(S:List Nd5)(rb:Nat)(hR:RdS0 w0 s bm room S rb)(f:Nat)(hN:NodeC w0 s S rb f):RefC w0 s S rb f:=by
 intro r d hm W left hE hr hf h160
 have hs:r.size≤1000:=by have:=hm.size (inlP d);omega
 unfold gRef
 rcases hm with hh |⟨m,hi⟩
 ·obtain⟨h,h1,h2⟩:=hh
  have hrr:hashR r=some h:=by rw[h2];exact hashR_text h1
  rw[hrr]
  exact ref_hash w0 s S rb f (rhash_c w0 s bm room S rb hR f hN) r h hrr hs W left hE hr hf h160
 ·cases d with
  | zero=>exact hi.elim
  | succ d =>
   rw[hashR_inl (inlP (d+1)) hi]
   show Calls _ _ _ W (RdO W rb s (readN (gRef S) f (inlOf r) left))
   rw[inlOf_is w0 hi]
   exact ref_inl w0 s S rb f hN r d m hi hs W left hE hr hf h160
theorem node_zero(W:World)(rb s:Nat)(n:NodeT)(hr:RdAt W rb s 0):Calls Tryz.prog 151 #[.pointer (some ⟨rb,0,none⟩),n.V] W (RdO W rb s none):=by
 have hrb:=hr.lt
 have hA:=hr.ext ((ExtR W).alloc (.cells n.cells.toArray 144))
 have HA:=Hd hA
 unfold RdAt at hA
 have q1:=hA.cell (i:=1) (v:=.int .i64 0) (by rfl)
 clear hA hr
 unfold NodeT.V
 go_enter Tryz.func151,Tryz.ntmps151
 go_wp2_with fail
 go_ret2
 exact⟨((ExtR W).alloc _).mono (fun _ _ e=>e.elim),_,0,rfl,.inl rfl,HA.out⟩
theorem node_leaf(W:World)(rb s k:Nat)(hk:k≤160)(q v:ByteArray)(rs:List ByteArray)(hr:RdAt W rb s (k+1)):Calls Tryz.prog 151 #[.pointer (some ⟨rb,0,none⟩),(NodeT.mk 1 q v rs).V] W (RdO W rb s (some (.leaf q v,k))):=by
 have hrb:=hr.lt
 have hne:W.heap.size≠rb:=by omega
 obtain⟨W1,hW1⟩:∃ W1,W1=W.setCell ⟨rb,1,none⟩ (.int .i64 (k:Int)):=⟨_,rfl⟩
 obtain⟨W2,hW2⟩:∃ W2,W2=W1.alloc (.cells (NodeT.cells ⟨1,q,v,rs⟩).toArray 144):=⟨_,rfl⟩
 have hr1:RdAt W1 rb s k:=by rw[hW1];exact Blk.set_same (i:=1) hr _
 have hs1:W1.heap.size=W.heap.size:=by rw[hW1];exact World.size_setCell _ _ _
 have hE12:Ext W1 W2:=by rw[hW2];exact (ExtR W1).alloc _
 have hB2:Blk W2 W.heap.size (.cells (NodeT.cells ⟨1,q,v,rs⟩).toArray 144):=by rw[←hs1,hW2];exact Blk.new W1 _
 have hr2:RdAt W2 rb s k:=hr1.ext hE12
 have hK2:Keeps (fun z=>z=rb) W W2:=(show Keeps (fun z=>z=rb) W W1 by rw[hW1];exact Keeps.oneSet _ ⟨rb,1,none⟩ _).trans (hE12.mono (fun _ _ e=>e.elim))
 have HR2:=Hd (And.intro hr2 (And.intro hK2 hB2))
 have hA:=hr.ext ((ExtR W).alloc (.cells (NodeT.cells ⟨1,q,v,rs⟩).toArray 144))
 unfold RdAt at hA
 have q1:=hA.cell (i:=1) (v:=.int .i64 ((k:Int)+1)) (by rfl)
 have f1:(W.alloc (.cells (NodeT.cells ⟨1,q,v,rs⟩).toArray 144)).frozen? ⟨rb,1,none⟩=false:=hA.frozen
 have e0:(NodeT.cells ⟨1,q,v,rs⟩)[0]?=some (.int .i64 1):=rfl
 have e1:(NodeT.cells ⟨1,q,v,rs⟩)[1]?=some (.string q):=rfl
 have e2:(NodeT.cells ⟨1,q,v,rs⟩)[2]?=some (.string v):=rfl
 have HW:=Hd (And.intro hW1 hW2)
 clear hr hA hr1 hE12 hr2 hK2 hB2 hW1 hW2
 unfold NodeT.V
 go_enter Tryz.func151,Tryz.ntmps151
 go_wp2_with fail
 go_ret2
 obtain⟨hW1,hW2⟩:=HW.out
 rw[←hW1, ←hW2]
 obtain⟨hr2,hK2,hB2⟩:=HR2.out
 have hE3:Ext W2 (W2.alloc (.cells #[.string q,.string v] 267)):=(ExtR W2).alloc _
 have hB3:=Blk.new W2 (.cells #[.string q,.string v] 267)
 have hz:W2.heap.size=W.heap.size+1:=by rw[hW2,World.size_alloc,hs1]
 have hb3:Blk (W2.alloc (.cells #[.string q,.string v] 267)) (W.heap.size+1) (.cells #[.string q,.string v] 267):=by rw[←hz];exact hB3
 exact⟨hK2.trans (hE3.mono (fun _ _ e=>e.elim)),_,_,rfl,⟨_,rfl,⟨Nat.le_succ _,hb3.lt⟩,hb3⟩,hr2.ext hE3⟩
theorem node_none(W:World)(rb s k:Nat)(hk:k≤160)(q v:ByteArray)(rs:List ByteArray)(hr:RdAt W rb s (k+1)):Calls Tryz.prog 151 #[.pointer (some ⟨rb,0,none⟩),(NodeT.mk 0 q v rs).V] W (RdO W rb s (some (.no,k))):=by
 have hrb:=hr.lt
 have hne:W.heap.size≠rb:=by omega
 obtain⟨W1,hW1⟩:∃ W1,W1=W.setCell ⟨rb,1,none⟩ (.int .i64 (k:Int)):=⟨_,rfl⟩
 obtain⟨W2,hW2⟩:∃ W2,W2=W1.alloc (.cells (NodeT.cells ⟨0,q,v,rs⟩).toArray 144):=⟨_,rfl⟩
 have hr1:RdAt W1 rb s k:=by rw[hW1];exact Blk.set_same (i:=1) hr _
 have hs1:W1.heap.size=W.heap.size:=by rw[hW1];exact World.size_setCell _ _ _
 have hE12:Ext W1 W2:=by rw[hW2];exact (ExtR W1).alloc _
 have hB2:Blk W2 W.heap.size (.cells (NodeT.cells ⟨0,q,v,rs⟩).toArray 144):=by rw[←hs1,hW2];exact Blk.new W1 _
 have hr2:RdAt W2 rb s k:=hr1.ext hE12
 have hK2:Keeps (fun z=>z=rb) W W2:=(show Keeps (fun z=>z=rb) W W1 by rw[hW1];exact Keeps.oneSet _ ⟨rb,1,none⟩ _).trans (hE12.mono (fun _ _ e=>e.elim))
 have HR2:=Hd (And.intro hr2 (And.intro hK2 hB2))
 have hA:=hr.ext ((ExtR W).alloc (.cells (NodeT.cells ⟨0,q,v,rs⟩).toArray 144))
 unfold RdAt at hA
 have q1:=hA.cell (i:=1) (v:=.int .i64 ((k:Int)+1)) (by rfl)
 have f1:(W.alloc (.cells (NodeT.cells ⟨0,q,v,rs⟩).toArray 144)).frozen? ⟨rb,1,none⟩=false:=hA.frozen
 have e0:(NodeT.cells ⟨0,q,v,rs⟩)[0]?=some (.int .i64 0):=rfl
 have HW:=Hd (And.intro hW1 hW2)
 clear hr hA hr1 hE12 hr2 hK2 hB2 hW1 hW2
 unfold NodeT.V
 go_enter Tryz.func151,Tryz.ntmps151
 go_wp2_with fail
 go_ret2
 obtain⟨hW1,hW2⟩:=HW.out
 rw[←hW1, ←hW2]
 obtain⟨hr2,hK2,hB2⟩:=HR2.out
 exact⟨hK2,_,_,rfl,rfl,hr2⟩
theorem node_ext(w0:World)(s:Nat)(S:List Nd5)(rb f:Nat)(hRef:RefC w0 s S rb f)(hnew:w0.heap.size≤rb)(W:World)(k:Nat)(hE0:Ext w0 W)(hk:k≤f)(h160:k≤159)(q v r:ByteArray)(rs:List ByteArray)(d:Nat)(hm:MayP (InlD d) r)(hr:RdAt W rb s (k+1)):Calls Tryz.prog 151 #[.pointer (some ⟨rb,0,none⟩),(NodeT.mk 2 q v (r :: rs)).V] W (RdO W rb s ((gRef S r).bind fun m=>(readN (gRef S) f m k).map fun x=>(.ext q x.1,x.2))):=by
 have hrb:=hr.lt
 have hne:W.heap.size≠rb:=by omega
 obtain⟨W1,hW1⟩:∃ W1,W1=W.setCell ⟨rb,1,none⟩ (.int .i64 (k:Int)):=⟨_,rfl⟩
 obtain⟨W2,hW2⟩:∃ W2,W2=W1.alloc (.cells (NodeT.cells ⟨2,q,v,r :: rs⟩).toArray 144):=⟨_,rfl⟩
 have hr1:RdAt W1 rb s k:=by rw[hW1];exact Blk.set_same (i:=1) hr _
 have hs1:W1.heap.size=W.heap.size:=by rw[hW1];exact World.size_setCell _ _ _
 have hE12:Ext W1 W2:=by rw[hW2];exact (ExtR W1).alloc _
 have hB2:Blk W2 W.heap.size (.cells (NodeT.cells ⟨2,q,v,r :: rs⟩).toArray 144):=by rw[←hs1,hW2];exact Blk.new W1 _
 have hr2:RdAt W2 rb s k:=hr1.ext hE12
 have hK2:Keeps (fun z=>z=rb) W W2:=(show Keeps (fun z=>z=rb) W W1 by rw[hW1];exact Keeps.oneSet _ ⟨rb,1,none⟩ _).trans (hE12.mono (fun _ _ e=>e.elim))
 have HR2:=Hd (And.intro hr2 (And.intro hK2 hB2))
 have hA:=hr.ext ((ExtR W).alloc (.cells (NodeT.cells ⟨2,q,v,r :: rs⟩).toArray 144))
 unfold RdAt at hA
 have q1:=hA.cell (i:=1) (v:=.int .i64 ((k:Int)+1)) (by rfl)
 have f1:(W.alloc (.cells (NodeT.cells ⟨2,q,v,r :: rs⟩).toArray 144)).frozen? ⟨rb,1,none⟩=false:=hA.frozen
 have e0:(NodeT.cells ⟨2,q,v,r :: rs⟩)[0]?=some (.int .i64 2):=rfl
 have e1:(NodeT.cells ⟨2,q,v,r :: rs⟩)[1]?=some (.string q):=rfl
 have e3:(NodeT.cells ⟨2,q,v,r :: rs⟩)[3]?=some (.string r):=rfl
 have hEw:Ext w0 W2:=hE0.trans' hK2 (fun x hx e=>by have e:x=rb:=e;omega)
 have HC:=Hd (hRef r d hm W2 k hEw hr2 hk (by omega))
 have hrl:(NodeT.cells ⟨2,q,v,r :: rs⟩).toArray.size=(NodeT.cells ⟨2,q,v,r :: rs⟩).length:=by simp
 have hbnd:rb < W2.heap.size:=hr2.lt
 have HBD:=Hd hbnd
 obtain⟨o,ho⟩:∃ o,o=(gRef S r).bind fun m=>readN (gRef S) f m k:=⟨_,rfl⟩
 have hoo:((gRef S r).bind fun m=>(readN (gRef S) f m k).map fun x=>(PA.ext q x.1,x.2))=o.map fun x=>(PA.ext q x.1,x.2):=by
  rw[ho]
  cases gRef S r with
  | none=>rfl
  | some m=>rfl
 rw[←ho]at HC
 rw[hoo]
 have HW:=Hd (And.intro hW1 hW2)
 have hs2:W2.heap.size=W.heap.size+1:=by rw[hW2,World.size_alloc,hs1]
 have HS2:=Hd hs2
 have hr0:=hr
 clear hRef hnew hE0 hm hr hA hr1 hE12 hr2 hK2 hB2 hEw ho hoo hs2 hrl hbnd hr0
 unfold NodeT.V
 go_enter Tryz.func151,Tryz.ntmps151
 go_wp2_with fail
 rw[←hW1, ←hW2]
 clear hW1 hW2 q1 f1
 refine HC.out.mono ?_
 intro e w7 hO
 obtain⟨hk7,hO2⟩:=hO
 have hB7:=HR2.out.2.2.keeps hk7 (fun e=>hne (by exact e))
 have q7:=hB7.cellL (i:=1) e1
 have HK7:=Hd (HR2.out.2.1.trans hk7)
 have hz2:=HR2.out.2.2.lt
 have HZ2:=Hd (show W.heap.size≤w7.heap.size∧W.heap.size+1=W2.heap.size∧W2.heap.size≤w7.heap.size from⟨Nat.le_trans (Nat.le_of_lt hz2) hk7.size,HS2.out.symm,hk7.size⟩)
 clear hk7 hB7 hz2
 cases o with
 | none =>
  obtain⟨v7,l,rfl,hv,hr7⟩:=hO2
  have HZ:=Hd hr7
  clear hr7
  rcases hv with rfl |⟨T,x,rfl⟩
  ·go_wp2_with fail
   go_ret2
   exact⟨HK7.out.trans (((ExtR w7).alloc _).mono (fun _ _ e=>e.elim)),_,l,rfl,.inr ⟨_,_,rfl⟩,HZ.out.ext ((ExtR w7).alloc _)⟩
  ·go_wp2_with fail
   go_ret2
   exact⟨HK7.out.trans (((ExtR w7).alloc _).mono (fun _ _ e=>e.elim)),_,l,rfl,.inr ⟨_,_,rfl⟩,HZ.out.ext ((ExtR w7).alloc _)⟩
 | some Pl =>
  obtain⟨P,l⟩:=Pl
  obtain⟨T,x,rfl,hP,hr7⟩:=hO2
  have HZ:=Hd (And.intro hP hr7)
  clear hP hr7
  go_wp2_with fail
  go_ret2
  obtain⟨hP,hr7⟩:=HZ.out
  have hE8:Ext w7 (w7.alloc (.cells #[.string q,.iface T x] 270)):=(ExtR w7).alloc _
  have hB8:=Blk.new w7 (.cells #[.string q,.iface T x] 270)
  obtain⟨z1,z2,z3⟩:=HZ2.out
  refine⟨HK7.out.trans (hE8.mono (fun _ _ e=>e.elim)),_,_,rfl,⟨_,T,x,Since W2 w7,rfl,⟨by omega,hB8.lt⟩,hB8,hP.keeps hE8 _ _ _ (fun _ _ e=>e),fun e=>by have:=e.2;omega,fun z hz=>⟨by have:=hz.1;omega,Nat.lt_of_lt_of_le hz.2 hE8.size⟩⟩,hr7.ext hE8⟩
theorem readK_none{R:NodeT→Nat→Option (PA × Nat)}{G:ByteArray→Option NodeT}{rs:List ByteArray}{k left:Nat}(h:readK R G rs k left=none):∀ d,readK R G rs (k+d) left=none
 | 0=>h
 | d+1=>by
  show readK R G rs (k+d+1) left=none
  rw[readK_succ,readK_none h d];rfl
structure NbRel(W:World)(rb s bb:Nat)(G:ByteArray→Option NodeT)(R:NodeT→Nat→Option (PA × Nat))(v:ByteArray)(rs:List ByteArray)(left:Nat)(iv:Value)(wr:World)(k:Nat)(ks:Nat→PA)(l:Nat)(vk:Nat→Value)(Dk:Nat→Nat→Prop)(D:Nat→Prop):Prop where
 le:k≤16
 iv:iv=.int .i64 (k:Int)
 rd:readK R G rs k left=some (ks,l)
 br:BrAt v ks bb vk Dk D wr
 since:∀ z,D z→W.heap.size≤z
 rdr:RdAt wr rb s l
 kp:Keeps (fun z=>z=rb) W wr
theorem run_load_refs{W:World}{b:Nat}{n:NodeT}(hr:n.refs.length=16)(hB:Blk W b (.cells n.cells.toArray 144)):(Instr.loadAt 142 (.pointer (some ⟨b,3,none⟩))).run Tryz.prog W=.ok (.agg (n.refs.map Value.string).toArray) W:=by
 have hrg:W.rangeAt b 3 (n.refs.map Value.string):=fun j v hv=>hB.cellL (by
  unfold NodeT.cells
  rw[show 3+j=j+3 by omega]
  simpa using hv)
 have hld:=run_loadVar_mid (P:=Tryz.prog) W b 3 142 _ _ hrg Tryz.uRefs rfl (by simp only[List.length_map,hr];exact Tryz.iRefs)
 simp[Instr.loadAt,Instr.sureAddr,Sem.run_bind,Result.andThen,hld]
theorem node_br(w0:World)(s:Nat)(S:List Nd5)(rb f:Nat)(hRef:RefC w0 s S rb f)(hnew:w0.heap.size≤rb)(W:World)(k0:Nat)(hE0:Ext w0 W)(hk:k0≤f)(h160:k0≤159)(q v:ByteArray)(rs:List ByteArray)(d:Nat)(hrl:rs.length=16)(hm:∀ r∈rs,r.size≠0→MayP (InlD d) r)(hr:RdAt W rb s (k0+1)):Calls Tryz.prog 151 #[.pointer (some ⟨rb,0,none⟩),(NodeT.mk 3 q v rs).V] W (RdO W rb s ((readK (readN (gRef S) f) (gRef S) rs 16 k0).map fun x=>(.br v x.1,x.2))):=by
 have hrb:=hr.lt
 have hne:W.heap.size≠rb:=by omega
 obtain⟨W1,hW1⟩:∃ W1,W1=W.setCell ⟨rb,1,none⟩ (.int .i64 (k0:Int)):=⟨_,rfl⟩
 obtain⟨W2,hW2⟩:∃ W2,W2=W1.alloc (.cells (NodeT.cells ⟨3,q,v,rs⟩).toArray 144):=⟨_,rfl⟩
 have hr1:RdAt W1 rb s k0:=by rw[hW1];exact Blk.set_same (i:=1) hr _
 have hs1:W1.heap.size=W.heap.size:=by rw[hW1];exact World.size_setCell _ _ _
 have hE12:Ext W1 W2:=by rw[hW2];exact (ExtR W1).alloc _
 have hB2:Blk W2 W.heap.size (.cells (NodeT.cells ⟨3,q,v,rs⟩).toArray 144):=by rw[←hs1,hW2];exact Blk.new W1 _
 have hr2:RdAt W2 rb s k0:=hr1.ext hE12
 have hK2:Keeps (fun z=>z=rb) W W2:=(show Keeps (fun z=>z=rb) W W1 by rw[hW1];exact Keeps.oneSet _ ⟨rb,1,none⟩ _).trans (hE12.mono (fun _ _ e=>e.elim))
 have HR2:=Hd (And.intro hr2 (And.intro hK2 hB2))
 have hA:=hr.ext ((ExtR W).alloc (.cells (NodeT.cells ⟨3,q,v,rs⟩).toArray 144))
 unfold RdAt at hA
 have q1:=hA.cell (i:=1) (v:=.int .i64 ((k0:Int)+1)) (by rfl)
 have f1:(W.alloc (.cells (NodeT.cells ⟨3,q,v,rs⟩).toArray 144)).frozen? ⟨rb,1,none⟩=false:=hA.frozen
 have e0:(NodeT.cells ⟨3,q,v,rs⟩)[0]?=some (.int .i64 3):=rfl
 have e2:(NodeT.cells ⟨3,q,v,rs⟩)[2]?=some (.string v):=rfl
 obtain⟨W3,hW3⟩:∃ W3,W3=W2.alloc (.cells #[.string v,.nilIface,.nilIface,.nilIface,.nilIface,.nilIface,.nilIface,.nilIface,.nilIface,.nilIface,.nilIface,.nilIface,.nilIface,.nilIface,.nilIface,.nilIface,.nilIface] 274):=⟨_,rfl⟩
 have hE23:Ext W2 W3:=by rw[hW3];exact (ExtR W2).alloc _
 have hs2:W2.heap.size=W.heap.size+1:=by rw[hW2,World.size_alloc,hs1]
 have hB3:Blk W3 (W.heap.size+1) (.cells (brC v (fun _=>.nilIface)).toArray 274):=by rw[←hs2,hW3];exact Blk.new W2 _
 have hbr:BrAt v (fun _=>.nil) (W.heap.size+1) (fun _=>.nilIface) (fun _ _=>False) (fun x=>x=W.heap.size+1) W3:=
  ⟨rfl,hB3,fun i _=>⟨rfl,fun e=>e,fun _ e=>e.elim⟩,fun _ _ _ _ _ _ e=>e.elim,fun x e=>by rw[e];exact hB3.lt⟩
 have hla:=run_load_refs (n:=⟨3,q,v,rs⟩) hrl (hB2.keeps hE23 (fun e=>e))
 have HST:=Hd (show NbRel W rb s (W.heap.size+1) (gRef S) (readN (gRef S) f) v rs k0 (.int .i64 0) W3 0 (fun _=>.nil) k0 (fun _=>.nilIface) (fun _ _=>False) (fun x=>x=W.heap.size+1)from⟨by omega,rfl,rfl,hbr,fun z e=>by rw[e];omega,hr2.ext hE23,hK2.trans (hE23.mono (fun _ _ e=>e.elim))⟩)
 have HREF:=Hd hRef
 have HM:=Hd hm
 have HRL:=Hd hrl
 have HE0:=Hd hE0
 have HNW:=Hd hnew
 have HRB:=Hd hrb
 have HF:=Hd hk
 obtain⟨o,ho⟩:∃ o,o=(readK (readN (gRef S) f) (gRef S) rs 16 k0).map fun x=>(PA.br v x.1,x.2):=⟨_,rfl⟩
 have HO:=Hd ho
 rw[←ho]
 have HW:=Hd (And.intro hW1 (And.intro hW2 hW3))
 have HBB:=Hd (show W.heap.size+1≠rb by omega)
 rw[hW3,hW2,hW1]at hla
 clear hRef hnew hE0 hm hr hA hr1 hE12 hr2 hK2 hB2 hW1 hW2 hW3 hE23 hB3 hbr hrl ho hs2 hk
 unfold NodeT.V
 go_enter Tryz.func151,Tryz.ntmps151
 go_wp2_with (refine wpList_load_known 142 (.tmp 59) rfl rfl _ _ rfl hla ?_)
 obtain⟨hW1,hW2,hW3⟩:=HW.out
 rw[←hW1, ←hW2, ←hW3]
 obtain⟨bb,hbb⟩:∃ bb,bb=W.heap.size+1:=⟨_,rfl⟩
 rw[←hbb]at HST HBB ⊢
 clear hW1 hW2 hW3 HW hla q1 f1 hs1 hbb HR2
 go_loopw [61] (fun iv wr=>∃ k ks l vk Dk D,NbRel W rb s bb (gRef S) (readN (gRef S) f) v rs k0 iv wr k ks l vk Dk D) (fun iv _=>16 - (intOf iv).toNat)
 case atStart=>exact⟨0,_,_,_,_,_,HST.out⟩
 case round =>
  obtain⟨k,ks,l,vk,Dk,D,h⟩:=hrel
  obtain⟨hle,rfl,hrd,hbr,hsi,hrr,hkp⟩:=h
  have HRD:=Hd hrd
  have HBR:=Hd hbr
  have HSI:=Hd hsi
  have HRR:=Hd hrr
  have HKP:=Hd hkp
  clear hrd hbr hsi hrr hkp
  by_cases hlt:k < 16
  ·obtain⟨r,hri⟩:∃ r,rs[k]?=some r:=⟨_,List.getElem?_eq_getElem (by have:=HRL.out;omega)⟩
   have hix:(Instr.index 142 (.agg (rs.map Value.string).toArray) (.int .i64 (k:Int))).run Tryz.prog wr=.ok (.string r) wr:=run_index_one Tryz.uRefs Tryz.strOne Tryz.strAgg _ k hlt _ (by rw[List.getElem?_map,hri];rfl) wr
   have hgd:rs.getD k ⟨#[]⟩=r:=by rw[List.getD_eq_getElem?_getD,hri];rfl
   have hst:=readK_succ (readN (gRef S) f) (gRef S) rs k k0
   rw[HRD.out,hgd]at hst
   have hst:readK (readN (gRef S) f) (gRef S) rs (k+1) k0=if r.size=0 then some (ks,l)else (gRef S r).bind fun m=>(readN (gRef S) f m l).map fun y=>(setK ks k y.1,y.2):=hst
   by_cases hr0:r.size=0
   ·rw[if_pos hr0]at hst
    have hre:=ba_empty hr0
    subst hre
    have hem:(⟨#[]⟩:ByteArray).toList.isEmpty=true:=by rw[ByteArray.toList_eq];rfl
    have HSP:=Hd hst
    clear hst hri hr0 hgd
    go_wp2
    go_roundw
    case rel=>exact⟨k+1,ks,l,vk,Dk,D,by omega,by go_num,HSP.out,HBR.out,HSI.out,HRR.out,HKP.out⟩
    case measure=>simp[intOf];omega
   ·rw[if_neg hr0]at hst
    have hne2:=list_ne hr0
    have hEr:Ext w0 wr:=HE0.out.trans' HKP.out (fun x hx e=>by have e:x=rb:=e;have:=HNW.out;omega)
    have hll:l≤k0:=readK_le (fun m l y h=>Nat.le_trans (readN_le (gRef S) f m l y h) (Nat.sub_le _ _)) k k0 _ HRD.out
    have HC:=Hd (HREF.out r d (HM.out r (List.mem_of_getElem? hri) hr0) wr l hEr HRR.out (by have:=HF.out;omega) (by omega))
    obtain⟨o1,ho1⟩:∃ o1,o1=(gRef S r).bind fun m=>readN (gRef S) f m l:=⟨_,rfl⟩
    rw[←ho1]at HC
    have hst2:readK (readN (gRef S) f) (gRef S) rs (k+1) k0=o1.map fun y=>(setK ks k y.1,y.2):=by
     rw[hst,ho1]
     cases gRef S r with
     | none=>rfl
     | some m=>rfl
    have HSP:=Hd hst2
    have HBL:=Hd (HBR.out.lt bb HBR.out.mem)
    clear hst hst2 hri hr0 hgd hEr hll ho1
    go_wp2_with fail
    refine HC.out.mono ?_
    intro e w7 hO
    obtain⟨hk7,hO2⟩:=hO
    have HK7:=Hd hk7
    clear hk7
    cases o1 with
    | none =>
     obtain⟨v7,l7,rfl,hv,hr7⟩:=hO2
     have HZ:=Hd hr7
     clear hr7
     have HON:=Hd (show o=none by
      rw[HO.out]
      have:=readK_none (k:=k+1) HSP.out (15 - k)
      rw[show k+1+(15 - k)=16 by omega]at this
      rw[this];rfl)
     rcases hv with rfl |⟨T,x,rfl⟩
     ·go_wp2_with fail
      go_ret2
      rw[HON.out]
      exact⟨HKP.out.trans HK7.out,_,l7,rfl,.inl rfl,HZ.out⟩
     ·go_wp2_with fail
      go_ret2
      rw[HON.out]
      exact⟨HKP.out.trans HK7.out,_,l7,rfl,.inl rfl,HZ.out⟩
    | some Pl =>
     obtain⟨P,l7⟩:=Pl
     obtain⟨T,x,rfl,hP,hr7⟩:=hO2
     have hrbD:∀ z,D z→¬ z=rb:=fun z hz e=>by have:=HSI.out z hz;have:=HRB.out;omega
     have hb7:=HBR.out.keeps HK7.out (fun z hz=>hrbD z hz)
     have hg:=hb7.give hlt hP (fun z hz=>⟨fun e=>by have:=HBR.out.lt z e;have:=hz.1;omega,hz.2⟩)
     obtain⟨W8,hW8⟩:∃ W8,W8=w7.setCell ⟨bb,1+k,none⟩ (.iface T x):=⟨_,rfl⟩
     rw[←hW8]at hg
     have hk8:Keeps (fun z=>z=bb) w7 W8:=by rw[hW8];exact Keeps.oneSet w7 ⟨bb,1+k,none⟩ (.iface T x)
     have hr8:RdAt W8 rb s l7:=hr7.keeps hk8 (fun e=>HBB.out e.symm)
     have hk9:Keeps (fun z=>z=rb) W W8:=(HKP.out.trans HK7.out).trans' hk8 (fun z hz e=>by have e:z=bb:=e;have:=HSI.out bb HBR.out.mem;omega)
     obtain⟨old,q7⟩:∃ v,w7.cell? ⟨bb,1+k,none⟩=some v:=⟨_,hb7.blk.cellL (List.getElem?_eq_getElem (by rw[brC_len];omega))⟩
     have f7:w7.frozen? ⟨bb,1+k,none⟩=false:=hb7.blk.frozen
     have HG:=Hd (And.intro hg (And.intro hr8 (And.intro hk9 (show ∀ z,(D z∨Since wr w7 z)→W.heap.size≤z from fun z hz=>hz.elim (HSI.out z) (fun e=>Nat.le_trans HKP.out.size e.1)))))
     have HW8:=Hd hW8
     clear hP hr7 hrbD hb7 hg hk8 hr8 hk9 hW8
     go_wp2_with fail
     rw[←HW8.out]
     clear q7 f7
     go_roundw
     case rel=>exact⟨k+1,_,l7,_,_,_,by omega,by go_num,HSP.out,HG.out.1,HG.out.2.2.2,HG.out.2.1,HG.out.2.2.1⟩
     case measure=>simp[intOf];omega
  ·obtain rfl:k=16:=by omega
   go_wp2_with fail
   go_ret2
   rw[HO.out,HRD.out]
   exact⟨HKP.out,_,_,rfl,HBR.out.pa.at'.mono (fun z hz=>⟨HSI.out z hz,HBR.out.lt z hz⟩),HRR.out⟩
theorem rnode_c(w0:World)(s bm:Nat)(room:Int)(S:List Nd5)(rb:Nat)(hR:RdS0 w0 s bm room S rb):∀ f,NodeC w0 s S rb f
 | 0=>fun n d hg W left hE hr hf h160=>by
  obtain rfl:left=0:=by omega
  rw[readN_zero]
  exact node_zero W rb s n hr
 | f+1=>fun n d hg W left hE hr hf h160=>by
  have hRef:=rref_c w0 s bm room S rb hR f (rnode_c w0 s bm room S rb hR f)
  cases left with
  | zero =>
   rw[readN_zero]
   exact node_zero W rb s n hr
  | succ k =>
   rw[readN_succ,if_neg (Nat.succ_ne_zero k)]
   cases hg with
   | none=>exact node_none W rb s k (by omega) _ _ _ hr
   | leaf p v h1 h2 h3=>exact node_leaf W rb s k (by omega) p v _ hr
   | ext p r h1 h2 h3 =>
    have hm:MayP (InlD d) r:=h3.imp id (fun ⟨m,hm,_⟩=>⟨m,hm⟩)
    exact node_ext w0 s S rb f hRef hR.new W k hE (by omega) (by omega) p ⟨#[]⟩ r (noRefs 15) d hm hr
   | branch v rs h1 h2 h3 h4=>exact node_br w0 s S rb f hRef hR.new W k hE (by omega) (by omega) ⟨#[]⟩ v rs d h1 h3 hr
def ReadO(W:World)(o:Option (PA × Nat))(e:Ending)(w':World):Prop:=Ext W w'∧match o with
 | some (P,_)=>∃ T x,e=.returned (.tuple #[.iface T x,.bool true])∧PaAt P (.iface T x) (Since W w') w'
 | none=>∃ v,e=.returned (.tuple #[v,.bool false])∧(v=.nilIface∨∃ T x,v=.iface T x)
noncomputable def readR(S:List Nd5)(root:ByteArray):Option (PA × Nat):=(gHash S root).bind fun m=>readN (gRef S) 160 m 160
theorem tread_c(W:World)(s bm:Nat)(room:Int)(S:List Nd5)(hs:StoreAt W s bm room S)(hN:NodesS S)(root:ByteArray) :
  Calls Tryz.prog 62 #[.pointer (some ⟨s,0,none⟩),.string root] W (ReadO W (readR S root)):=by
 obtain⟨W1,hW1⟩:∃ W1,W1=W.alloc (.cells #[.pointer (some ⟨s,0,none⟩),.int .i64 160] 172):=⟨_,rfl⟩
 have hE1:Ext W W1:=by rw[hW1];exact (ExtR W).alloc _
 have hr1:RdAt W1 W.heap.size s 160:=by rw[hW1];exact Blk.new W _
 have hR:RdS0 W s bm room S W.heap.size:=⟨hs,hN,Nat.le_refl _⟩
 have hH:=rhash_c W s bm room S W.heap.size hR 160 (rnode_c W s bm room S W.heap.size hR 160) root W1 160 hE1 hr1 (Nat.le_refl _) (Nat.le_refl _)
 obtain⟨o,ho⟩:∃ o,o=readR S root:=⟨_,rfl⟩
 have hH:Calls Tryz.prog 112 #[.pointer (some ⟨W.heap.size,0,none⟩),.string root] W1 (RdO W1 W.heap.size s o):=by rw[ho];exact hH
 have HC:=Hd hH
 have HE:=Hd hE1
 have HW:=Hd hW1
 rw[←ho]
 clear hs hN hr1 hR hH ho hE1 hW1
 go_enter Tryz.func62,Tryz.ntmps62
 go_wp2_with fail
 rw[←HW.out]
 refine HC.out.mono ?_
 intro e w7 hO
 obtain⟨hk,hO2⟩:=hO
 have hX:Ext W w7:=HE.out.trans' hk (fun x hx e=>by have e:x=W.heap.size:=e;omega)
 have HX:=Hd hX
 clear hk hX
 cases o with
 | none =>
  obtain⟨v,l,rfl,hv,hr7⟩:=hO2
  clear hr7
  rcases hv with rfl |⟨T,x,rfl⟩
  ·go_wp2_with fail
   go_ret2
   exact⟨HX.out,_,rfl,.inl rfl⟩
  ·go_wp2_with fail
   go_ret2
   exact⟨HX.out,_,rfl,.inr ⟨T,x,rfl⟩⟩
 | some Pl =>
  obtain⟨P,l⟩:=Pl
  obtain⟨T,x,rfl,hP,hr7⟩:=hO2
  have HZ:=Hd hP
  clear hP hr7
  go_wp2_with fail
  go_ret2
  exact⟨HX.out,T,x,rfl,HZ.out.mono (fun z hz=>⟨Nat.le_trans HE.out.size hz.1,hz.2⟩)⟩
theorem gRef_kid(w:World){S:List Nd5}{f:Nat}{m:List Pair}(h:RowsOk f m)(hn:m≠[])(hS:32≤(buildT (f+1) m).text.size→HasS S (buildT (f+1) m).text):gRef S (refB (buildT (f+1) m).text)=some (nodeF (buildT f) m):=by
 have hst:=(good f m h).2.1 hn
 unfold gRef
 by_cases hz:(buildT (f+1) m).text.size < 32
 ·have hi:=hst.may.2 hz
  rw[hashR_inl (inlP (f+1)) hi,inlOf_is w hi]
 ·rw[refB_big hz,hashR_text (shaB_size _)]
  obtain⟨x,h1,h2⟩:=hS (by omega)
  have h1:atL S (shaB (buildT (f+1) m).text).data.toList=some x:=h1
  show (atL S (shaB (buildT (f+1) m).text).data.toList).map (fun x=>nodeOf x.2.2.text)=_
  rw[h1]
  show some (nodeOf x.2.2.text)=_
  have hI:IsNode (buildT (f+1) m).text (nodeF (buildT f) m):=⟨hst.text,f,hst.good⟩
  rw[h2,isNode_inj w (nodeOf_is hI) hI]
theorem read_canon(w:World)(S:List Nd5):∀ (g:Nat) (l:List Pair),RowsOk g l→(∀ x∈flatTs (belowF (buildT g) l),32≤x.size→HasS S x)→∀ (f left:Nat),cntT g l≤left→left≤f→readN (gRef S) f (nodeF (buildT g) l) left=some (partP (g+1) l,left - cntT g l):=by
 intro g
 have small:∀ (g:Nat) (l:List Pair),l.length≤1→cntT g l=1→∀ (f left:Nat),cntT g l≤left→left≤f→readN (gRef S) f (nodeF (buildT g) l) left=some (partP (g+1) l,left - cntT g l):=by
  intro g l hl hc f left h1 h2
  rw[hc]at h1 ⊢
  cases f with
  | zero=>omega
  | succ f =>
   rw[readN_succ,if_neg (by omega)]
   by_cases h0:l.length=0
   ·have e:nodeF (buildT g) l=emptyN:=by unfold nodeF;rw[if_pos h0]
    rw[e,part_nil _ h0];rfl
   ·have h1':l.length=1:=by omega
    have e:nodeF (buildT g) l=⟨1,(l.getD 0 pd).1,(l.getD 0 pd).2,noRefs 16⟩:=by unfold nodeF;rw[if_neg h0,if_pos h1']
    rw[e,part_one _ h1'];rfl
 induction g with
 | zero =>
  intro l h hS f left h1 h2
  exact small 0 l (rows_one h) rfl f left h1 h2
 | succ g ih =>
  intro l h hS f left h1 h2
  by_cases hl:l.length≤1
  ·exact small (g+1) l hl (by unfold cntT;rw[if_pos hl]) f left h1 h2
  have hl2:2≤l.length:=by omega
  have kidS:∀ m,RowsOk g m→m≠[]→(∀ x∈flatTs (heldK (buildT (g+1) m)),x∈flatTs (belowF (buildT (g+1)) l))→(32≤(buildT (g+1) m).text.size→HasS S (buildT (g+1) m).text)∧∀ x∈flatTs (belowF (buildT g) m),32≤x.size→HasS S x:=by
   intro m hm hmn hsub
   refine⟨fun hz=>hS _ (hsub _ ?_) hz,fun x hx hz=>?_⟩
   ·rw[held_big (by omega)];exact text_mem _
   ·by_cases hs:(buildT (g+1) m).text.size < 32
    ·have hst:=(good g m hm).2.1 hmn
     have e:(buildT (g+1) m).kids=[]:=hst.small hs
     have e:belowF (buildT g) m=[]:=e
     rw[e]at hx;cases hx
    ·refine hS x (hsub x ?_) hz
     rw[held_big hs]
     exact List.mem_cons_of_mem _ hx
  cases f with
  | zero =>
   exfalso
   have:1≤cntT (g+1) l:=by unfold cntT;omega
   omega
  | succ f =>
   by_cases hk:0 < comK l
   ·obtain⟨k1,k2,_,_⟩:=next_ok h hl2 hk
    have eB:belowF (buildT (g+1)) l=heldK (buildT (g+1) (dropL (comK l) l)):=by unfold belowF;rw[if_neg (by omega),if_pos hk]
    have eN:nodeF (buildT (g+1)) l=⟨2,(l.getD 0 pd).1.extract 0 (comK l),⟨#[]⟩,refB (buildT (g+1) (dropL (comK l) l)).text :: noRefs 15⟩:=by unfold nodeF;rw[if_neg (by omega),if_neg (by omega),if_pos hk]
    have eC:cntT (g+1) l=1+cntT g (dropL (comK l) l):=by
     show 1+(if l.length≤1 then 0 else if 0 < comK l then cntT g (dropL (comK l) l)else _)=_
     rw[if_neg (by omega),if_pos hk]
    obtain⟨s1,s2⟩:=kidS _ k1 k2 (fun x hx=>by rw[eB];exact hx)
    rw[eC]at h1 ⊢
    rw[readN_succ,if_neg (by omega),eN,part_ext _ hl2 hk]
    show ((gRef S (refB (buildT (g+1) (dropL (comK l) l)).text)).bind fun m=>(readN (gRef S) f m (left - 1)).map fun x=>(PA.ext ((l.getD 0 pd).1.extract 0 (comK l)) x.1,x.2))=_
    rw[gRef_kid w k1 k2 s1]
    show (readN (gRef S) f (nodeF (buildT g) (dropL (comK l) l)) (left - 1)).map _=_
    rw[ih _ k1 s2 f (left - 1) (by omega) (by omega)]
    show some (_,left - 1 - cntT g (dropL (comK l) l))=some (_,left - (1+cntT g (dropL (comK l) l)))
    congr 2
    omega
   ·have eB:belowF (buildT (g+1)) l=(List.range 16).flatMap fun i=>if (cutL i l).length=0 then []else heldK (buildT (g+1) (dropL 1 (cutL i l))):=by unfold belowF;rw[if_neg (by omega),if_neg hk]
    obtain⟨rs,hrs⟩:∃ rs,rs=(List.range 16).map fun i=>if (cutL i l).length=0 then (⟨#[]⟩:ByteArray)else refB (buildT (g+1) (dropL 1 (cutL i l))).text:=⟨_,rfl⟩
    have eN:nodeF (buildT (g+1)) l=⟨3,⟨#[]⟩,if (l.getD 0 pd).1.size=0 then (l.getD 0 pd).2 else ⟨#[]⟩,rs⟩:=by rw[hrs];unfold nodeF;rw[if_neg (by omega),if_neg (by omega),if_neg hk]
    obtain⟨c,hc⟩:∃ c:Nat→Nat,c=fun i=>if (cutL i l).length=0 then 0 else cntT g (dropL 1 (cutL i l)):=⟨_,rfl⟩
    have eC:cntT (g+1) l=1+sumF c 16:=by
     rw[hc]
     show 1+(if l.length≤1 then 0 else if 0 < comK l then _ else _)=_
     rw[if_neg (by omega),if_neg hk]
    obtain⟨kd,hkd⟩:∃ kd:Nat→PA,kd=fun i=>if (cutL i l).length=0 then PA.nil else partP (g+1) (dropL 1 (cutL i l)):=⟨_,rfl⟩
    rw[eC]at h1 ⊢
    have loop:∀ k,k≤16→readK (readN (gRef S) f) (gRef S) rs k (left - 1)=some (fun i=>if i < k then kd i else .nil,left - 1 - sumF c k):=by
     intro k
     induction k with
     | zero=>intro _;simp[readK,sumF]
     | succ k ihk =>
      intro hk16
      rw[readK_succ,ihk (by omega)]
      have hgd:rs.getD k ⟨#[]⟩=if (cutL k l).length=0 then (⟨#[]⟩:ByteArray)else refB (buildT (g+1) (dropL 1 (cutL k l))).text:=by rw[hrs,getD_range _ (by omega)]
      show (if (rs.getD k ⟨#[]⟩).size=0 then some (_,left - 1 - sumF c k)else (gRef S (rs.getD k ⟨#[]⟩)).bind fun m=>(readN (gRef S) f m (left - 1 - sumF c k)).map fun y=>(setK (fun i=>if i < k then kd i else .nil) k y.1,y.2))=_
      have hsum:sumF c (k+1)=sumF c k+c k:=rfl
      by_cases hc0:(cutL k l).length=0
      ·rw[hgd,if_pos hc0,if_pos (show (⟨#[]⟩:ByteArray).size=0 from rfl),hsum]
       have e1:c k=0:=by rw[hc];exact if_pos hc0
       have e2:kd k=.nil:=by rw[hkd];exact if_pos hc0
       rw[e1,Nat.add_zero]
       congr 2
       funext i
       by_cases hi:i < k
       ·rw[if_pos hi,if_pos (by omega)]
       ·rw[if_neg hi]
        by_cases he:i=k
        ·rw[he,if_pos (by omega),e2]
        ·rw[if_neg (by omega)]
      ·obtain⟨k1,k2⟩:=kid_ok h hc0
       obtain⟨s1,s2⟩:=kidS _ k1 k2 (fun x hx=>by
        rw[eB,flatTs_map]
        exact List.mem_flatMap.2 ⟨k,List.mem_range.2 (by omega),by rw[if_neg hc0];exact hx⟩)
       have e1:c k=cntT g (dropL 1 (cutL k l)):=by rw[hc];exact if_neg hc0
       have e2:kd k=partP (g+1) (dropL 1 (cutL k l)):=by rw[hkd];exact if_neg hc0
       have hle:sumF c (k+1)≤sumF c 16:=by
        have:=sumF_mono c (k+1) (15 - k)
        rwa [show k+1+(15 - k)=16 by omega]at this
       rw[hgd,if_neg hc0,if_neg (ref_pos k1 k2),gRef_kid w k1 k2 s1]
       show (readN (gRef S) f (nodeF (buildT g) (dropL 1 (cutL k l))) (left - 1 - sumF c k)).map _=_
       rw[ih _ k1 s2 f _ (by omega) (by omega), ←e1, ←e2,hsum]
       show some (setK _ k (kd k),_)=some (_,_)
       congr 2
       ·funext i
        unfold setK
        by_cases he:i=k
        ·rw[if_pos he,he,if_pos (by omega)]
        ·rw[if_neg he]
         show (if i < k then kd i else PA.nil)=_
         by_cases hi:i < k
         ·rw[if_pos hi,if_pos (by omega)]
         ·rw[if_neg hi,if_neg (by omega)]
       ·omega
    rw[readN_succ,if_neg (by omega),eN,part_br _ hl2 hk]
    show (readK (readN (gRef S) f) (gRef S) rs 16 (left - 1)).map (fun x=>(PA.br (if (l.getD 0 pd).1.size=0 then (l.getD 0 pd).2 else ⟨#[]⟩) x.1,x.2))=_
    rw[loop 16 (Nat.le_refl _), ←hkd]
    show some (PA.br _ (fun i=>if i < 16 then kd i else .nil),left - 1 - sumF c 16)=some (PA.br _ kd,left - (1+sumF c 16))
    have e3:(fun i=>if i < 16 then kd i else .nil)=kd:=by
     funext i
     by_cases hi:i < 16
     ·rw[if_pos hi]
     ·rw[if_neg hi,hkd]
      show PA.nil=if (cutL i l).length=0 then PA.nil else _
      rw[if_pos (by
       cases hz:(cutL i l).length with
       | zero=>rfl
       | succ n=>exact absurd (cut16 h (i:=i) (by omega)) hi)]
    rw[e3]
    congr 2
    omega
theorem cnt_part:∀ (g:Nat) (l:List Pair),RowsOk g l→cntP (partP (g+1) l)=cntT g l:=by
 intro g
 have small:∀ (g:Nat) (l:List Pair),l.length≤1→cntP (partP (g+1) l)=1:=by
  intro g l hl
  by_cases h0:l.length=0
  ·rw[part_nil _ h0];rfl
  ·rw[part_one _ (by omega)];rfl
 induction g with
 | zero=>intro l h;exact small 0 l (rows_one h)
 | succ g ih =>
  intro l h
  by_cases hl:l.length≤1
  ·rw[small _ l hl]
   show 1=1+(if l.length≤1 then 0 else _)
   rw[if_pos hl]
  have hl2:2≤l.length:=by omega
  show _=1+(if l.length≤1 then 0 else if 0 < comK l then cntT g (dropL (comK l) l)else sumF (fun i=>if (cutL i l).length=0 then 0 else cntT g (dropL 1 (cutL i l))) 16)
  rw[if_neg hl]
  by_cases hk:0 < comK l
  ·rw[if_pos hk,part_ext _ hl2 hk]
   show 1+cntP (partP (g+1) (dropL (comK l) l))=_
   rw[ih _ (next_ok h hl2 hk).1]
  ·rw[if_neg hk,part_br _ hl2 hk]
   show 1+sumF (fun i=>cntP (if (cutL i l).length=0 then PA.nil else partP (g+1) (dropL 1 (cutL i l)))) 16=_
   congr 2
   funext i
   by_cases hc:(cutL i l).length=0
   ·rw[if_pos hc,if_pos hc];rfl
   ·rw[if_neg hc,if_neg hc,ih _ (kid_ok h hc).1]
theorem cnt_map{l:List Pair}(h:MapOk l):cntT 12 (rowsL l)≤118:=by
 have hr:=rows_ok h
 by_cases hn:rowsL l=[]
 ·rw[hn];decide
 ·have h1:=(cnt_le 12 _ hr hn).all
  have h2:=h.len
  have h3:(rowsL l).length=l.length:=by unfold rowsL;rw[List.length_map]
  omega
theorem readR_map(w:World){S:List Nd5}{l:List Pair}(h:HasM S l):∃ k,readR S (shaB (trieT l).text)=some (partP 13 (rowsL l),k):=by
 have hr:=rows_ok (check_ok h.ok)
 obtain⟨x,h1,h2⟩:=h.has _ (text_mem _)
 have h1:atL S (shaB (trieT l).text).data.toList=some x:=h1
 have hI:IsNode (trieT l).text (nodeF (buildT 12) (rowsL l)):=⟨rfl,12,(good 12 _ hr).1⟩
 unfold readR gHash
 rw[h1]
 show ∃ k,readN (gRef S) 160 (nodeOf x.2.2.text) 160=_
 rw[h2,isNode_inj w (nodeOf_is hI) hI]
 have hc:=cnt_map (check_ok h.ok)
 exact⟨_,read_canon w S 12 _ hr (fun y hy _=>h.has y (List.mem_cons_of_mem _ hy)) 160 160 (by omega) (Nat.le_refl _)⟩
end
section
open Go Go.RowKit
end
section
open Go Go.RowKit
attribute [local go_sem] Oper.semAt_some
def ErrT(w:World):Prop:=w.cell? ⟨1,0,none⟩=some (.iface 255 (.agg #[.pointer (some ⟨3,163,none⟩)]))
theorem ErrT.ext{w w':World}(h:ErrT w)(k:Ext w w'):ErrT w':=cell_ext h k
structure WrAt(z g:Nat)(v:Value)(T:List ByteArray)(W:World):Prop where
 lo:z≤g
 var:Blk W g (.cells #[v] 128)
 row:W.ownsRow 0 9 1 v T.length (T.map Value.string)
 own:∀ b,v.ownBlock=some b→z≤b∧b≠g∧b < W.heap.size
 nil:T=[]→v=.slice none 0 0
theorem WrAt.ext{z g:Nat}{v:Value}{T:List ByteArray}{W W':World}(h:WrAt z g v T W)(e:Ext W W'):WrAt z g v T W':=
 ⟨h.lo,h.var.keeps e (fun g=>g),own_ext h.row e,fun b hb=>⟨(h.own b hb).1,(h.own b hb).2.1,Nat.lt_of_lt_of_le (h.own b hb).2.2 e.size⟩,h.nil⟩
theorem WrAt.off{z g:Nat}{v:Value}{T:List ByteArray}{W W':World}{F:BSet}(h:WrAt z g v T W)(e:Keeps F W W')(h1:¬ F g)(h2:∀ b,v.ownBlock=some b→¬ F b):WrAt z g v T W':=
 ⟨h.lo,h.var.keeps e h1,own_keeps h.row e h2,fun b hb=>⟨(h.own b hb).1,(h.own b hb).2.1,Nat.lt_of_lt_of_le (h.own b hb).2.2 e.size⟩,h.nil⟩
structure WrTo(z g:Nat)(v:Value)(W W':World)(v':Value)(T':List ByteArray):Prop where
 at':WrAt z g v' T' W'
 kp:Keeps (fun b=>b=g∨v.ownBlock=some b) W W'
 sub:∀ b,v'.ownBlock=some b→v.ownBlock=some b∨W.heap.size≤b
theorem WrTo.refl{z g:Nat}{v:Value}{T:List ByteArray}{W W':World}(h:WrAt z g v T W)(e:Ext W W'):WrTo z g v W W' v T:=⟨h.ext e,e.mono (fun _ _ h=>h.elim),fun b hb=>.inl hb⟩
theorem WrTo.trans{z g:Nat}{v v' v'':Value}{T T':List ByteArray}{W W' W'':World}(h:WrTo z g v W W' v' T)(k:WrTo z g v' W' W'' v'' T'):WrTo z g v W W'' v'' T':=
 ⟨k.at',h.kp.trans' k.kp (fun x hx e=>by
  rcases e with e | e
  ·exact .inl e
  ·rcases h.sub x e with e | e
   ·exact .inr e
   ·omega),fun b hb=>by
  rcases k.sub b hb with e | e
  ·exact h.sub b e
  ·exact .inr (Nat.le_trans h.kp.size e)⟩
theorem WrTo.ext{z g:Nat}{v v':Value}{T:List ByteArray}{W W' W'':World}(h:WrTo z g v W W' v' T)(e:Ext W' W''):WrTo z g v W W'' v' T:=h.trans (WrTo.refl h.at' e)
theorem WrTo.blk{z g:Nat}{v v':Value}{T:List ByteArray}{W W':World}(h:WrTo z g v W W' v' T){b:Nat}{o:Obj}(hB:Blk W b o)(h1:b≠g)(h2:v.ownBlock≠some b):Blk W' b o:=hB.keeps h.kp (fun e=>e.elim h1 h2)
theorem WrTo.ext0{z g:Nat}{v v':Value}{T T':List ByteArray}{W0 W W':World}(h:WrTo z g v W W' v' T')(k:WrAt z g v T W)(e:Ext W0 W)(hz:W0.heap.size≤z):Ext W0 W':=
 e.trans' h.kp (fun x hx e=>by
  rcases e with e | e
  ·have:=k.lo;omega
  ·have:=(k.own x e).1;omega)
theorem WrTo.fill{z g:Nat}{v v':Value}{T:List ByteArray}{W W' W'':World}(h:WrTo z g v W W' v' T){L:Nat}(e:Keeps (fun b=>b=L) W' W'')(h1:L≠g)(h2:v'.ownBlock≠some L)(h3:W.heap.size≤L):WrTo z g v W W'' v' T:=
 ⟨h.at'.off e (fun x=>h1 x.symm) (fun b hb x=>h2 (by rw[hb,x])),h.kp.trans' e (fun x hx y=>by have y:x=L:=y;omega),h.sub⟩
theorem WrTo.ahead{z g:Nat}{v v':Value}{T:List ByteArray}{W0 W W':World}(e:Ext W0 W)(h:WrTo z g v W W' v' T):WrTo z g v W0 W' v' T:=
 ⟨h.at',(e.mono (fun _ _ h=>h.elim)).trans' h.kp (fun x hx e=>e),fun b hb=>(h.sub b hb).imp id (fun k=>Nat.le_trans e.size k)⟩
def FoP(z g:Nat)(v:Value)(W:World)(r:Value)(T:List ByteArray)(e:Ending)(w':World):Prop:=e=.returned r∧∃ v',WrTo z g v W w' v' T
structure PutsN(n:NodeT):Prop where
 refs:n.refs.length=16
 call:∀ w,Cubes w→ErrT w→Calls Tryz.prog 121 #[n.V] w fun e w'=>(∃ k:Int,e=.returned (.tuple #[.string (putN n),.int .i64 k]))∧Ext w w'
theorem puts_good{d:Nat}{n:NodeT}(h:GoodW (InlD d) n):PutsN n:=⟨(h.one (inlP d)).refs,fun w _ _=>by
 rw[putN_good h]
 exact (nput_c (inlP d) w n h).mono fun e w' h=>⟨⟨0,h.1⟩,h.2⟩⟩
def PutP:PA→Prop
 | .nil=>True
 | .no=>PutsN emptyN
 | .leaf q v=>PutsN ⟨1,q,v,noRefs 16⟩
 | .ext q n=>PutsN (nodeP (.ext q n))∧PutP n
 | .br v ks=>PutsN (nodeP (.br v ks))∧∀ i,PutP (ks i)
theorem PutP.node{P:PA}(h:PutP P)(hn:P.isNil=false):PutsN (nodeP P):=by
 cases P with
 | nil=>cases hn
 | no=>exact h
 | leaf q v=>exact h
 | ext q n=>exact h.1
 | br v ks=>exact h.1
theorem under_len:∀ (P:PA),P.isNil=false→(underP P).length+1≤cntP P
 | .nil,h=>by cases h
 | .no,_=>Nat.le_refl _
 | .leaf _ _,_=>Nat.le_refl _
 | .ext q n,_=>by
  show (bigs (textP n)++underP n).length+1≤1+cntP n
  rw[List.length_append]
  have h1:=bigs_len (textP n)
  cases hn:n.isNil with
  | true=>rw[isNil_eq hn];exact Nat.le_refl _
  | false =>
   have:=under_len n hn
   omega
 | .br v ks,_=>by
  show ((List.range 16).flatMap fun i=>if (ks i).isNil then []else bigs (textP (ks i))++underP (ks i)).length+1≤1+sumF (fun i=>cntP (ks i)) 16
  have:=flat_sum (fun i=>if (ks i).isNil then []else bigs (textP (ks i))++underP (ks i)) (fun i=>cntP (ks i)) (fun i=>by
   show (if (ks i).isNil=true then ([]:List ByteArray)else bigs (textP (ks i))++underP (ks i)).length≤cntP (ks i)
   cases hn:(ks i).isNil with
   | true=>rw[if_pos rfl];exact Nat.zero_le _
   | false =>
    rw[if_neg ff,List.length_append]
    have h1:=bigs_len (textP (ks i))
    have:=under_len (ks i) hn
    omega) 16
  omega
def FormC(P:PA):Prop:=∀ (w0 W:World) (T:TypeId) (x:Value) (D:Nat→Prop) (g:Nat) (v:Value) (Tx:List ByteArray),Cubes w0→ErrT w0→PaO P (.iface T x) D w0→Ext w0 W→WrAt w0.heap.size g v Tx W→Tx.length+cntP P≤100000 →
 Calls Tryz.prog (paForm P) #[x,.pointer (some ⟨g,0,none⟩)] W (FoP w0.heap.size g v W (nodeP P).V (Tx++underP P))
def TopC(P:PA):Prop:=∀ (w0 W:World) (T:TypeId) (x:Value) (D:Nat→Prop) (g:Nat) (v:Value) (Tx:List ByteArray),Cubes w0→ErrT w0→PaO P (.iface T x) D w0→Ext w0 W→WrAt w0.heap.size g v Tx W→Tx.length+cntP P≤100000 →
 Calls Tryz.prog 81 #[.pointer (some ⟨g,0,none⟩),.iface T x] W (FoP w0.heap.size g v W (.string (textP P)) (Tx++underP P))
def WRefC(P:PA):Prop:=∀ (w0 W:World) (T:TypeId) (x:Value) (D:Nat→Prop) (g:Nat) (v:Value) (Tx:List ByteArray),Cubes w0→ErrT w0→PaO P (.iface T x) D w0→Ext w0 W→WrAt w0.heap.size g v Tx W→Tx.length+cntP P≤100000 →
 Calls Tryz.prog 275 #[.pointer (some ⟨g,0,none⟩),.iface T x] W (FoP w0.heap.size g v W (.string (refB (textP P))) (Tx++(bigs (textP P)++underP P)))
theorem noform_c(z g:Nat)(v:Value)(Tx:List ByteArray)(W:World)(h:WrAt z g v Tx W):Calls Tryz.prog 305 #[.agg #[],.pointer (some ⟨g,0,none⟩)] W (FoP z g v W emptyN.V Tx):=by
 have H:=Hd h
 clear h
 go_enter Tryz.func305,Tryz.ntmps305
 go_wp2_with (first |(refine wpList_new Tryz.allocNode rfl rfl ?_;intro W5 hB5 hE5;simp only[World.size_alloc]at hB5) |(refine wpList_fill (vs:=emptyN.cells) rfl rfl rfl rfl hB5 rfl Tryz.szNode emptyN.one ?_;intro W6 hB6 hE6))
 have hE1:Ext W (W.alloc (.cells #[] 276)):=(ExtR W).alloc _
 refine bodyPost_ret (results_cell rfl rfl (run_loadVar_api W6 _ emptyN rfl hB6)) rfl ?_
 exact⟨rfl,v,WrTo.refl H.out ((hE1.trans hE5).trans' hE6 (fun x hx e=>by have e:x=W.heap.size+1:=e;omega))⟩
def leafC(q u:ByteArray):List Value:=cells19 1 q u ⟨#[]⟩
theorem lform_c(w0:World)(z g:Nat)(v:Value)(Tx:List ByteArray)(W:World)(hE:Ext w0 W)(q u:ByteArray)(b:Nat)(hB:Blk w0 b (.cells #[.string q,.string u] 267))(h:WrAt z g v Tx W):Calls Tryz.prog 291 #[.pointer (some ⟨b,0,none⟩),.pointer (some ⟨g,0,none⟩)] W (FoP z g v W (NodeT.V ⟨1,q,u,noRefs 16⟩) Tx):=by
 have H:=Hd h
 have Q0:=Hd (cell_ext (hB.cell (i:=0) (v:=.string q) (by rfl)) hE)
 have Q1:=Hd (cell_ext (hB.cell (i:=1) (v:=.string u) (by rfl)) hE)
 have hbl:=hB.lt
 have HNB:=Hd (show ¬ b=W.heap.size by have:=hE.size;omega)
 clear h hB hE hbl
 go_enter Tryz.func291,Tryz.ntmps291
 go_wp2_with (refine wpList_new Tryz.allocNode rfl rfl ?_;intro W4 hB4 hE4)
 have HB4:=Hd hB4
 have HE4:=Hd hE4
 clear hB4 hE4
 simp only[Act.put,sA,sB,sC]
 refine wp_region_mixD [0,1,2,3,4,5,6,7,8,9] [9] Ext (Keeps (fun z=>z=W.heap.size)) ExtR ExtT (fun x y z h k=>Keeps.trans h k) (fun x y h=>h.mono (fun _ _ h=>h.elim)) (by kernel_rfl) (by kernel_rfl) (by kernel_rfl) ?_
 (refine mixd_pure _ rfl (by kernel_rfl) rfl rfl (fun K hK=>?_);go_big_quiet_op;refine hK _ ?_;clear hK K)
 refine mixd_val _ ((.pointer (some ⟨b,0,none⟩))) rfl (by kernel_rfl) rfl (fun w1 _=>by kernel_rfl) ?_
 simp only[Act.put,sA,sB,sC]
 (refine mixd_pure _ rfl (by kernel_rfl) rfl rfl (fun K hK=>?_);go_big_quiet_op;refine hK _ ?_;clear hK K)
 refine mixd_load ⟨b,0,none⟩ _ rfl (by kernel_rfl) rfl rfl (fun w1 h1=>run_load_na (fun w=>by kernel_rfl) (cell_keeps (cell_ext Q0.out HE4.out) (((Keeps.refl (fun z=>z=W.heap.size) W4).drew).trans h1) (by exact HNB.out))) ?_
 simp only[Act.put,sA,sB,sC]
 (refine mixd_pure _ rfl (by kernel_rfl) rfl rfl (fun K hK=>?_);go_big_quiet_op;refine hK _ ?_;clear hK K)
 refine mixd_val _ ((.pointer (some ⟨b,0,none⟩))) rfl (by kernel_rfl) rfl (fun w1 _=>by kernel_rfl) ?_
 simp only[Act.put,sA,sB,sC]
 (refine mixd_pure _ rfl (by kernel_rfl) rfl rfl (fun K hK=>?_);go_big_quiet_op;refine hK _ ?_;clear hK K)
 refine mixd_load ⟨b,1,none⟩ _ rfl (by kernel_rfl) rfl rfl (fun w1 h1=>run_load_na (fun w=>by kernel_rfl) (cell_keeps (cell_ext Q1.out HE4.out) (((Keeps.refl (fun z=>z=W.heap.size) W4).drew).trans h1) (by exact HNB.out))) ?_
 simp only[Act.put,sA,sB,sC]
 (refine mixd_pure _ rfl (by kernel_rfl) rfl rfl (fun K hK=>?_);go_big_quiet_op;refine hK _ ?_;clear hK K)
 refine mixd_hard _ rfl (by kernel_rfl) rfl (fun w5 he K hK=>?_)
 have hX:=(drewE W4).trans he
 refine wp_fill (vs:=leafC q u) rfl rfl rfl (HB4.out.keeps hX (fun h=>h)) rfl Tryz.szNode (cells19_one _ _ _ _) ?_
 intro W6 hB6 hE6
 have H6:=Hd (And.intro hB6 ((HE4.out.trans hX).trans' hE6 (fun x hx e=>by have e:x=W.heap.size:=e;omega)))
 simp only[Act.put,sA,sB,sC]
 refine hK _ _ hE6 ?_
 clear hK K he hX hB6 hE6
 refine mixd_end (by kernel_rfl) (fun w7 he=>?_)
 have hB7:=H6.out.1.keeps he (fun h=>h)
 have hE7:=H6.out.2.trans he
 go_wp2_with fail
 refine bodyPost_ret (results_cell rfl rfl (run_loadVar_api w7 _ ⟨1,q,u,noRefs 16⟩ rfl hB7)) rfl ?_
 exact⟨rfl,v,WrTo.refl H.out hE7⟩
theorem wtop_c(P:PA)(hn:P.isNil=false)(hp:PutP P)(hF:FormC P):TopC P:=by
 intro w0 W T x D g v Tx hc he hP hE hW hl
 have hf:=hF w0 W T x D g v Tx hc he hP hE hW hl
 have hm:=hP.at'.meth.form
 have hm:∀ w,(Go.method (469+1) T x "guilloche/trie.form").run Tryz.prog w=.ok (paForm P,x) w:=hm
 have hent:=enter_form P
 have hpn:=hp.node hn
 rw[text_node hn]
 have HN:=Hd (show ∀ w,Ext w0 w→Calls Tryz.prog 121 #[(nodeP P).V] w fun e w'=>(∃ k:Int,e=.returned (.tuple #[.string (putN (nodeP P)),.int .i64 k]))∧Ext w w' from fun w e=>hpn.call w (hc.ext e) (he.ext e))
 have HF:=Hd hf
 have HW:=Hd (And.intro hW hE)
 obtain⟨U,hU⟩:∃ U,U=Tx++underP P:=⟨_,rfl⟩
 rw[←hU]at HF ⊢
 obtain⟨n,hnn⟩:∃ n,n=nodeP P:=⟨_,rfl⟩
 rw[←hnn]at HF HN ⊢
 clear hf hc he hP hE hW hl hpn hn hp hF hU hnn
 go_enter Tryz.func81,Tryz.ntmps81
 go_wp2_with fail
 refine HF.out.mono ?_
 rintro e w1 ⟨rfl,v1,hT⟩
 have HT:=Hd hT
 have HE1:=Hd (hT.ext0 HW.out.1 HW.out.2 (Nat.le_refl _))
 clear hT
 go_wp2_with fail
 refine (HN.out w1 HE1.out).mono ?_
 rintro e w2 ⟨⟨k,rfl⟩,hE2⟩
 have HE2:=Hd hE2
 clear hE2
 go_wp2_with fail
 go_ret
 exact⟨rfl,v1,HT.out.ext HE2.out⟩
end
section
open Go Go.RowKit
end
section
open Go Go.RowKit
attribute [local go_sem] Oper.semAt_some
end
section
open Go Go.RowKit
end
section
open Go Go.RowKit
attribute [local go_sem] Oper.semAt_some
end
section
open Go Go.RowKit
end
section
open Go Go.RowKit
attribute [local go_sem] Oper.semAt_some
theorem hash_is{y h:ByteArray}(hh:hashA y=some h):IsHash y:=by
 unfold hashA at hh
 cases hc:cutN y with
 | none=>rw[hc]at hh;cases hh
 | some r =>
  rw[hc]at hh
  have hh:hashB y r=some h:=hh
  unfold hashB at hh
  rw[Option.filter_eq_some_iff]at hh
  obtain⟨h1,h2⟩:=hh
  have h2:h.size=32:=by simpa using h2
  unfold plainB at h1
  by_cases hr:r.1=false∧r.2.1+r.2.2=y.size
  case neg=>rw[if_neg hr]at h1;cases h1
  rw[if_pos hr]at h1
  have h1:=Option.some.inj h1
  obtain⟨b,o,n⟩:=r
  obtain⟨hb,hs⟩:=hr
  have hb:b=false:=hb
  have hs:o+n=y.size:=hs
  subst hb
  refine⟨h,h2,?_⟩
  have hn:n=32:=by
   have e:=congrArg ByteArray.size h1
   rw[ByteArray.size_extract]at e
   simp only at e
   omega
  obtain⟨⟨l⟩⟩:=y
  cases l with
  | nil=>exact absurd (cutN_pos hc).1 (by decide)
  | cons a t =>
   have hc:cutN ⟨(a :: t).toArray⟩=some (false,o,n):=hc
   rw[cutN_cons]at hc
   obtain⟨m,hm⟩:∃ m,m=(if a.toNat < 192 then a.toNat - 128 else a.toNat - 192):=⟨_,rfl⟩
   rw[←hm]at hc
   by_cases h4:a.toNat < 128
   ·rw[if_pos h4]at hc
    have:=(Prod.mk.inj (Prod.mk.inj (Option.some.inj hc)).2).2;omega
   rw[if_neg h4]at hc
   by_cases h5:m≤55
   ·rw[if_pos h5]at hc
    split at hc
    ·have e1:=(Prod.mk.inj (Option.some.inj hc)).1
     have e2:=(Prod.mk.inj (Prod.mk.inj (Option.some.inj hc)).2).1
     have e3:=(Prod.mk.inj (Prod.mk.inj (Option.some.inj hc)).2).2
     have e1:¬ 192≤a.toNat:=of_decide_eq_false e1
     rw[if_pos (by omega)]at hm
     have ha:a=160:=UInt8.toNat_inj.1 (by show a.toNat=160;omega)
     have ht:h=⟨t.toArray⟩:=by
      rw[←h1, ←e2,hn]
      apply ByteArray.ext;apply Array.ext'
      have hs':o+n=t.length+1:=hs
      rw[ByteArray.data_extract,Array.toList_extract,List.extract_eq_take_drop]
      show ((a :: t).drop 1).take (1+32 - 1)=t
      rw[List.drop_succ_cons,List.drop_zero,List.take_of_length_le (by omega)]
     unfold textB
     rw[if_neg (by omega),h2,ht,ha]
     apply ByteArray.ext;apply Array.ext'
     rw[ByteArray.data_append,Array.toList_append];rfl
    ·cases hc
   ·rw[if_neg h5]at hc
    split at hc
    ·rename_i n' hl
     split at hc
     ·have e3:=(Prod.mk.inj (Prod.mk.inj (Option.some.inj hc)).2).2
      have:=(lenB_some hl).2.2.2.1
      omega
     ·cases hc
    ·cases hc
def GetE(s:ByteArray):Prop:=∀ w,ErrT w→Calls Tryz.prog 95 #[.string s] w (GetNo w)
theorem WrAt.push{z g:Nat}{v v':Value}{Tx New:List ByteArray}{W w6:World}(h:WrAt z g v Tx W){n:Nat}(hn:n=(Tx++New).length)(r1:w6.ownsRow 0 9 1 v' n ((Tx++New).map Value.string))(r2:Keeps (fun b=>v.ownBlock=some b) W w6)(r3:v'.ownBlock=v.ownBlock∨∀ b,v'.ownBlock=some b→W.heap.size≤b)(hz:z≤W.heap.size)(h0:New≠[]) :
  WrTo z g v W (w6.setCell ⟨g,0,none⟩ v') v' (Tx++New):=by
 subst hn
 have hV6:=h.var.keeps r2 (fun e=>(h.own g e).2.1 rfl)
 have K7:=Keeps.oneSet w6 ⟨g,0,none⟩ v'
 have hgs:=h.var.lt
 have hsub:∀ b,v'.ownBlock=some b→v.ownBlock=some b∨W.heap.size≤b:=fun b hb=>by
  rcases r3 with r3 | r3
  ·exact .inl (r3 ▸ hb)
  ·exact .inr (r3 b hb)
 have hne:∀ b,v'.ownBlock=some b→b≠g:=fun b hb=>by
  rcases hsub b hb with e | e
  ·exact (h.own b e).2.1
  ·omega
 refine⟨⟨h.lo,hV6.set_same (i:=0) _,own_keeps r1 K7 (fun b hb e=>hne b hb e),fun b hb=>⟨?_,hne b hb,Nat.lt_of_lt_of_le (own_lt r1 hb) K7.size⟩,fun e=>?_⟩,?_,hsub⟩
 ·rcases hsub b hb with e | e
  ·exact (h.own b e).1
  ·omega
 ·exact absurd (List.append_eq_nil_iff.1 e).2 h0
 ·exact ((r2.mono (fun x _ e=>.inr e):Keeps (fun b=>b=g∨v.ownBlock=some b) W w6)).trans' K7 (fun x hx e=>.inl e)
theorem WrAt.sameTo{z g:Nat}{v:Value}{Tx:List ByteArray}{W:World}(h:WrAt z g v Tx W):WrTo z g v W (W.setCell ⟨g,0,none⟩ v) v Tx:=by
 have K:=Keeps.oneSet W ⟨g,0,none⟩ v
 have hB:=h.var.set_same (i:=0) v
 exact⟨⟨h.lo,hB,own_keeps h.row K (fun b hb e=>(h.own b hb).2.1 e),fun b hb=>⟨(h.own b hb).1,(h.own b hb).2.1,Nat.lt_of_lt_of_le (h.own b hb).2.2 K.size⟩,h.nil⟩,K.mono (fun x _ e=>.inl e),fun b hb=>.inl hb⟩
theorem WrAt.same{z g:Nat}{v:Value}{Tx:List ByteArray}{W:World}(h:WrAt z g v Tx W):WrAt z g v Tx (W.setCell ⟨g,0,none⟩ v):=h.sameTo.at'
theorem own_ptr{W:World}{T:TypeId}{sz:Nat}{a:Option Addr}{n c:Nat}{xs:List Value}(h:W.ownsRow 0 T sz (.slice a n c) n xs)(h0:n≠0):∃ b,a=some ⟨b,0,none⟩:=by
 obtain⟨_,⟨h1,h2⟩ |⟨g,cap,cur,h2,_⟩⟩:=h
 ·injection h1 with _ h1 _
  exact absurd h1 h0
 ·injection h2 with h2 _ _
  exact⟨g,h2⟩
theorem own_row_at{W:World}{T:TypeId}{b n c:Nat}{xs:List Value}(h:W.ownsRow 0 T 1 (.slice (some ⟨b,0,none⟩) n c) n xs){j:Nat}{u:Value}(hj:xs[j]?=some u):W.cell? ⟨b,j,none⟩=some u:=by
 have hl:=(List.getElem?_eq_some_iff.1 hj).1
 have hx:=h.1
 rw[h.cellAt j (by omega),hj]
theorem hash_big(t:ByteArray)(h:¬ t.size < 32):hashA (refB t)=some (shaB t):=by
 rw[hashA_R]
 unfold refB
 rw[if_neg h]
 exact hashR_text (shaB_size _)
theorem hash_smallB(t:ByteArray)(h:t.size < 32):hashA (refB t)=none:=by
 unfold refB
 rw[if_pos h]
 cases e:hashA t with
 | none=>rfl
 | some x =>
  have:=(hash_is (y:=t) (h:=x) e).size
  omega
theorem refB_le(t:ByteArray):(refB t).size≤33:=by
 unfold refB
 split
 ·omega
 ·exact Nat.le_of_eq (IsHash.size ⟨_,shaB_size t,rfl⟩)
theorem own_cap{W:World}{T:TypeId}{sz:Nat}{a:Option Addr}{n c:Nat}{xs:List Value}(h:W.ownsRow 0 T sz (.slice a n c) n xs):n≤c:=by
 obtain⟨_,⟨h1,h2⟩ |⟨g,cap,cur,h2,h3,h4,h5,h6⟩⟩:=h
 ·omega
 ·injection h2 with _ _ h2
  omega
theorem wref_small(P:PA)(hT:TopC P)(hz:(textP P).size < 32)(w0 W:World)(T:TypeId)(x:Value)(D:Nat→Prop)(g:Nat)(v:Value)(Tx:List ByteArray)(hc:Cubes w0)(he:ErrT w0)(hP:PaO P (.iface T x) D w0)(hE:Ext w0 W)(hW:WrAt w0.heap.size g v Tx W)(hl:Tx.length+cntP P≤100000) :
  Calls Tryz.prog 275 #[.pointer (some ⟨g,0,none⟩),.iface T x] W (FoP w0.heap.size g v W (.string (refB (textP P))) (Tx++underP P)):=by
 obtain⟨W1,hW1⟩:∃ W1,W1=W.alloc (.cells #[.slice none 0 0] 128):=⟨_,rfl⟩
 have hE1:Ext W W1:=by rw[hW1];exact (ExtR W).alloc _
 have hw1:WrAt w0.heap.size W.heap.size (.slice none 0 0) [] W1:=⟨hE.size,by rw[hW1];exact Blk.new W _,World.ownsRow_nil _ _ _ _,fun b hb=>(by cases hb),fun _=>rfl⟩
 have htop:=hT w0 W1 T x D W.heap.size (.slice none 0 0) [] hc he hP (hE.trans hE1) hw1 (by have:([]:List ByteArray).length=0:=rfl;omega)
 rw[List.nil_append]at htop
 have HTOP:=Hd htop
 clear htop
 have HW1:=Hd hW1
 have hw0:=HW1
 have HG:=Hd hW
 have HWR:=Hd (And.intro hw1 (And.intro hE1 hE))
 have hC1:=hc
 have HREF:=Hd (fun w (e:Ext w0 w)=>ref_c w (textP P) (hc.ext e))
 have HASH:=Hd (fun w=>hash_any w (refB (textP P)) (by have:=refB_le (textP P);omega))
 rw[hash_smallB _ hz]at HASH
 have hul:Tx.length+(underP P).length≤100000:=by
  cases hn:P.isNil with
  | true=>rw[isNil_eq hn];show Tx.length+0≤_;omega
  | false=>have:=under_len P hn;omega
 have HUL:=Hd hul
 obtain⟨U,hU⟩:∃ U,U=underP P:=⟨_,rfl⟩
 obtain⟨t,ht⟩:∃ t,t=textP P:=⟨_,rfl⟩
 rw[←ht, ←hU]at HTOP
 rw[←ht]at HREF HASH ⊢
 rw[←hU]at HUL ⊢
 clear hT hz hc he hP hE hW hl hE1 hw1 hul hU ht hW1 hw0 hC1
 go_enter Tryz.func275,Tryz.ntmps275
 go_wp2_with fail
 rw[←HW1.out]
 refine HTOP.out.mono ?_
 rintro e w2 ⟨rfl,v2,hT2⟩
 have hgh:g≠W.heap.size:=by have:=HG.out.var.lt;omega
 have hT2x:=hT2.ext0 HWR.out.1 (HWR.out.2.2.trans HWR.out.2.1) (Nat.le_refl _)
 have hg2:WrAt w0.heap.size g v Tx w2:=(HG.out.ext HWR.out.2.1).off hT2.kp (fun e=>e.elim hgh (fun e=>by cases e)) (fun b hb e=>e.elim (fun e=>by have:=(HG.out.own b hb).2.2;omega) (fun e=>by cases e))
 have hk2:Ext W w2:=HWR.out.2.1.trans' hT2.kp (fun x hx e=>e.elim (fun e=>by omega) (fun e=>by cases e))
 have HSUB:=Hd (show ∀ b,v2.ownBlock=some b→W.heap.size≤b from fun b hb=>(hT2.sub b hb).elim (fun e=>by cases e) (fun e=>Nat.le_trans HWR.out.2.1.size e))
 have HT2:=Hd (And.intro hT2.at' (And.intro hg2 (And.intro hk2 hT2x)))
 clear hT2 hg2 hk2 hT2x
 obtain⟨h,hh⟩:∃ h,h=W.heap.size:=⟨_,rfl⟩
 have HGH:=Hd (And.intro hgh hh)
 rw[←hh]at HT2 ⊢
 clear hgh hh
 go_wp2_with fail
 refine (HREF.out w2 HT2.out.2.2.2).mono ?_
 rintro e w3 ⟨rfl,hE3⟩
 have HE3:=Hd hE3
 clear hE3
 go_wp2_with fail
 refine (HASH.out w3).mono ?_
 rintro e w4 ⟨rfl,hE4⟩
 have hE4:=HE3.out.trans hE4
 have HT4:=Hd (And.intro (HT2.out.1.ext hE4) (And.intro (HT2.out.2.1.ext hE4) (HT2.out.2.2.1.trans hE4)))
 clear hE4
 unfold optV
 go_wp2_with fail
 obtain⟨i0,hi0,hz0,hz1,hz2⟩:=info_parts Tryz.infoStr
 obtain⟨a1,c1,hv1⟩:=row_slice HT4.out.2.1.row
 obtain⟨n1,hn1⟩:∃ n,n=List.length Tx:=⟨_,rfl⟩
 rw[←hn1]at hv1
 subst hv1
 have HL1:=Hd hn1
 have HR1:=Hd (show World.ownsRow w4 0 9 1 (.slice a1 n1 c1) n1 (List.map Value.string Tx) by have h9:=HT4.out.2.1.row;rw[←hn1]at h9;exact h9)
 have HCAP:=Hd (own_cap HR1.out)
 have QG:=Hd (HT4.out.2.1.var.cell (i:=0) (v:=.slice a1 n1 c1) (by rfl))
 clear hn1
 by_cases hU0:U=[]
 ·have hv2:=HT4.out.1.nil hU0
  subst hv2
  have QH:=Hd (HT4.out.1.var.cell (i:=0) (v:=.slice none 0 0) (by rfl))
  have HU0:=Hd hU0
  clear hU0
  refine wp_region_mix [0,1,2,3,4,5,6,7,8,9,10,11,12] [9,12] (Ext) ExtR ExtT (by kernel_rfl) (by kernel_rfl) (by kernel_rfl) ?_
  iterate 2 (refine mix_pure _ rfl (by kernel_rfl) rfl rfl (fun K hK=>?_);go_big_quiet_op;refine hK _ ?_;clear hK K)
  refine mix_any _ ((.pointer (some ⟨g,0,none⟩))) rfl (by kernel_rfl) rfl (fun w1=>by kernel_rfl) ?_
  simp only[Act.put,sA,sB,sC]
  (refine mix_pure _ rfl (by kernel_rfl) rfl rfl (fun K hK=>?_);go_big_quiet_op;refine hK _ ?_;clear hK K)
  refine mix_load ⟨g,0,none⟩ _ rfl (by kernel_rfl) rfl rfl (fun w1 h1=>run_load_na (fun w=>by kernel_rfl) (cell_ext QG.out ((drewE _).trans h1))) ?_
  simp only[Act.put,sA,sB,sC]
  (refine mix_pure _ rfl (by kernel_rfl) rfl rfl (fun K hK=>?_);go_big_quiet_op;refine hK _ ?_;clear hK K)
  refine mix_any _ ((.pointer (some ⟨h,0,none⟩))) rfl (by kernel_rfl) rfl (fun w1=>by kernel_rfl) ?_
  simp only[Act.put,sA,sB,sC]
  (refine mix_pure _ rfl (by kernel_rfl) rfl rfl (fun K hK=>?_);go_big_quiet_op;refine hK _ ?_;clear hK K)
  refine mix_load ⟨h,0,none⟩ _ rfl (by kernel_rfl) rfl rfl (fun w1 h1=>run_load_na (fun w=>by kernel_rfl) (cell_ext QH.out ((drewE _).trans h1))) ?_
  simp only[Act.put,sA,sB,sC]
  refine mix_hard _ rfl (by kernel_rfl) rfl (fun w5 he K hK=>?_)
  refine wp_value (v:=.slice a1 n1 c1) (w':=w5) (exec_append (run_append_zero (i:=i0) Tryz.uStrs hi0 a1 n1 c1 HCAP.out 0 w5) (by kernel_rfl)) (hK _ _ ?_)
  have HX5:=Hd ((drewE _).trans he)
  clear hK K he
  simp only[Act.put,sA,sB,sC]
  refine mix_any _ ((.pointer (some ⟨g,0,none⟩))) rfl (by kernel_rfl) rfl (fun w1=>by kernel_rfl) ?_
  simp only[Act.put,sA,sB,sC]
  (refine mix_pure _ rfl (by kernel_rfl) rfl rfl (fun K hK=>?_);go_big_quiet_op;refine hK _ ?_;clear hK K)
  refine mix_hard _ rfl (by kernel_rfl) rfl (fun w8 he8 K hK=>?_)
  have hg8:=HT4.out.2.1.ext (HX5.out.trans he8)
  have q8:w8.cell? ⟨g,0,none⟩=some (.slice a1 n1 c1):=hg8.var.cell (i:=0) (by rfl)
  have f8:w8.frozen? ⟨g,0,none⟩=false:=hg8.var.frozen
  have hs8:WrAt w0.heap.size g (.slice a1 n1 c1) Tx (w8.setCell ⟨g,0,none⟩ (.slice a1 n1 c1)):=hg8.same
  have H8:=Hd (And.intro hs8 (And.intro (HX5.out.trans he8) hg8))
  clear hg8 hs8 he8
  go_simp
  refine hK _ _ ?_
  clear hK K q8 f8
  refine mix_end (by kernel_rfl) (fun w7 he=>?_)
  have H9:=Hd (H8.out.1.ext he)
  have HE9:=Hd he
  clear he
  go_wp2_with fail
  go_ret
  rw[HU0.out,List.append_nil]
  exact⟨rfl,_,(WrTo.refl HG.out (HT4.out.2.2.trans H8.out.2.1)).trans ((H8.out.2.2.sameTo).ext HE9.out)⟩
 ·obtain⟨a2,c2,hv2⟩:=row_slice HT4.out.1.row
  have hr2:=HT4.out.1.row
  obtain⟨n2,hn2⟩:∃ n,n=List.length U:=⟨_,rfl⟩
  rw[←hn2]at hv2 hr2
  rw[hv2]at hr2
  obtain⟨b2,rfl⟩:=own_ptr hr2 (fun e=>hU0 (List.eq_nil_of_length_eq_zero (by omega)))
  subst hv2
  have HR2:=Hd hr2
  have HLN:=Hd hn2.symm
  have HU0:=Hd hU0
  have HBD:=Hd (show n1+n2≤200000 by have:=HUL.out;have:=HL1.out;omega)
  have QH:=Hd (HT4.out.1.var.cell (i:=0) (v:=.slice (some ⟨b2,0,none⟩) n2 c2) (by rfl))
  clear hU0 hr2 hn2
  refine wp_region_mix [0,1,2,3,4,5,6,7,8,9,10,11,12] [9,12] (Ext) ExtR ExtT (by kernel_rfl) (by kernel_rfl) (by kernel_rfl) ?_
  iterate 2 (refine mix_pure _ rfl (by kernel_rfl) rfl rfl (fun K hK=>?_);go_big_quiet_op;refine hK _ ?_;clear hK K)
  refine mix_any _ ((.pointer (some ⟨g,0,none⟩))) rfl (by kernel_rfl) rfl (fun w1=>by kernel_rfl) ?_
  simp only[Act.put,sA,sB,sC]
  (refine mix_pure _ rfl (by kernel_rfl) rfl rfl (fun K hK=>?_);go_big_quiet_op;refine hK _ ?_;clear hK K)
  refine mix_load ⟨g,0,none⟩ _ rfl (by kernel_rfl) rfl rfl (fun w1 h1=>run_load_na (fun w=>by kernel_rfl) (cell_ext QG.out ((drewE _).trans h1))) ?_
  simp only[Act.put,sA,sB,sC]
  (refine mix_pure _ rfl (by kernel_rfl) rfl rfl (fun K hK=>?_);go_big_quiet_op;refine hK _ ?_;clear hK K)
  refine mix_any _ ((.pointer (some ⟨h,0,none⟩))) rfl (by kernel_rfl) rfl (fun w1=>by kernel_rfl) ?_
  simp only[Act.put,sA,sB,sC]
  (refine mix_pure _ rfl (by kernel_rfl) rfl rfl (fun K hK=>?_);go_big_quiet_op;refine hK _ ?_;clear hK K)
  refine mix_load ⟨h,0,none⟩ _ rfl (by kernel_rfl) rfl rfl (fun w1 h1=>run_load_na (fun w=>by kernel_rfl) (cell_ext QH.out ((drewE _).trans h1))) ?_
  simp only[Act.put,sA,sB,sC]
  refine mix_hard _ rfl (by kernel_rfl) rfl (fun w5 he K hK=>?_)
  have hX5:=(drewE _).trans he
  refine wp_append_any w5 (.tmp 37) (.tmp 41) 34 rfl 9 i0 _ 1 16 Tryz.uStrs hi0 hz0 hz1 hz2 rfl (by decide) (.slice a1 n1 c1) n1 _ rfl (own_ext HR1.out hX5) ⟨b2,0,none⟩ n2 c2 (U.map Value.string) rfl (by rw[List.length_map,HLN.out,Nat.mul_one]) (fun j u hj=>by rw[Addr.add_lit,Nat.zero_add];exact (own_row_at (own_ext HR2.out hX5) hj)) (by intro u hu;obtain⟨y,_,rfl⟩:=List.mem_map.1 hu;rfl) (by have:=HBD.out;unfold maxLen;omega) (by have:=HBD.out;omega) ?_
  intro v' w6 r1 r2 r3
  have HA:=Hd (And.intro hX5 (And.intro r1 (And.intro r2 r3)))
  obtain⟨a',c',hv'⟩:=row_slice r1
  subst hv'
  refine hK _ _ ?_
  clear hK K he hX5 r1 r2 r3
  simp only[Act.put,sA,sB,sC]
  refine mix_any _ ((.pointer (some ⟨g,0,none⟩))) rfl (by kernel_rfl) rfl (fun w1=>by kernel_rfl) ?_
  simp only[Act.put,sA,sB,sC]
  (refine mix_pure _ rfl (by kernel_rfl) rfl rfl (fun K hK=>?_);go_big_quiet_op;refine hK _ ?_;clear hK K)
  refine mix_hard _ rfl (by kernel_rfl) rfl (fun w8 he8 K hK=>?_)
  obtain⟨hX5,r1,r2,r3⟩:=HA.out
  have hg5:=HT4.out.2.1.ext hX5
  have hz5:w0.heap.size≤w5.heap.size:=Nat.le_trans hg5.lo (Nat.le_of_lt hg5.var.lt)
  have hp:=hg5.push (n:=n1+n2) (by rw[List.length_append, ←HL1.out,HLN.out]) (by rw[List.map_append];exact own_ext r1 he8) (r2.trans (he8.mono (fun _ _ e=>e.elim))) r3 hz5 HU0.out
  have hg8:=(hg5.var.keeps r2 (fun e=>(hg5.own g e).2.1 rfl)).keeps he8 (fun e=>e)
  have q8:w8.cell? ⟨g,0,none⟩=some (.slice a1 n1 c1):=hg8.cell (i:=0) (by rfl)
  have f8:w8.frozen? ⟨g,0,none⟩=false:=hg8.frozen
  have H8:=Hd (And.intro hp hX5)
  clear hX5 r1 r2 r3 hg5 hz5 hp hg8 he8
  go_simp
  refine hK _ _ ?_
  clear hK K q8 f8
  refine mix_end (by kernel_rfl) (fun w7 he=>?_)
  have HE9:=Hd he
  clear he
  go_wp2_with fail
  go_ret
  exact⟨rfl,_,((WrTo.refl HG.out (HT4.out.2.2.trans H8.out.2)).trans H8.out.1).ext HE9.out⟩
theorem wref_big(P:PA)(hT:TopC P)(hz:¬(textP P).size < 32)(w0 W:World)(T:TypeId)(x:Value)(D:Nat→Prop)(g:Nat)(v:Value)(Tx:List ByteArray)(hc:Cubes w0)(he:ErrT w0)(hP:PaO P (.iface T x) D w0)(hE:Ext w0 W)(hW:WrAt w0.heap.size g v Tx W)(hl:Tx.length+cntP P≤100000) :
  Calls Tryz.prog 275 #[.pointer (some ⟨g,0,none⟩),.iface T x] W (FoP w0.heap.size g v W (.string (refB (textP P))) (Tx++(textP P :: underP P))):=by
 obtain⟨W1,hW1⟩:∃ W1,W1=W.alloc (.cells #[.slice none 0 0] 128):=⟨_,rfl⟩
 have hE1:Ext W W1:=by rw[hW1];exact (ExtR W).alloc _
 have hw1:WrAt w0.heap.size W.heap.size (.slice none 0 0) [] W1:=⟨hE.size,by rw[hW1];exact Blk.new W _,World.ownsRow_nil _ _ _ _,fun b hb=>(by cases hb),fun _=>rfl⟩
 have htop:=hT w0 W1 T x D W.heap.size (.slice none 0 0) [] hc he hP (hE.trans hE1) hw1 (by have:([]:List ByteArray).length=0:=rfl;omega)
 rw[List.nil_append]at htop
 have HTOP:=Hd htop
 clear htop
 have HW1:=Hd hW1
 have hw0:=HW1
 have HG:=Hd hW
 have HWR:=Hd (And.intro hw1 (And.intro hE1 hE))
 have hC1:=hc
 have HREF:=Hd (fun w (e:Ext w0 w)=>ref_c w (textP P) (hc.ext e))
 have HASH:=Hd (fun w=>hash_any w (refB (textP P)) (by have:=refB_le (textP P);omega))
 rw[hash_big _ hz]at HASH
 have hul:Tx.length+(underP P).length≤100000:=by
  cases hn:P.isNil with
  | true=>rw[isNil_eq hn];show Tx.length+0≤_;omega
  | false=>have:=under_len P hn;omega
 have HUL:=Hd hul
 obtain⟨U,hU⟩:∃ U,U=underP P:=⟨_,rfl⟩
 obtain⟨t,ht⟩:∃ t,t=textP P:=⟨_,rfl⟩
 rw[←ht, ←hU]at HTOP
 rw[←ht]at HREF HASH ⊢
 rw[←hU]at HUL ⊢
 clear hT hz hc he hP hE hW hl hE1 hw1 hul hU ht hW1 hw0 hC1
 go_enter Tryz.func275,Tryz.ntmps275
 go_wp2_with fail
 rw[←HW1.out]
 refine HTOP.out.mono ?_
 rintro e w2 ⟨rfl,v2,hT2⟩
 have hgh:g≠W.heap.size:=by have:=HG.out.var.lt;omega
 have hT2x:=hT2.ext0 HWR.out.1 (HWR.out.2.2.trans HWR.out.2.1) (Nat.le_refl _)
 have hg2:WrAt w0.heap.size g v Tx w2:=(HG.out.ext HWR.out.2.1).off hT2.kp (fun e=>e.elim hgh (fun e=>by cases e)) (fun b hb e=>e.elim (fun e=>by have:=(HG.out.own b hb).2.2;omega) (fun e=>by cases e))
 have hk2:Ext W w2:=HWR.out.2.1.trans' hT2.kp (fun x hx e=>e.elim (fun e=>by omega) (fun e=>by cases e))
 have HSUB:=Hd (show ∀ b,v2.ownBlock=some b→W.heap.size≤b from fun b hb=>(hT2.sub b hb).elim (fun e=>by cases e) (fun e=>Nat.le_trans HWR.out.2.1.size e))
 have HT2:=Hd (And.intro hT2.at' (And.intro hg2 (And.intro hk2 hT2x)))
 clear hT2 hg2 hk2 hT2x
 obtain⟨h,hh⟩:∃ h,h=W.heap.size:=⟨_,rfl⟩
 have HGH:=Hd (And.intro hgh hh)
 rw[←hh]at HT2 ⊢
 clear hgh hh
 go_wp2_with fail
 refine (HREF.out w2 HT2.out.2.2.2).mono ?_
 rintro e w3 ⟨rfl,hE3⟩
 have HE3:=Hd hE3
 clear hE3
 go_wp2_with fail
 refine (HASH.out w3).mono ?_
 rintro e w4 ⟨rfl,hE4⟩
 have hE4:=HE3.out.trans hE4
 have HT4:=Hd (And.intro (HT2.out.1.ext hE4) (And.intro (HT2.out.2.1.ext hE4) (HT2.out.2.2.1.trans hE4)))
 clear hE4
 unfold optV
 obtain⟨i0,hi0,hz0,hz1,hz2⟩:=info_parts Tryz.infoStr
 have hg4:=HT4.out.2.1
 obtain⟨a0,c0,hv0⟩:=row_slice hg4.row
 have q4:=hg4.var.cell (i:=0) (v:=v) (by rfl)
 have HL0:=Hd (show Tx.length≤100000 by have:=HUL.out;omega)
 have HR0:=Hd hg4.row
 have HG4:=Hd hg4
 clear hg4
 subst hv0
 go_wp2_with (at_builtin;refine wpList_append_any _ rfl (.tmp 27) (.tmp 29) 34 rfl 9 i0 _ 1 16 Tryz.uStrs hi0 hz0 hz1 hz2 rfl (by decide) (.slice a0 Tx.length c0) Tx.length _ rfl (own_ext HR0.out ((ExtR w4).alloc _)) ⟨w4.heap.size,0,none⟩ 1 1 [.string t] rfl rfl (news_blk (Blk.new w4 _)) (by simp[Value.oneCell']) (by have:=HL0.out;unfold maxLen;omega) (by have:=HL0.out;omega) ?_;intro v' w6 r1 r2 r3;obtain⟨ad',cp',rfl⟩:=row_slice r1;have hgs:=HG4.out.var.lt;have hV6:=(HG4.out.var.alloc (.cells #[.string t] 9)).keeps r2 (fun e=>(HG4.out.own g e).2.1 rfl);have q56:w6.cell? ⟨g,0,none⟩=some (.slice a0 Tx.length c0):=hV6.cell (i:=0) (by rfl);have f56:w6.frozen? ⟨g,0,none⟩=false:=hV6.frozen)
 obtain⟨wS,hwS⟩:∃ wS,wS=w6.setCell ⟨g,0,none⟩ (.slice ad' (Tx.length+1) cp'):=⟨_,rfl⟩
 have hg4a:=HG4.out.ext ((ExtR w4).alloc (.cells #[.string t] 9))
 have hp:=hg4a.push (n:=Tx.length+1) (New:=[t]) (by simp) (by rw[List.map_append];exact r1) r2 r3 (by have:=HG4.out.lo;rw[World.size_alloc];omega) (by simp)
 rw[←hwS]at hp ⊢
 have hp:=WrTo.ahead ((ExtR w4).alloc (.cells #[.string t] 9)) hp
 have huS:=HT4.out.1.off hp.kp (fun e=>e.elim (fun e=>by have:=HG.out.var.lt;have:=HGH.out.2;omega) (fun e=>by have:=(HG.out.own h e).2.2;have:=HGH.out.2;omega)) (fun b hb e=>by
  have h1:=HSUB.out b hb
  rcases e with e | e
  ·have:=HG.out.var.lt;omega
  ·have:=(HG.out.own b e).2.2;omega)
 have hall:WrTo w0.heap.size g (.slice a0 Tx.length c0) W wS (.slice ad' (Tx.length+1) cp') (Tx++[t]):=(WrTo.refl HG.out HT4.out.2.2).trans hp
 have hex:∃ v1,WrAt w0.heap.size h v2 U wS∧WrAt w0.heap.size g v1 (Tx++[t]) wS∧WrTo w0.heap.size g (.slice a0 Tx.length c0) W wS v1 (Tx++[t]):=⟨_,huS,hp.at',hall⟩
 obtain⟨v1,hex⟩:=hex
 clear HT4 hp hg4a hwS huS hall q56 f56 hV6 r1 r2 r3 hgs q4
 have HT4:=Hd hex
 clear hex hi0 hz0 hz1 hz2
 obtain⟨i0,hi0,hz0,hz1,hz2⟩:=info_parts Tryz.infoStr
 obtain⟨a1,c1,hv1⟩:=row_slice HT4.out.2.1.row
 obtain⟨n1,hn1⟩:∃ n,n=List.length (Tx++[t]):=⟨_,rfl⟩
 rw[←hn1]at hv1
 subst hv1
 have HL1:=Hd hn1
 have HR1:=Hd (show World.ownsRow wS 0 9 1 (.slice a1 n1 c1) n1 (List.map Value.string (Tx++[t])) by have h9:=HT4.out.2.1.row;rw[←hn1]at h9;exact h9)
 have HCAP:=Hd (own_cap HR1.out)
 have QG:=Hd (HT4.out.2.1.var.cell (i:=0) (v:=.slice a1 n1 c1) (by rfl))
 clear hn1
 by_cases hU0:U=[]
 ·have hv2:=HT4.out.1.nil hU0
  subst hv2
  have QH:=Hd (HT4.out.1.var.cell (i:=0) (v:=.slice none 0 0) (by rfl))
  have HU0:=Hd hU0
  clear hU0
  refine wp_region_mix [0,1,2,3,4,5,6,7,8,9,10,11,12] [9,12] (Ext) ExtR ExtT (by kernel_rfl) (by kernel_rfl) (by kernel_rfl) ?_
  iterate 2 (refine mix_pure _ rfl (by kernel_rfl) rfl rfl (fun K hK=>?_);go_big_quiet_op;refine hK _ ?_;clear hK K)
  refine mix_any _ ((.pointer (some ⟨g,0,none⟩))) rfl (by kernel_rfl) rfl (fun w1=>by kernel_rfl) ?_
  simp only[Act.put,sA,sB,sC]
  (refine mix_pure _ rfl (by kernel_rfl) rfl rfl (fun K hK=>?_);go_big_quiet_op;refine hK _ ?_;clear hK K)
  refine mix_load ⟨g,0,none⟩ _ rfl (by kernel_rfl) rfl rfl (fun w1 h1=>run_load_na (fun w=>by kernel_rfl) (cell_ext QG.out ((drewE _).trans h1))) ?_
  simp only[Act.put,sA,sB,sC]
  (refine mix_pure _ rfl (by kernel_rfl) rfl rfl (fun K hK=>?_);go_big_quiet_op;refine hK _ ?_;clear hK K)
  refine mix_any _ ((.pointer (some ⟨h,0,none⟩))) rfl (by kernel_rfl) rfl (fun w1=>by kernel_rfl) ?_
  simp only[Act.put,sA,sB,sC]
  (refine mix_pure _ rfl (by kernel_rfl) rfl rfl (fun K hK=>?_);go_big_quiet_op;refine hK _ ?_;clear hK K)
  refine mix_load ⟨h,0,none⟩ _ rfl (by kernel_rfl) rfl rfl (fun w1 h1=>run_load_na (fun w=>by kernel_rfl) (cell_ext QH.out ((drewE _).trans h1))) ?_
  simp only[Act.put,sA,sB,sC]
  refine mix_hard _ rfl (by kernel_rfl) rfl (fun w5 he K hK=>?_)
  refine wp_value (v:=.slice a1 n1 c1) (w':=w5) (exec_append (run_append_zero (i:=i0) Tryz.uStrs hi0 a1 n1 c1 HCAP.out 0 w5) (by kernel_rfl)) (hK _ _ ?_)
  have HX5:=Hd ((drewE _).trans he)
  clear hK K he
  simp only[Act.put,sA,sB,sC]
  refine mix_any _ ((.pointer (some ⟨g,0,none⟩))) rfl (by kernel_rfl) rfl (fun w1=>by kernel_rfl) ?_
  simp only[Act.put,sA,sB,sC]
  (refine mix_pure _ rfl (by kernel_rfl) rfl rfl (fun K hK=>?_);go_big_quiet_op;refine hK _ ?_;clear hK K)
  refine mix_hard _ rfl (by kernel_rfl) rfl (fun w8 he8 K hK=>?_)
  have hg8:=HT4.out.2.1.ext (HX5.out.trans he8)
  have q8:w8.cell? ⟨g,0,none⟩=some (.slice a1 n1 c1):=hg8.var.cell (i:=0) (by rfl)
  have f8:w8.frozen? ⟨g,0,none⟩=false:=hg8.var.frozen
  have hs8:WrAt w0.heap.size g (.slice a1 n1 c1) (Tx++[t]) (w8.setCell ⟨g,0,none⟩ (.slice a1 n1 c1)):=hg8.same
  have H8:=Hd (And.intro hs8 (And.intro (HX5.out.trans he8) hg8))
  clear hg8 hs8 he8
  go_simp
  refine hK _ _ ?_
  clear hK K q8 f8
  refine mix_end (by kernel_rfl) (fun w7 he=>?_)
  have H9:=Hd (H8.out.1.ext he)
  have HE9:=Hd he
  clear he
  go_wp2_with fail
  go_ret
  rw[HU0.out]
  exact⟨rfl,_,(HT4.out.2.2.ext H8.out.2.1).trans ((H8.out.2.2.sameTo).ext HE9.out)⟩
 ·obtain⟨a2,c2,hv2⟩:=row_slice HT4.out.1.row
  have hr2:=HT4.out.1.row
  obtain⟨n2,hn2⟩:∃ n,n=List.length U:=⟨_,rfl⟩
  rw[←hn2]at hv2 hr2
  rw[hv2]at hr2
  obtain⟨b2,rfl⟩:=own_ptr hr2 (fun e=>hU0 (List.eq_nil_of_length_eq_zero (by omega)))
  subst hv2
  have HR2:=Hd hr2
  have HLN:=Hd hn2.symm
  have HU0:=Hd hU0
  have HBD:=Hd (show n1+n2≤200000 by have:=HUL.out;have h9:=HL1.out;rw[List.length_append,List.length_singleton]at h9;omega)
  have QH:=Hd (HT4.out.1.var.cell (i:=0) (v:=.slice (some ⟨b2,0,none⟩) n2 c2) (by rfl))
  clear hU0 hr2 hn2
  refine wp_region_mix [0,1,2,3,4,5,6,7,8,9,10,11,12] [9,12] (Ext) ExtR ExtT (by kernel_rfl) (by kernel_rfl) (by kernel_rfl) ?_
  iterate 2 (refine mix_pure _ rfl (by kernel_rfl) rfl rfl (fun K hK=>?_);go_big_quiet_op;refine hK _ ?_;clear hK K)
  refine mix_any _ ((.pointer (some ⟨g,0,none⟩))) rfl (by kernel_rfl) rfl (fun w1=>by kernel_rfl) ?_
  simp only[Act.put,sA,sB,sC]
  (refine mix_pure _ rfl (by kernel_rfl) rfl rfl (fun K hK=>?_);go_big_quiet_op;refine hK _ ?_;clear hK K)
  refine mix_load ⟨g,0,none⟩ _ rfl (by kernel_rfl) rfl rfl (fun w1 h1=>run_load_na (fun w=>by kernel_rfl) (cell_ext QG.out ((drewE _).trans h1))) ?_
  simp only[Act.put,sA,sB,sC]
  (refine mix_pure _ rfl (by kernel_rfl) rfl rfl (fun K hK=>?_);go_big_quiet_op;refine hK _ ?_;clear hK K)
  refine mix_any _ ((.pointer (some ⟨h,0,none⟩))) rfl (by kernel_rfl) rfl (fun w1=>by kernel_rfl) ?_
  simp only[Act.put,sA,sB,sC]
  (refine mix_pure _ rfl (by kernel_rfl) rfl rfl (fun K hK=>?_);go_big_quiet_op;refine hK _ ?_;clear hK K)
  refine mix_load ⟨h,0,none⟩ _ rfl (by kernel_rfl) rfl rfl (fun w1 h1=>run_load_na (fun w=>by kernel_rfl) (cell_ext QH.out ((drewE _).trans h1))) ?_
  simp only[Act.put,sA,sB,sC]
  refine mix_hard _ rfl (by kernel_rfl) rfl (fun w5 he K hK=>?_)
  have hX5:=(drewE _).trans he
  refine wp_append_any w5 (.tmp 37) (.tmp 41) 34 rfl 9 i0 _ 1 16 Tryz.uStrs hi0 hz0 hz1 hz2 rfl (by decide) (.slice a1 n1 c1) n1 _ rfl (own_ext HR1.out hX5) ⟨b2,0,none⟩ n2 c2 (U.map Value.string) rfl (by rw[List.length_map,HLN.out,Nat.mul_one]) (fun j u hj=>by rw[Addr.add_lit,Nat.zero_add];exact (own_row_at (own_ext HR2.out hX5) hj)) (by intro u hu;obtain⟨y,_,rfl⟩:=List.mem_map.1 hu;rfl) (by have:=HBD.out;unfold maxLen;omega) (by have:=HBD.out;omega) ?_
  intro v' w6 r1 r2 r3
  have HA:=Hd (And.intro hX5 (And.intro r1 (And.intro r2 r3)))
  obtain⟨a',c',hv'⟩:=row_slice r1
  subst hv'
  refine hK _ _ ?_
  clear hK K he hX5 r1 r2 r3
  simp only[Act.put,sA,sB,sC]
  refine mix_any _ ((.pointer (some ⟨g,0,none⟩))) rfl (by kernel_rfl) rfl (fun w1=>by kernel_rfl) ?_
  simp only[Act.put,sA,sB,sC]
  (refine mix_pure _ rfl (by kernel_rfl) rfl rfl (fun K hK=>?_);go_big_quiet_op;refine hK _ ?_;clear hK K)
  refine mix_hard _ rfl (by kernel_rfl) rfl (fun w8 he8 K hK=>?_)
  obtain⟨hX5,r1,r2,r3⟩:=HA.out
  have hg5:=HT4.out.2.1.ext hX5
  have hz5:w0.heap.size≤w5.heap.size:=Nat.le_trans hg5.lo (Nat.le_of_lt hg5.var.lt)
  have hp:=hg5.push (n:=n1+n2) (by rw[List.length_append, ←HL1.out,HLN.out]) (by rw[List.map_append];exact own_ext r1 he8) (r2.trans (he8.mono (fun _ _ e=>e.elim))) r3 hz5 HU0.out
  have hg8:=(hg5.var.keeps r2 (fun e=>(hg5.own g e).2.1 rfl)).keeps he8 (fun e=>e)
  have q8:w8.cell? ⟨g,0,none⟩=some (.slice a1 n1 c1):=hg8.cell (i:=0) (by rfl)
  have f8:w8.frozen? ⟨g,0,none⟩=false:=hg8.frozen
  have H8:=Hd (And.intro hp hX5)
  clear hX5 r1 r2 r3 hg5 hz5 hp hg8 he8
  go_simp
  refine hK _ _ ?_
  clear hK K q8 f8
  refine mix_end (by kernel_rfl) (fun w7 he=>?_)
  have HE9:=Hd he
  clear he
  go_wp2_with fail
  go_ret
  rw[show Tx++t :: U=Tx++[t]++U by rw[List.append_assoc];rfl]
  exact⟨rfl,_,((HT4.out.2.2.ext H8.out.2).trans H8.out.1).ext HE9.out⟩
theorem wref_c(P:PA)(hT:TopC P):WRefC P:=by
 intro w0 W T x D g v Tx hc he hP hE hW hl
 unfold bigs
 by_cases hz:(textP P).size < 32
 ·rw[if_pos hz]
  exact wref_small P hT hz w0 W T x D g v Tx hc he hP hE hW hl
 ·rw[if_neg hz]
  exact wref_big P hT hz w0 W T x D g v Tx hc he hP hE hW hl
end
end Go.Proofs.YtpaacnhboilkkaaGreatDoor
