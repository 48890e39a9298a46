/- Parts of the proof, one behind the other: TrP, TrQ, TrR, TrS, TrT. Each is under no condition but those that it states. -/
import Derived.Test.YtpaacnhboilkkaaGreatDoorPh45
import Derived.Test.YtpaacnhboilkkaaGreatDoorPh42
import Derived.Test.YtpaacnhboilkkaaGreatDoorPh37
namespace Go.Proofs.YtpaacnhboilkkaaGreatDoor
set_option linter.unusedSimpArgs false
set_option linter.unusedVariables false
set_option maxRecDepth 100000
set_option maxHeartbeats 16000000
section
open Go Go.RowKit
noncomputable def inlOf(r:ByteArray):jaf:=@dite _ (∃ m d,InlD d r m) (Classical.propDecidable _) (fun h=>h.choose) (fun _=>jbb)
theorem jsw(w:World){d g:Nat}{r:ByteArray}{m n:jaf}(h:InlD d r m)(k:InlD g r n):m=n:=by
 cases d with
 | zero=>exact h.elim
 | succ d =>
  cases g with
  | zero=>exact k.elim
  | succ g=>exact jkJ w h.1 k.1 (h.2.1.symm.trans k.2.1)
theorem jmR(w:World){d:Nat}{r:ByteArray}{m:jaf}(h:InlD d r m):inlOf r=m:=by
 have hh:∃ m d,InlD d r m:=⟨m,d,h⟩;unfold inlOf;rw[dif_pos hh]
 obtain⟨g,hg⟩:=hh.choose_spec
 exact jsw w hg h
noncomputable def gRef(S:List Nd5)(r:ByteArray):Option jaf:=match jcP r with
 | some h=>(atL S h.data.toList).map fun x=>nodeOf x.2.2.text
 | none=>some (inlOf r)
def je1(R:jaf→Nat→Option (PA × Nat))(G:ByteArray→Option jaf)(rs:List ByteArray):Nat→Nat→Option ((Nat→PA) × Nat)
 | 0,left=>some (fun _=>.nil,left)
 | k+1,left=>(je1 R G rs k left).bind fun x=>if (rs.getD k ⟨#[]⟩).size=0 then some x else (G (rs.getD k ⟨#[]⟩)).bind fun m=>(R m x.2).map fun y=>(setK x.1 k y.1,y.2)
def jbU(G:ByteArray→Option jaf):Nat→jaf→Nat→Option (PA × Nat)
 | 0,_,_=>none
 | f+1,n,left=>if left=0 then none
  else if n.kind=1 then some (.leaf n.path n.value,left - 1)
  else if n.kind=2 then (G (n.refs.getD 0 ⟨#[]⟩)).bind fun m=>(jbU G f m (left - 1)).map fun x=>(.ext n.path x.1,x.2)
  else if n.kind=3 then (je1 (jbU G f) G n.refs 16 (left - 1)).map fun x=>(.br n.value x.1,x.2)
  else some (.no,left - 1)
theorem jiI(G:ByteArray→Option jaf)(f:Nat)(n:jaf):jbU G f n 0=none:=by
 cases f with
 | zero=>rfl
 | succ f=>rfl
theorem jfo(R:jaf→Nat→Option (PA × Nat))(G:ByteArray→Option jaf)(rs:List ByteArray)(k left:Nat):je1 R G rs (k+1) left=(je1 R G rs k left).bind fun x=>if (rs.getD k ⟨#[]⟩).size=0 then some x else (G (rs.getD k ⟨#[]⟩)).bind fun m=>(R m x.2).map fun y=>(setK x.1 k y.1,y.2):=rfl
theorem jeg(G:ByteArray→Option jaf)(f:Nat)(n:jaf)(left:Nat):jbU G (f+1) n left=if left=0 then none
  else if n.kind=1 then some (.leaf n.path n.value,left - 1)
  else if n.kind=2 then (G (n.refs.getD 0 ⟨#[]⟩)).bind fun m=>(jbU G f m (left - 1)).map fun x=>(.ext n.path x.1,x.2)
  else if n.kind=3 then (je1 (jbU G f) G n.refs 16 (left - 1)).map fun x=>(.br n.value x.1,x.2)
  else some (.no,left - 1):=rfl
theorem jjv{R:jaf→Nat→Option (PA × Nat)}{G:ByteArray→Option jaf}{rs:List ByteArray}(hR:∀ m l y,R m l=some y→y.2≤l):∀ (k left:Nat) (x:(Nat→PA) × Nat),je1 R G rs k left=some x→x.2≤left
 | 0,left,x,h=>by
  have h:some ((fun _=>PA.nil),left)=some x:=h;rw[←Option.some.inj h];exact Nat.le_refl _
 | k+1,left,x,h=>by
  rw[jfo,Option.bind_eq_some_iff]at h
  obtain⟨y,hy,h⟩:=h
  have ih:=jjv hR k left y hy
  by_cases h0:(rs.getD k ⟨#[]⟩).size=0
  ·rw[if_pos h0]at h
   rw[←Option.some.inj h];exact ih
  ·rw[if_neg h0,Option.bind_eq_some_iff]at h
   obtain⟨m,_,h⟩:=h
   rw[Option.map_eq_some_iff]at h
   obtain⟨z,hz,e⟩:=h
   have:=hR m y.2 z hz
   rw[←e];exact Nat.le_trans this ih
theorem jjw(G:ByteArray→Option jaf):∀ (f:Nat) (n:jaf) (left:Nat) (y:PA × Nat),jbU G f n left=some y→y.2≤left - 1
 | 0,_,_,_,h=>by cases h
 | f+1,n,left,y,h=>by
  rw[jeg]at h
  by_cases h0:left=0
  ·rw[if_pos h0]at h;cases h
  rw[if_neg h0]at h
  by_cases h1:n.kind=1
  ·rw[if_pos h1]at h
   rw[←Option.some.inj h];exact Nat.le_refl _
  rw[if_neg h1]at h
  by_cases h2:n.kind=2
  ·rw[if_pos h2,Option.bind_eq_some_iff]at h
   obtain⟨m,_,h⟩:=h
   rw[Option.map_eq_some_iff]at h
   obtain⟨z,hz,e⟩:=h
   have:=jjw G f m _ z hz
   rw[←e];show z.2≤left - 1;omega
  rw[if_neg h2]at h
  by_cases h3:n.kind=3
  ·rw[if_pos h3,Option.map_eq_some_iff]at h
   obtain⟨z,hz,e⟩:=h
   have:=jjv (fun m l y h=>Nat.le_trans (jjw G f m l y h) (Nat.sub_le _ _)) 16 _ z hz
   rw[←e];exact this
  rw[if_neg h3]at h;rw[←Option.some.inj h];exact Nat.le_refl _
def RdAt(W:World)(rb s left:Nat):Prop:=Blk W rb (.cells #[.pointer (some ⟨s,0,none⟩),.int .i64 (left:Int)] 172)
def jjN(W W':World):Nat→Prop:=fun z=>W.heap.size≤z∧z < W'.heap.size
def RdO(W:World)(rb s:Nat)(o:Option (PA × Nat))(e:Ending)(w':World):Prop:=jac (fun z=>z=rb) W w'∧match o with
 | some (P,l)=>∃ T x,e=.returned (.tuple #[.iface T x,.bool true])∧PaAt P (.iface T x) (jjN W w') w'∧RdAt w' rb s l
 | none=>∃ v l,e=.returned (.tuple #[v,.bool false])∧(v=.nilIface∨∃ T x,v=.iface T x)∧RdAt w' rb s l
def jjM(S:List Nd5):Prop:=∀ x∈S,∃ n,jbW x.2.2.text n
end
section
open Go Go.RowKit
attribute [local go_sem] Oper.semAt_some
theorem juG(W:World)(x:ByteArray):Calls Tryz.prog 150 #[.string x] W fun e w'=>e=.returned (.tuple #[])∧w'=W:=by
 go_enter Tryz.func150,Tryz.ntmps150;go_wp2_with fail
 refine bodyPost_end (results_none rfl _ _ _) rfl ?_
 exact⟨rfl,rfl⟩
theorem jxv(W:World)(s bm:Nat)(room:Int)(S:List Nd5)(hs:jas W s bm room S)(k:ByteArray)(y:Nd5)(hy:atL S k.data.toList=some y)(f:Nat)(n:jaf)(hg:jcz (InlD f) n)(ht:y.2.2.text=ja5 n) :
  Calls Tryz.prog 108 #[.pointer (some ⟨s,0,none⟩),.string k,.func (.func 150) #[] #[]] W fun e w'=>e=.returned (.tuple #[n.V,.bool true])∧Ext W w':=by
 have hn:=(hg.one (inlP f)).refs;have HN:=Hd hn;have HG:=Hd hg;have HL:=Hd (n.cells_len hn);have hsg:=fun w (h:jas w s bm room S)=>jh2 w s bm room S k h;rw[hy]at hsg;simp only[Option.map_some,optV]at hsg;have HSG:=Hd hsg;have HS:=Hd hs
 obtain⟨t,htt⟩:∃ t,t=y.2.2.text:=⟨_,rfl⟩
 rw[←htt]at HSG ht;have HT:=Hd ht;clear hsg hs hg ht hn hy htt;go_enter Tryz.func108,Tryz.ntmps108;go_wp2_with (refine jaq Tryz.allocNode rfl rfl ?_;intro W1 hB1 hE1)
 refine (HSG.o W1 (HS.o.ext hE1)).mono ?_;rintro e w3 ⟨rfl,hE⟩;have HB3:=Hd (hB1.keeps hE (fun h=>h));have HE3:=Hd (hE1.trans hE);clear hE hB1 hE1;go_wp2_with fail
 refine (juG w3 t).mono ?_;rintro e w4 ⟨rfl,rfl⟩;go_wp2_with fail
 rw[HT.o];refine (jhG (inlP f) w4 n HG.o).mono ?_;rintro e w5 ⟨rfl,hE⟩;rw[←HT.o];have hB5r:=HB3.o.keeps hE (fun h=>h);have HE5:=Hd hE;clear hE HB3;unfold jaf.V;go_wp2_with (first |(refine jaq Tryz.allocNode rfl rfl ?_;intro W5 hB5 hE5;refine jaj (vs:=n.cells) rfl rfl rfl rfl hB5 (by rw[HL.o];rfl) (by rw[HL.o];exact Tryz.szNode) n.one ?_;intro W6 hB6 hE6;have hB56:=(hB5r.keeps hE5 (fun h=>h)).keeps hE6 (by have:=hB5r.lt;omega)) |(refine jae 144 (.tmp 10) rfl rfl _ _ rfl (jaz _ _ n HN.o hB6) ?_) |(refine jaj (vs:=n.cells) rfl rfl rfl rfl hB56 (by rw[HL.o];rfl) (by rw[HL.o];exact Tryz.szNode) n.one ?_;intro W8 hB8 hE8))
 refine bodyPost_ret (jaF rfl rfl rfl (jaN W8 _ n HN.o hB8)) rfl ?_;have hX6:Ext W W6:=(((HE3.o.trans HE5.o).trans hE5)).trans' hE6 (fun x hx e=>by have e:x=w5.heap.size:=e;have:=HE5.o.size;have:=HE3.o.size;omega)
 exact⟨rfl,hX6.trans' hE8 (fun x hx e=>by have e:x=W.heap.size:=e;omega)⟩
section
variable (w0:World) (s bm:Nat) (room:Int) (S:List Nd5) (rb:Nat)
structure RdS0:Prop where
 st:jas w0 s bm room S
 nodes:jjM S
 new:w0.heap.size≤rb
def jnA(f:Nat):Prop:=∀ n d,jcz (InlD d) n→∀ (W:World) (left:Nat),Ext w0 W→RdAt W rb s left→left≤f→left≤160→Calls Tryz.prog 151 #[.pointer (some ⟨rb,0,none⟩),n.V] W (RdO W rb s (jbU (gRef S) f n left))
def RefC(f:Nat):Prop:=∀ r d,MayP (InlD d) r→∀ (W:World) (left:Nat),Ext w0 W→RdAt W rb s left→left≤f→left≤160→Calls Tryz.prog 193 #[.pointer (some ⟨rb,0,none⟩),.string r] W (RdO W rb s ((gRef S r).bind fun m=>jbU (gRef S) f m left))
noncomputable def gHash(h:ByteArray):Option jaf:=(atL S h.data.toList).map fun x=>nodeOf x.2.2.text
def jvM(f:Nat):Prop:=∀ h,∀ (W:World) (left:Nat),Ext w0 W→RdAt W rb s left→left≤f→left≤160→Calls Tryz.prog 112 #[.pointer (some ⟨rb,0,none⟩),.string h] W (RdO W rb s ((gHash S h).bind fun m=>jbU (gRef S) f m left))
end
theorem RdAt.ext{W W':World}{rb s left:Nat}(h:RdAt W rb s left)(e:Ext W W'):RdAt W' rb s left:=h.keeps e (fun e=>e)
theorem jp0(w0:World)(s bm:Nat)(room:Int)(S:List Nd5)(rb:Nat)(hR:RdS0 w0 s bm room S rb)(h:ByteArray)(W:World)(left:Nat)(hE:Ext w0 W)(hr:RdAt W rb s left)(ha:atL S h.data.toList=none) :
  Calls Tryz.prog 112 #[.pointer (some ⟨rb,0,none⟩),.string h] W (RdO W rb s none):=by
 have hat:=jv8 W s bm room S (hR.st.ext hE) (.func (.func 150) #[] #[]) h ha;have HAT:=Hd hat;have HR:=Hd hr;unfold RdAt at hr;have q0:=hr.cell (i:=0) (v:=.pointer (some ⟨s,0,none⟩)) (by rfl);clear hat hr hR hE ha;go_enter Tryz.func112,Tryz.ntmps112;go_wp2_with fail
 refine HAT.o.mono ?_;rintro e w1 ⟨rfl,hE⟩;have HE:=Hd hE;clear hE;unfold jaf.V;go_wp2_with (first |(refine jaq Tryz.allocNode rfl rfl ?_;intro W5 hB5 hE5;refine jaj (vs:=jbb.cells) rfl rfl rfl rfl hB5 rfl Tryz.szNode jbb.one ?_;intro W6 hB6 hE6))
 go_ret2;have hX6:Ext W W6:=(HE.o.trans hE5).trans' hE6 (fun x hx e=>by have e:x=w1.heap.size:=e;have:=HE.o.size;omega)
 exact⟨hX6.mono (fun _ _ e=>e.elim),_,left,rfl,.inl rfl,HR.o.ext hX6⟩
theorem jpZ(w0:World)(s bm:Nat)(room:Int)(S:List Nd5)(rb:Nat)(hR:RdS0 w0 s bm room S rb)(f:Nat)(hN:jnA w0 s S rb f)(h:ByteArray)(W:World)(left:Nat)(hE:Ext w0 W)(hr:RdAt W rb s left)(hf:left≤f)(h160:left≤160)(y:Nd5)(ha:atL S h.data.toList=some y) :
  Calls Tryz.prog 112 #[.pointer (some ⟨rb,0,none⟩),.string h] W (RdO W rb s (jbU (gRef S) f (nodeOf y.2.2.text) left)):=by
 obtain⟨n0,hn0⟩:=hR.nodes y (jaD ha).1
 have hn:=jdm hn0
 obtain⟨n,hnn⟩:∃ n,n=nodeOf y.2.2.text:=⟨_,rfl⟩
 rw[←hnn]at hn ⊢
 obtain⟨ht,d,hg⟩:=hn
 have hrl:=(hg.one (inlP d)).refs;have HRL:=Hd hrl;have HL:=Hd (n.cells_len hrl);have hat:=jxv W s bm room S (hR.st.ext hE) h y ha d n hg ht;have HAT:=Hd hat;have HR:=Hd hr;have HNC:=Hd (show ∀ w,Ext W w→Calls Tryz.prog 151 #[.pointer (some ⟨rb,0,none⟩),n.V] w (RdO w rb s (jbU (gRef S) f n left))from fun w e=>hN n d hg w left (hE.trans e) (hr.ext e) hf h160);unfold RdAt at hr;have q0:=hr.cell (i:=0) (v:=.pointer (some ⟨s,0,none⟩)) (by rfl)
 obtain⟨o,ho⟩:∃ o,o=jbU (gRef S) f n left:=⟨_,rfl⟩
 rw[←ho]at HNC ⊢;clear hat hr hR hE ha hn0 hnn ht hg hrl hN ho;go_enter Tryz.func112,Tryz.ntmps112;go_wp2_with fail
 refine HAT.o.mono ?_;rintro e w1 ⟨rfl,hE⟩;have HE:=Hd hE;clear hE;unfold jaf.V;go_wp2_with (first |(refine jaq Tryz.allocNode rfl rfl ?_;intro W5 hB5 hE5;refine jaj (vs:=n.cells) rfl rfl rfl rfl hB5 (by rw[HL.o];rfl) (by rw[HL.o];exact Tryz.szNode) n.one ?_;intro W6 hB6 hE6) |(refine jae 144 (.tmp 6) rfl rfl _ _ rfl (jaz _ _ n HRL.o hB6) ?_))
 have hX6:Ext W W6:=(HE.o.trans hE5).trans' hE6 (fun x hx e=>by have e:x=w1.heap.size:=e;have:=HE.o.size;omega);have HX:=Hd hX6;clear hX6 hB5 hE5 hB6 hE6;refine (HNC.o W6 HX.o).mono ?_;intro e w7 hO
 obtain⟨hk,hO2⟩:=hO
 cases o with
 | none =>
  obtain⟨v,l,rfl,hv,hr7⟩:=hO2
  have HZ:=Hd (And.intro hk (And.intro hv hr7));clear hk hr7;rcases hv with rfl |⟨T,x,rfl⟩
  ·go_wp2_with fail
   go_ret2
   exact⟨(HX.o.mono (fun _ _ e=>e.elim)).trans HZ.o.1,_,l,rfl,.inl rfl,HZ.o.2.2⟩
  ·go_wp2_with fail
   go_ret2
   exact⟨(HX.o.mono (fun _ _ e=>e.elim)).trans HZ.o.1,_,l,rfl,.inr ⟨T,x,rfl⟩,HZ.o.2.2⟩
 | some Pl =>
  obtain⟨P,l⟩:=Pl
  obtain⟨T,x,rfl,hP,hr7⟩:=hO2
  have HZ:=Hd (And.intro hk (And.intro hP hr7));clear hk hP hr7;go_wp2_with fail
  go_ret2
  exact⟨(HX.o.mono (fun _ _ e=>e.elim)).trans HZ.o.1,T,x,rfl,HZ.o.2.1.mono (fun z hz=>⟨Nat.le_trans HX.o.size hz.1,hz.2⟩),HZ.o.2.2⟩
theorem jq4(w0:World)(s bm:Nat)(room:Int)(S:List Nd5)(rb:Nat)(hR:RdS0 w0 s bm room S rb)(f:Nat)(hN:jnA w0 s S rb f):jvM w0 s S rb f:=by
 intro h W left hE hr hf h160;unfold gHash;cases ha:atL S h.data.toList with
 | none=>exact jp0 w0 s bm room S rb hR h W left hE hr ha
 | some y=>exact jpZ w0 s bm room S rb hR f hN h W left hE hr hf h160 y ha
end
section
open Go Go.RowKit
attribute [local go_sem] Oper.semAt_some
theorem jlH(r:ByteArray):ji7 r=jcP r:=by
 unfold ji7 jcP;cases cutN r <;> rfl
theorem js1(w0:World)(s:Nat)(S:List Nd5)(rb:Nat)(f:Nat)(hH:jvM w0 s S rb f)(r h:ByteArray)(hrh:jcP r=some h)(hs:r.size≤1000)(W:World)(left:Nat)(hE:Ext w0 W)(hr:RdAt W rb s left)(hf:left≤f)(h160:left≤160) :
  Calls Tryz.prog 193 #[.pointer (some ⟨rb,0,none⟩),.string r] W (RdO W rb s ((gHash S h).bind fun m=>jbU (gRef S) f m left)):=by
 have hany:=jg8 W r (by omega);rw[jlH,hrh]at hany;unfold optV at hany;have HA:=Hd hany;have HC:=Hd (show ∀ w,Ext W w→Calls Tryz.prog 112 #[.pointer (some ⟨rb,0,none⟩),.string h] w (RdO w rb s ((gHash S h).bind fun m=>jbU (gRef S) f m left))from fun w e=>hH h w left (hE.trans e) (hr.ext e) hf h160)
 obtain⟨o,ho⟩:∃ o,o=(gHash S h).bind fun m=>jbU (gRef S) f m left:=⟨_,rfl⟩
 rw[←ho]at HC ⊢;clear hH hrh hs hE hr hf h160 hany ho;go_enter Tryz.func193,Tryz.ntmps193;go_wp2_with fail
 refine HA.o.mono ?_;rintro e w1 ⟨rfl,hE⟩;have HX:=Hd hE;clear hE;go_wp2_with fail
 refine (HC.o w1 HX.o).mono ?_;intro e w7 hO
 obtain⟨hk,hO2⟩:=hO
 cases o with
 | none =>
  obtain⟨v,l,rfl,hv,hr7⟩:=hO2
  have HZ:=Hd (And.intro hk (And.intro hv hr7));clear hk hr7;rcases hv with rfl |⟨T,x,rfl⟩
  ·go_wp2_with fail
   go_ret2
   exact⟨(HX.o.mono (fun _ _ e=>e.elim)).trans HZ.o.1,_,l,rfl,.inl rfl,HZ.o.2.2⟩
  ·go_wp2_with fail
   go_ret2
   exact⟨(HX.o.mono (fun _ _ e=>e.elim)).trans HZ.o.1,_,l,rfl,.inr ⟨T,x,rfl⟩,HZ.o.2.2⟩
 | some Pl =>
  obtain⟨P,l⟩:=Pl
  obtain⟨T,x,rfl,hP,hr7⟩:=hO2
  have HZ:=Hd (And.intro hk (And.intro hP hr7));clear hk hP hr7;go_wp2_with fail
  go_ret2
  exact⟨(HX.o.mono (fun _ _ e=>e.elim)).trans HZ.o.1,T,x,rfl,HZ.o.2.1.mono (fun z hz=>⟨Nat.le_trans HX.o.size hz.1,hz.2⟩),HZ.o.2.2⟩
theorem ju9(w0:World)(s:Nat)(S:List Nd5)(rb:Nat)(f:Nat)(hN:jnA w0 s S rb f)(r:ByteArray)(d:Nat)(n:jaf)(hi:InlD (d+1) r n)(hs:r.size≤1000)(W:World)(left:Nat)(hE:Ext w0 W)(hr:RdAt W rb s left)(hf:left≤f)(h160:left≤160) :
  Calls Tryz.prog 193 #[.pointer (some ⟨rb,0,none⟩),.string r] W (RdO W rb s (jbU (gRef S) f n left)):=by
 have hany:=jg8 W r (by omega);rw[jlH,jd3 (inlP (d+1)) hi]at hany;unfold optV at hany;have HA:=Hd hany;have hrl:=(hi.1.one (inlP d)).refs;have HRL:=Hd hrl;have HL:=Hd (n.cells_len hrl);have HI:=Hd (fun w=>(inlP (d+1)).inl r n hi w);have HNC:=Hd (show ∀ w,Ext W w→Calls Tryz.prog 151 #[.pointer (some ⟨rb,0,none⟩),n.V] w (RdO w rb s (jbU (gRef S) f n left))from fun w e=>hN n d hi.1 w left (hE.trans e) (hr.ext e) hf h160)
 obtain⟨o,ho⟩:∃ o,o=jbU (gRef S) f n left:=⟨_,rfl⟩
 rw[←ho]at HNC ⊢;clear hN hi hs hE hr hf h160 hany hrl ho;go_enter Tryz.func193,Tryz.ntmps193;go_wp2_with fail
 refine HA.o.mono ?_;rintro e w0' ⟨rfl,hE0⟩;have HE0:=Hd hE0;clear hE0;go_wp2_with fail
 refine (HI.o w0').mono ?_;rintro e w1 ⟨rfl,hE⟩;have HE:=Hd (HE0.o.trans hE);clear hE;unfold jaf.V;go_wp2_with (first |(refine jaq Tryz.allocNode rfl rfl ?_;intro W5 hB5 hE5;refine jaj (vs:=n.cells) rfl rfl rfl rfl hB5 (by rw[HL.o];rfl) (by rw[HL.o];exact Tryz.szNode) n.one ?_;intro W6 hB6 hE6) |(refine jae 144 (.tmp 8) rfl rfl _ _ rfl (jaz _ _ n HRL.o hB6) ?_))
 have hX6:Ext W W6:=(HE.o.trans hE5).trans' hE6 (fun x hx e=>by have e:x=w1.heap.size:=e;have:=HE.o.size;omega);have HX:=Hd hX6;clear hX6 hB5 hE5 hB6 hE6;refine (HNC.o W6 HX.o).mono ?_;intro e w7 hO
 obtain⟨hk,hO2⟩:=hO
 cases o with
 | none =>
  obtain⟨v,l,rfl,hv,hr7⟩:=hO2
  have HZ:=Hd (And.intro hk (And.intro hv hr7));clear hk hr7;rcases hv with rfl |⟨T,x,rfl⟩
  ·go_wp2_with fail
   go_ret2
   exact⟨(HX.o.mono (fun _ _ e=>e.elim)).trans HZ.o.1,_,l,rfl,.inl rfl,HZ.o.2.2⟩
  ·go_wp2_with fail
   go_ret2
   exact⟨(HX.o.mono (fun _ _ e=>e.elim)).trans HZ.o.1,_,l,rfl,.inr ⟨T,x,rfl⟩,HZ.o.2.2⟩
 | some Pl =>
  obtain⟨P,l⟩:=Pl
  obtain⟨T,x,rfl,hP,hr7⟩:=hO2
  have HZ:=Hd (And.intro hk (And.intro hP hr7));clear hk hP hr7;go_wp2_with fail
  go_ret2
  exact⟨(HX.o.mono (fun _ _ e=>e.elim)).trans HZ.o.1,T,x,rfl,HZ.o.2.1.mono (fun z hz=>⟨Nat.le_trans HX.o.size hz.1,hz.2⟩),HZ.o.2.2⟩
theorem jw0(w0:World)(s bm:Nat)(room:Int)(S:List Nd5)(rb:Nat)(hR:RdS0 w0 s bm room S rb)(f:Nat)(hN:jnA w0 s S rb f):RefC w0 s S rb f:=by
 intro r d hm W left hE hr hf h160;have hs:r.size≤1000:=by have:=hm.size (inlP d);omega
 unfold gRef;rcases hm with hh |⟨m,hi⟩
 ·obtain⟨h,h1,h2⟩:=hh
  have hrr:jcP r=some h:=by rw[h2];exact jfj h1
  rw[hrr];exact js1 w0 s S rb f (jq4 w0 s bm room S rb hR f hN) r h hrr hs W left hE hr hf h160
 ·cases d with
  | zero=>exact hi.elim
  | succ d =>
   rw[jd3 (inlP (d+1)) hi];show Calls _ _ _ W (RdO W rb s (jbU (gRef S) f (inlOf r) left));rw[jmR w0 hi];exact ju9 w0 s S rb f hN r d m hi hs W left hE hr hf h160
theorem jkK(W:World)(rb s:Nat)(n:jaf)(hr:RdAt W rb s 0):Calls Tryz.prog 151 #[.pointer (some ⟨rb,0,none⟩),n.V] W (RdO W rb s none):=by
 have hrb:=hr.lt;have hA:=hr.ext ((ExtR W).alloc (.cells n.cells.toArray 144));have HA:=Hd hA;unfold RdAt at hA;have q1:=hA.cell (i:=1) (v:=.int .i64 0) (by rfl);clear hA hr;unfold jaf.V;go_enter Tryz.func151,Tryz.ntmps151;go_wp2_with fail
 go_ret2
 exact⟨((ExtR W).alloc _).mono (fun _ _ e=>e.elim),_,0,rfl,.inl rfl,HA.o⟩
theorem jqB(W:World)(rb s k:Nat)(hk:k≤160)(q v:ByteArray)(rs:List ByteArray)(hr:RdAt W rb s (k+1)):Calls Tryz.prog 151 #[.pointer (some ⟨rb,0,none⟩),(jaf.mk 1 q v rs).V] W (RdO W rb s (some (.leaf q v,k))):=by
 have hrb:=hr.lt;have hne:W.heap.size≠rb:=by omega
 obtain⟨W1,hW1⟩:∃ W1,W1=W.setCell ⟨rb,1,none⟩ (.int .i64 (k:Int)):=⟨_,rfl⟩
 obtain⟨W2,hW2⟩:∃ W2,W2=W1.alloc (.cells (jaf.cells ⟨1,q,v,rs⟩).toArray 144):=⟨_,rfl⟩
 have hr1:RdAt W1 rb s k:=by rw[hW1];exact Blk.set_same (i:=1) hr _
 have hs1:W1.heap.size=W.heap.size:=by rw[hW1];exact World.size_setCell _ _ _
 have hE12:Ext W1 W2:=by rw[hW2];exact (ExtR W1).alloc _
 have hB2:Blk W2 W.heap.size (.cells (jaf.cells ⟨1,q,v,rs⟩).toArray 144):=by rw[←hs1,hW2];exact Blk.new W1 _
 have hr2:RdAt W2 rb s k:=hr1.ext hE12;have hK2:jac (fun z=>z=rb) W W2:=(show jac (fun z=>z=rb) W W1 by rw[hW1];exact jac.oneSet _ ⟨rb,1,none⟩ _).trans (hE12.mono (fun _ _ e=>e.elim));have HR2:=Hd (And.intro hr2 (And.intro hK2 hB2));have hA:=hr.ext ((ExtR W).alloc (.cells (jaf.cells ⟨1,q,v,rs⟩).toArray 144));unfold RdAt at hA;have q1:=hA.cell (i:=1) (v:=.int .i64 ((k:Int)+1)) (by rfl);have f1:(W.alloc (.cells (jaf.cells ⟨1,q,v,rs⟩).toArray 144)).frozen? ⟨rb,1,none⟩=false:=hA.frozen;have e0:(jaf.cells ⟨1,q,v,rs⟩)[0]?=some (.int .i64 1):=rfl;have e1:(jaf.cells ⟨1,q,v,rs⟩)[1]?=some (.string q):=rfl;have e2:(jaf.cells ⟨1,q,v,rs⟩)[2]?=some (.string v):=rfl;have HW:=Hd (And.intro hW1 hW2);clear hr hA hr1 hE12 hr2 hK2 hB2 hW1 hW2;unfold jaf.V;go_enter Tryz.func151,Tryz.ntmps151;go_wp2_with fail
 go_ret2
 obtain⟨hW1,hW2⟩:=HW.o
 rw[←hW1, ←hW2]
 obtain⟨hr2,hK2,hB2⟩:=HR2.o
 have hE3:Ext W2 (W2.alloc (.cells #[.string q,.string v] 267)):=(ExtR W2).alloc _;have hB3:=Blk.new W2 (.cells #[.string q,.string v] 267);have hz:W2.heap.size=W.heap.size+1:=by rw[hW2,World.size_alloc,hs1]
 have hb3:Blk (W2.alloc (.cells #[.string q,.string v] 267)) (W.heap.size+1) (.cells #[.string q,.string v] 267):=by rw[←hz];exact hB3
 exact⟨hK2.trans (hE3.mono (fun _ _ e=>e.elim)),_,_,rfl,⟨_,rfl,⟨Nat.le_succ _,hb3.lt⟩,hb3⟩,hr2.ext hE3⟩
theorem jqC(W:World)(rb s k:Nat)(hk:k≤160)(q v:ByteArray)(rs:List ByteArray)(hr:RdAt W rb s (k+1)):Calls Tryz.prog 151 #[.pointer (some ⟨rb,0,none⟩),(jaf.mk 0 q v rs).V] W (RdO W rb s (some (.no,k))):=by
 have hrb:=hr.lt;have hne:W.heap.size≠rb:=by omega
 obtain⟨W1,hW1⟩:∃ W1,W1=W.setCell ⟨rb,1,none⟩ (.int .i64 (k:Int)):=⟨_,rfl⟩
 obtain⟨W2,hW2⟩:∃ W2,W2=W1.alloc (.cells (jaf.cells ⟨0,q,v,rs⟩).toArray 144):=⟨_,rfl⟩
 have hr1:RdAt W1 rb s k:=by rw[hW1];exact Blk.set_same (i:=1) hr _
 have hs1:W1.heap.size=W.heap.size:=by rw[hW1];exact World.size_setCell _ _ _
 have hE12:Ext W1 W2:=by rw[hW2];exact (ExtR W1).alloc _
 have hB2:Blk W2 W.heap.size (.cells (jaf.cells ⟨0,q,v,rs⟩).toArray 144):=by rw[←hs1,hW2];exact Blk.new W1 _
 have hr2:RdAt W2 rb s k:=hr1.ext hE12;have hK2:jac (fun z=>z=rb) W W2:=(show jac (fun z=>z=rb) W W1 by rw[hW1];exact jac.oneSet _ ⟨rb,1,none⟩ _).trans (hE12.mono (fun _ _ e=>e.elim));have HR2:=Hd (And.intro hr2 (And.intro hK2 hB2));have hA:=hr.ext ((ExtR W).alloc (.cells (jaf.cells ⟨0,q,v,rs⟩).toArray 144));unfold RdAt at hA;have q1:=hA.cell (i:=1) (v:=.int .i64 ((k:Int)+1)) (by rfl);have f1:(W.alloc (.cells (jaf.cells ⟨0,q,v,rs⟩).toArray 144)).frozen? ⟨rb,1,none⟩=false:=hA.frozen;have e0:(jaf.cells ⟨0,q,v,rs⟩)[0]?=some (.int .i64 0):=rfl;have HW:=Hd (And.intro hW1 hW2);clear hr hA hr1 hE12 hr2 hK2 hB2 hW1 hW2;unfold jaf.V;go_enter Tryz.func151,Tryz.ntmps151;go_wp2_with fail
 go_ret2
 obtain⟨hW1,hW2⟩:=HW.o
 rw[←hW1, ←hW2]
 obtain⟨hr2,hK2,hB2⟩:=HR2.o
 exact⟨hK2,_,_,rfl,rfl,hr2⟩
theorem jsJ(w0:World)(s:Nat)(S:List Nd5)(rb f:Nat)(hRef:RefC w0 s S rb f)(hnew:w0.heap.size≤rb)(W:World)(k:Nat)(hE0:Ext w0 W)(hk:k≤f)(h160:k≤159)(q v r:ByteArray)(rs:List ByteArray)(d:Nat)(hm:MayP (InlD d) r)(hr:RdAt W rb s (k+1)):Calls Tryz.prog 151 #[.pointer (some ⟨rb,0,none⟩),(jaf.mk 2 q v (r :: rs)).V] W (RdO W rb s ((gRef S r).bind fun m=>(jbU (gRef S) f m k).map fun x=>(.ext q x.1,x.2))):=by
 have hrb:=hr.lt;have hne:W.heap.size≠rb:=by omega
 obtain⟨W1,hW1⟩:∃ W1,W1=W.setCell ⟨rb,1,none⟩ (.int .i64 (k:Int)):=⟨_,rfl⟩
 obtain⟨W2,hW2⟩:∃ W2,W2=W1.alloc (.cells (jaf.cells ⟨2,q,v,r :: rs⟩).toArray 144):=⟨_,rfl⟩
 have hr1:RdAt W1 rb s k:=by rw[hW1];exact Blk.set_same (i:=1) hr _
 have hs1:W1.heap.size=W.heap.size:=by rw[hW1];exact World.size_setCell _ _ _
 have hE12:Ext W1 W2:=by rw[hW2];exact (ExtR W1).alloc _
 have hB2:Blk W2 W.heap.size (.cells (jaf.cells ⟨2,q,v,r :: rs⟩).toArray 144):=by rw[←hs1,hW2];exact Blk.new W1 _
 have hr2:RdAt W2 rb s k:=hr1.ext hE12;have hK2:jac (fun z=>z=rb) W W2:=(show jac (fun z=>z=rb) W W1 by rw[hW1];exact jac.oneSet _ ⟨rb,1,none⟩ _).trans (hE12.mono (fun _ _ e=>e.elim));have HR2:=Hd (And.intro hr2 (And.intro hK2 hB2));have hA:=hr.ext ((ExtR W).alloc (.cells (jaf.cells ⟨2,q,v,r :: rs⟩).toArray 144));unfold RdAt at hA;have q1:=hA.cell (i:=1) (v:=.int .i64 ((k:Int)+1)) (by rfl);have f1:(W.alloc (.cells (jaf.cells ⟨2,q,v,r :: rs⟩).toArray 144)).frozen? ⟨rb,1,none⟩=false:=hA.frozen;have e0:(jaf.cells ⟨2,q,v,r :: rs⟩)[0]?=some (.int .i64 2):=rfl;have e1:(jaf.cells ⟨2,q,v,r :: rs⟩)[1]?=some (.string q):=rfl;have e3:(jaf.cells ⟨2,q,v,r :: rs⟩)[3]?=some (.string r):=rfl;have hEw:Ext w0 W2:=hE0.trans' hK2 (fun x hx e=>by have e:x=rb:=e;omega);have HC:=Hd (hRef r d hm W2 k hEw hr2 hk (by omega));have hrl:(jaf.cells ⟨2,q,v,r :: rs⟩).toArray.size=(jaf.cells ⟨2,q,v,r :: rs⟩).length:=by simp
 have hbnd:rb < W2.heap.size:=hr2.lt;have HBD:=Hd hbnd
 obtain⟨o,ho⟩:∃ o,o=(gRef S r).bind fun m=>jbU (gRef S) f m k:=⟨_,rfl⟩
 have hoo:((gRef S r).bind fun m=>(jbU (gRef S) f m k).map fun x=>(PA.ext q x.1,x.2))=o.map fun x=>(PA.ext q x.1,x.2):=by
  rw[ho];cases gRef S r with
  | none=>rfl
  | some m=>rfl
 rw[←ho]at HC;rw[hoo];have HW:=Hd (And.intro hW1 hW2);have hs2:W2.heap.size=W.heap.size+1:=by rw[hW2,World.size_alloc,hs1]
 have HS2:=Hd hs2;have hr0:=hr;clear hRef hnew hE0 hm hr hA hr1 hE12 hr2 hK2 hB2 hEw ho hoo hs2 hrl hbnd hr0;unfold jaf.V;go_enter Tryz.func151,Tryz.ntmps151;go_wp2_with fail
 rw[←hW1, ←hW2];clear hW1 hW2 q1 f1;refine HC.o.mono ?_;intro e w7 hO
 obtain⟨hk7,hO2⟩:=hO
 have hB7:=HR2.o.2.2.keeps hk7 (fun e=>hne (by exact e));have q7:=hB7.cellL (i:=1) e1;have HK7:=Hd (HR2.o.2.1.trans hk7);have hz2:=HR2.o.2.2.lt;have HZ2:=Hd (show W.heap.size≤w7.heap.size∧W.heap.size+1=W2.heap.size∧W2.heap.size≤w7.heap.size from⟨Nat.le_trans (Nat.le_of_lt hz2) hk7.size,HS2.o.symm,hk7.size⟩);clear hk7 hB7 hz2;cases o with
 | none =>
  obtain⟨v7,l,rfl,hv,hr7⟩:=hO2
  have HZ:=Hd hr7;clear hr7;rcases hv with rfl |⟨T,x,rfl⟩
  ·go_wp2_with fail
   go_ret2
   exact⟨HK7.o.trans (((ExtR w7).alloc _).mono (fun _ _ e=>e.elim)),_,l,rfl,.inr ⟨_,_,rfl⟩,HZ.o.ext ((ExtR w7).alloc _)⟩
  ·go_wp2_with fail
   go_ret2
   exact⟨HK7.o.trans (((ExtR w7).alloc _).mono (fun _ _ e=>e.elim)),_,l,rfl,.inr ⟨_,_,rfl⟩,HZ.o.ext ((ExtR w7).alloc _)⟩
 | some Pl =>
  obtain⟨P,l⟩:=Pl
  obtain⟨T,x,rfl,hP,hr7⟩:=hO2
  have HZ:=Hd (And.intro hP hr7);clear hP hr7;go_wp2_with fail
  go_ret2
  obtain⟨hP,hr7⟩:=HZ.o
  have hE8:Ext w7 (w7.alloc (.cells #[.string q,.iface T x] 270)):=(ExtR w7).alloc _;have hB8:=Blk.new w7 (.cells #[.string q,.iface T x] 270)
  obtain⟨z1,z2,z3⟩:=HZ2.o
  refine⟨HK7.o.trans (hE8.mono (fun _ _ e=>e.elim)),_,_,rfl,⟨_,T,x,jjN W2 w7,rfl,⟨by omega,hB8.lt⟩,hB8,hP.keeps hE8 _ _ _ (fun _ _ e=>e),fun e=>by have:=e.2;omega,fun z hz=>⟨by have:=hz.1;omega,Nat.lt_of_lt_of_le hz.2 hE8.size⟩⟩,hr7.ext hE8⟩
theorem jiH{R:jaf→Nat→Option (PA × Nat)}{G:ByteArray→Option jaf}{rs:List ByteArray}{k left:Nat}(h:je1 R G rs k left=none):∀ d,je1 R G rs (k+d) left=none
 | 0=>h
 | d+1=>by
  show je1 R G rs (k+d+1) left=none;rw[jfo,jiH h d];rfl
structure jvS(W:World)(rb s bb:Nat)(G:ByteArray→Option jaf)(R:jaf→Nat→Option (PA × Nat))(v:ByteArray)(rs:List ByteArray)(left:Nat)(iv:Value)(wr:World)(k:Nat)(ks:Nat→PA)(l:Nat)(vk:Nat→Value)(Dk:Nat→Nat→Prop)(D:Nat→Prop):Prop where
 le:k≤16
 iv:iv=.int .i64 (k:Int)
 rd:je1 R G rs k left=some (ks,l)
 br:BrAt v ks bb vk Dk D wr
 since:∀ z,D z→W.heap.size≤z
 rdr:RdAt wr rb s l
 kp:jac (fun z=>z=rb) W wr
theorem jjA{W:World}{b:Nat}{n:jaf}(hr:n.refs.length=16)(hB:Blk W b (.cells n.cells.toArray 144)):(Instr.loadAt 142 (.pointer (some ⟨b,3,none⟩))).run Tryz.prog W=.ok (.agg (n.refs.map Value.string).toArray) W:=by
 have hrg:W.rangeAt b 3 (n.refs.map Value.string):=fun j v hv=>hB.cellL (by
  unfold jaf.cells;rw[show 3+j=j+3 by omega];simpa using hv)
 have hld:=run_loadVar_mid (P:=Tryz.prog) W b 3 142 _ _ hrg Tryz.uRefs rfl (by simp only[List.length_map,hr];exact Tryz.iRefs);simp[Instr.loadAt,Instr.sureAddr,Sem.run_bind,Result.andThen,hld]
theorem juX(w0:World)(s:Nat)(S:List Nd5)(rb f:Nat)(hRef:RefC w0 s S rb f)(hnew:w0.heap.size≤rb)(W:World)(k0:Nat)(hE0:Ext w0 W)(hk:k0≤f)(h160:k0≤159)(q v:ByteArray)(rs:List ByteArray)(d:Nat)(hrl:rs.length=16)(hm:∀ r∈rs,r.size≠0→MayP (InlD d) r)(hr:RdAt W rb s (k0+1)):Calls Tryz.prog 151 #[.pointer (some ⟨rb,0,none⟩),(jaf.mk 3 q v rs).V] W (RdO W rb s ((je1 (jbU (gRef S) f) (gRef S) rs 16 k0).map fun x=>(.br v x.1,x.2))):=by
 have hrb:=hr.lt;have hne:W.heap.size≠rb:=by omega
 obtain⟨W1,hW1⟩:∃ W1,W1=W.setCell ⟨rb,1,none⟩ (.int .i64 (k0:Int)):=⟨_,rfl⟩
 obtain⟨W2,hW2⟩:∃ W2,W2=W1.alloc (.cells (jaf.cells ⟨3,q,v,rs⟩).toArray 144):=⟨_,rfl⟩
 have hr1:RdAt W1 rb s k0:=by rw[hW1];exact Blk.set_same (i:=1) hr _
 have hs1:W1.heap.size=W.heap.size:=by rw[hW1];exact World.size_setCell _ _ _
 have hE12:Ext W1 W2:=by rw[hW2];exact (ExtR W1).alloc _
 have hB2:Blk W2 W.heap.size (.cells (jaf.cells ⟨3,q,v,rs⟩).toArray 144):=by rw[←hs1,hW2];exact Blk.new W1 _
 have hr2:RdAt W2 rb s k0:=hr1.ext hE12;have hK2:jac (fun z=>z=rb) W W2:=(show jac (fun z=>z=rb) W W1 by rw[hW1];exact jac.oneSet _ ⟨rb,1,none⟩ _).trans (hE12.mono (fun _ _ e=>e.elim));have HR2:=Hd (And.intro hr2 (And.intro hK2 hB2));have hA:=hr.ext ((ExtR W).alloc (.cells (jaf.cells ⟨3,q,v,rs⟩).toArray 144));unfold RdAt at hA;have q1:=hA.cell (i:=1) (v:=.int .i64 ((k0:Int)+1)) (by rfl);have f1:(W.alloc (.cells (jaf.cells ⟨3,q,v,rs⟩).toArray 144)).frozen? ⟨rb,1,none⟩=false:=hA.frozen;have e0:(jaf.cells ⟨3,q,v,rs⟩)[0]?=some (.int .i64 3):=rfl;have e2:(jaf.cells ⟨3,q,v,rs⟩)[2]?=some (.string v):=rfl
 obtain⟨W3,hW3⟩:∃ W3,W3=W2.alloc (.cells #[.string v,.nilIface,.nilIface,.nilIface,.nilIface,.nilIface,.nilIface,.nilIface,.nilIface,.nilIface,.nilIface,.nilIface,.nilIface,.nilIface,.nilIface,.nilIface,.nilIface] 274):=⟨_,rfl⟩
 have hE23:Ext W2 W3:=by rw[hW3];exact (ExtR W2).alloc _
 have hs2:W2.heap.size=W.heap.size+1:=by rw[hW2,World.size_alloc,hs1]
 have hB3:Blk W3 (W.heap.size+1) (.cells (brC v (fun _=>.nilIface)).toArray 274):=by rw[←hs2,hW3];exact Blk.new W2 _
 have hbr:BrAt v (fun _=>.nil) (W.heap.size+1) (fun _=>.nilIface) (fun _ _=>False) (fun x=>x=W.heap.size+1) W3:=
  ⟨rfl,hB3,fun i _=>⟨rfl,fun e=>e,fun _ e=>e.elim⟩,fun _ _ _ _ _ _ e=>e.elim,fun x e=>by rw[e];exact hB3.lt⟩
 have hla:=jjA (n:=⟨3,q,v,rs⟩) hrl (hB2.keeps hE23 (fun e=>e));have HST:=Hd (show jvS W rb s (W.heap.size+1) (gRef S) (jbU (gRef S) f) v rs k0 (.int .i64 0) W3 0 (fun _=>.nil) k0 (fun _=>.nilIface) (fun _ _=>False) (fun x=>x=W.heap.size+1)from⟨by omega,rfl,rfl,hbr,fun z e=>by rw[e];omega,hr2.ext hE23,hK2.trans (hE23.mono (fun _ _ e=>e.elim))⟩);have HREF:=Hd hRef;have HM:=Hd hm;have HRL:=Hd hrl;have HE0:=Hd hE0;have HNW:=Hd hnew;have HRB:=Hd hrb;have HF:=Hd hk
 obtain⟨o,ho⟩:∃ o,o=(je1 (jbU (gRef S) f) (gRef S) rs 16 k0).map fun x=>(PA.br v x.1,x.2):=⟨_,rfl⟩
 have HO:=Hd ho;rw[←ho];have HW:=Hd (And.intro hW1 (And.intro hW2 hW3));have HBB:=Hd (show W.heap.size+1≠rb by omega);rw[hW3,hW2,hW1]at hla;clear hRef hnew hE0 hm hr hA hr1 hE12 hr2 hK2 hB2 hW1 hW2 hW3 hE23 hB3 hbr hrl ho hs2 hk;unfold jaf.V;go_enter Tryz.func151,Tryz.ntmps151;go_wp2_with (refine jae 142 (.tmp 59) rfl rfl _ _ rfl hla ?_)
 obtain⟨hW1,hW2,hW3⟩:=HW.o
 rw[←hW1, ←hW2, ←hW3]
 obtain⟨bb,hbb⟩:∃ bb,bb=W.heap.size+1:=⟨_,rfl⟩
 rw[←hbb]at HST HBB ⊢;clear hW1 hW2 hW3 HW hla q1 f1 hs1 hbb HR2;go_loopw [61] (fun iv wr=>∃ k ks l vk Dk D,jvS W rb s bb (gRef S) (jbU (gRef S) f) v rs k0 iv wr k ks l vk Dk D) (fun iv _=>16 - (intOf iv).toNat)
 case atStart=>exact⟨0,_,_,_,_,_,HST.o⟩
 case round =>
  obtain⟨k,ks,l,vk,Dk,D,h⟩:=hrel
  obtain⟨hle,rfl,hrd,hbr,hsi,hrr,hkp⟩:=h
  have HRD:=Hd hrd;have HBR:=Hd hbr;have HSI:=Hd hsi;have HRR:=Hd hrr;have HKP:=Hd hkp;clear hrd hbr hsi hrr hkp
  by_cases hlt:k < 16
  ·obtain⟨r,hri⟩:∃ r,rs[k]?=some r:=⟨_,List.getElem?_eq_getElem (by have:=HRL.o;omega)⟩
   have hix:(Instr.index 142 (.agg (rs.map Value.string).toArray) (.int .i64 (k:Int))).run Tryz.prog wr=.ok (.string r) wr:=jeA Tryz.uRefs Tryz.strOne Tryz.strAgg _ k hlt _ (by rw[List.getElem?_map,hri];rfl) wr;have hgd:rs.getD k ⟨#[]⟩=r:=by rw[List.getD_eq_getElem?_getD,hri];rfl
   have hst:=jfo (jbU (gRef S) f) (gRef S) rs k k0;rw[HRD.o,hgd]at hst;have hst:je1 (jbU (gRef S) f) (gRef S) rs (k+1) k0=if r.size=0 then some (ks,l)else (gRef S r).bind fun m=>(jbU (gRef S) f m l).map fun y=>(setK ks k y.1,y.2):=hst
   by_cases hr0:r.size=0
   ·rw[if_pos hr0]at hst
    have hre:=jbF hr0;subst hre;have hem:(⟨#[]⟩:ByteArray).toList.isEmpty=true:=by rw[ByteArray.toList_eq];rfl
    have HSP:=Hd hst;clear hst hri hr0 hgd;go_wp2;go_roundw
    case rel=>exact⟨k+1,ks,l,vk,Dk,D,by omega,by go_num,HSP.o,HBR.o,HSI.o,HRR.o,HKP.o⟩
    case measure=>simp[intOf];omega
   ·rw[if_neg hr0]at hst
    have hne2:=jc9 hr0;have hEr:Ext w0 wr:=HE0.o.trans' HKP.o (fun x hx e=>by have e:x=rb:=e;have:=HNW.o;omega);have hll:l≤k0:=jjv (fun m l y h=>Nat.le_trans (jjw (gRef S) f m l y h) (Nat.sub_le _ _)) k k0 _ HRD.o;have HC:=Hd (HREF.o r d (HM.o r (List.mem_of_getElem? hri) hr0) wr l hEr HRR.o (by have:=HF.o;omega) (by omega))
    obtain⟨o1,ho1⟩:∃ o1,o1=(gRef S r).bind fun m=>jbU (gRef S) f m l:=⟨_,rfl⟩
    rw[←ho1]at HC;have hst2:je1 (jbU (gRef S) f) (gRef S) rs (k+1) k0=o1.map fun y=>(setK ks k y.1,y.2):=by
     rw[hst,ho1];cases gRef S r with
     | none=>rfl
     | some m=>rfl
    have HSP:=Hd hst2;have HBL:=Hd (HBR.o.lt bb HBR.o.mem);clear hst hst2 hri hr0 hgd hEr hll ho1;go_wp2_with fail
    refine HC.o.mono ?_;intro e w7 hO
    obtain⟨hk7,hO2⟩:=hO
    have HK7:=Hd hk7;clear hk7;cases o1 with
    | none =>
     obtain⟨v7,l7,rfl,hv,hr7⟩:=hO2
     have HZ:=Hd hr7;clear hr7;have HON:=Hd (show o=none by
      rw[HO.o]
      have:=jiH (k:=k+1) HSP.o (15 - k)
      rw[show k+1+(15 - k)=16 by omega]at this;rw[this];rfl)
     rcases hv with rfl |⟨T,x,rfl⟩
     ·go_wp2_with fail
      go_ret2;rw[HON.o]
      exact⟨HKP.o.trans HK7.o,_,l7,rfl,.inl rfl,HZ.o⟩
     ·go_wp2_with fail
      go_ret2;rw[HON.o]
      exact⟨HKP.o.trans HK7.o,_,l7,rfl,.inl rfl,HZ.o⟩
    | some Pl =>
     obtain⟨P,l7⟩:=Pl
     obtain⟨T,x,rfl,hP,hr7⟩:=hO2
     have hrbD:∀ z,D z→¬ z=rb:=fun z hz e=>by have:=HSI.o z hz;have:=HRB.o;omega
     have hb7:=HBR.o.keeps HK7.o (fun z hz=>hrbD z hz);have hg:=hb7.give hlt hP (fun z hz=>⟨fun e=>by have:=HBR.o.lt z e;have:=hz.1;omega,hz.2⟩)
     obtain⟨W8,hW8⟩:∃ W8,W8=w7.setCell ⟨bb,1+k,none⟩ (.iface T x):=⟨_,rfl⟩
     rw[←hW8]at hg;have hk8:jac (fun z=>z=bb) w7 W8:=by rw[hW8];exact jac.oneSet w7 ⟨bb,1+k,none⟩ (.iface T x)
     have hr8:RdAt W8 rb s l7:=hr7.keeps hk8 (fun e=>HBB.o e.symm);have hk9:jac (fun z=>z=rb) W W8:=(HKP.o.trans HK7.o).trans' hk8 (fun z hz e=>by have e:z=bb:=e;have:=HSI.o bb HBR.o.mem;omega)
     obtain⟨old,q7⟩:∃ v,w7.cell? ⟨bb,1+k,none⟩=some v:=⟨_,hb7.blk.cellL (List.getElem?_eq_getElem (by rw[jgr];omega))⟩
     have f7:w7.frozen? ⟨bb,1+k,none⟩=false:=hb7.blk.frozen;have HG:=Hd (And.intro hg (And.intro hr8 (And.intro hk9 (show ∀ z,(D z∨jjN wr w7 z)→W.heap.size≤z from fun z hz=>hz.elim (HSI.o z) (fun e=>Nat.le_trans HKP.o.size e.1)))));have HW8:=Hd hW8;clear hP hr7 hrbD hb7 hg hk8 hr8 hk9 hW8;go_wp2_with fail
     rw[←HW8.o];clear q7 f7;go_roundw
     case rel=>exact⟨k+1,_,l7,_,_,_,by omega,by go_num,HSP.o,HG.o.1,HG.o.2.2.2,HG.o.2.1,HG.o.2.2.1⟩
     case measure=>simp[intOf];omega
  ·obtain rfl:k=16:=by omega
   go_wp2_with fail
   go_ret2;rw[HO.o,HRD.o]
   exact⟨HKP.o,_,_,rfl,HBR.o.pa.at'.mono (fun z hz=>⟨HSI.o z hz,HBR.o.lt z hz⟩),HRR.o⟩
theorem jq6(w0:World)(s bm:Nat)(room:Int)(S:List Nd5)(rb:Nat)(hR:RdS0 w0 s bm room S rb):∀ f,jnA w0 s S rb f
 | 0=>fun n d hg W left hE hr hf h160=>by
  obtain rfl:left=0:=by omega
  rw[jiI];exact jkK W rb s n hr
 | f+1=>fun n d hg W left hE hr hf h160=>by
  have hRef:=jw0 w0 s bm room S rb hR f (jq6 w0 s bm room S rb hR f);cases left with
  | zero =>
   rw[jiI];exact jkK W rb s n hr
  | succ k =>
   rw[jeg,if_neg (Nat.succ_ne_zero k)];cases hg with
   | none=>exact jqC W rb s k (by omega) _ _ _ hr
   | leaf p v h1 h2 h3=>exact jqB W rb s k (by omega) p v _ hr
   | ext p r h1 h2 h3 =>
    have hm:MayP (InlD d) r:=h3.imp id (fun ⟨m,hm,_⟩=>⟨m,hm⟩);exact jsJ w0 s S rb f hRef hR.new W k hE (by omega) (by omega) p ⟨#[]⟩ r (jax 15) d hm hr
   | branch v rs h1 h2 h3 h4=>exact juX w0 s S rb f hRef hR.new W k hE (by omega) (by omega) ⟨#[]⟩ v rs d h1 h3 hr
def jxk(W:World)(o:Option (PA × Nat))(e:Ending)(w':World):Prop:=Ext W w'∧match o with
 | some (P,_)=>∃ T x,e=.returned (.tuple #[.iface T x,.bool true])∧PaAt P (.iface T x) (jjN W w') w'
 | none=>∃ v,e=.returned (.tuple #[v,.bool false])∧(v=.nilIface∨∃ T x,v=.iface T x)
noncomputable def readR(S:List Nd5)(root:ByteArray):Option (PA × Nat):=(gHash S root).bind fun m=>jbU (gRef S) 160 m 160
theorem jvu(W:World)(s bm:Nat)(room:Int)(S:List Nd5)(hs:jas W s bm room S)(hN:jjM S)(root:ByteArray) :
  Calls Tryz.prog 62 #[.pointer (some ⟨s,0,none⟩),.string root] W (jxk W (readR S root)):=by
 obtain⟨W1,hW1⟩:∃ W1,W1=W.alloc (.cells #[.pointer (some ⟨s,0,none⟩),.int .i64 160] 172):=⟨_,rfl⟩
 have hE1:Ext W W1:=by rw[hW1];exact (ExtR W).alloc _
 have hr1:RdAt W1 W.heap.size s 160:=by rw[hW1];exact Blk.new W _
 have hR:RdS0 W s bm room S W.heap.size:=⟨hs,hN,Nat.le_refl _⟩;have hH:=jq4 W s bm room S W.heap.size hR 160 (jq6 W s bm room S W.heap.size hR 160) root W1 160 hE1 hr1 (Nat.le_refl _) (Nat.le_refl _)
 obtain⟨o,ho⟩:∃ o,o=readR S root:=⟨_,rfl⟩
 have hH:Calls Tryz.prog 112 #[.pointer (some ⟨W.heap.size,0,none⟩),.string root] W1 (RdO W1 W.heap.size s o):=by rw[ho];exact hH
 have HC:=Hd hH;have HE:=Hd hE1;have HW:=Hd hW1;rw[←ho];clear hs hN hr1 hR hH ho hE1 hW1;go_enter Tryz.func62,Tryz.ntmps62;go_wp2_with fail
 rw[←HW.o];refine HC.o.mono ?_;intro e w7 hO
 obtain⟨hk,hO2⟩:=hO
 have hX:Ext W w7:=HE.o.trans' hk (fun x hx e=>by have e:x=W.heap.size:=e;omega);have HX:=Hd hX;clear hk hX;cases o with
 | none =>
  obtain⟨v,l,rfl,hv,hr7⟩:=hO2
  clear hr7;rcases hv with rfl |⟨T,x,rfl⟩
  ·go_wp2_with fail
   go_ret2
   exact⟨HX.o,_,rfl,.inl rfl⟩
  ·go_wp2_with fail
   go_ret2
   exact⟨HX.o,_,rfl,.inr ⟨T,x,rfl⟩⟩
 | some Pl =>
  obtain⟨P,l⟩:=Pl
  obtain⟨T,x,rfl,hP,hr7⟩:=hO2
  have HZ:=Hd hP;clear hP hr7;go_wp2_with fail
  go_ret2
  exact⟨HX.o,T,x,rfl,HZ.o.mono (fun z hz=>⟨Nat.le_trans HE.o.size hz.1,hz.2⟩)⟩
theorem jmG(w:World){S:List Nd5}{f:Nat}{m:List Pair}(h:jaQ f m)(hn:m≠[])(hS:32≤(jad (f+1) m).text.size→HasS S (jad (f+1) m).text):gRef S (refB (jad (f+1) m).text)=some (jau (jad f) m):=by
 have hst:=(good f m h).2.1 hn;unfold gRef
 by_cases hz:(jad (f+1) m).text.size < 32
 ·have hi:=hst.may.2 hz
  rw[jd3 (inlP (f+1)) hi,jmR w hi]
 ·rw[jjx hz,jfj (jb3 _)]
  obtain⟨x,h1,h2⟩:=hS (by omega)
  have h1:atL S (shaB (jad (f+1) m).text).data.toList=some x:=h1;show (atL S (shaB (jad (f+1) m).text).data.toList).map (fun x=>nodeOf x.2.2.text)=_;rw[h1];show some (nodeOf x.2.2.text)=_;have hI:jbW (jad (f+1) m).text (jau (jad f) m):=⟨hst.text,f,hst.good⟩;rw[h2,jd6 w (jdm hI) hI]
theorem jon(w:World)(S:List Nd5):∀ (g:Nat) (l:List Pair),jaQ g l→(∀ x∈jaK (jaw (jad g) l),32≤x.size→HasS S x)→∀ (f left:Nat),cntT g l≤left→left≤f→jbU (gRef S) f (jau (jad g) l) left=some (ja2 (g+1) l,left - cntT g l):=by
 intro g;have small:∀ (g:Nat) (l:List Pair),l.length≤1→cntT g l=1→∀ (f left:Nat),cntT g l≤left→left≤f→jbU (gRef S) f (jau (jad g) l) left=some (ja2 (g+1) l,left - cntT g l):=by
  intro g l hl hc f left h1 h2;rw[hc]at h1 ⊢;cases f with
  | zero=>omega
  | succ f =>
   rw[jeg,if_neg (by omega)]
   by_cases h0:l.length=0
   ·have e:jau (jad g) l=jbb:=by unfold jau;rw[if_pos h0]
    rw[e,jbV _ h0];rfl
   ·have h1':l.length=1:=by omega
    have e:jau (jad g) l=⟨1,(l.getD 0 pd).1,(l.getD 0 pd).2,jax 16⟩:=by unfold jau;rw[if_neg h0,if_pos h1']
    rw[e,jb5 _ h1'];rfl
 induction g with
 | zero =>
  intro l h hS f left h1 h2;exact small 0 l (jcf h) rfl f left h1 h2
 | succ g ih =>
  intro l h hS f left h1 h2
  by_cases hl:l.length≤1
  ·exact small (g+1) l hl (by unfold cntT;rw[if_pos hl]) f left h1 h2
  have hl2:2≤l.length:=by omega
  have kidS:∀ m,jaQ g m→m≠[]→(∀ x∈jaK (jbZ (jad (g+1) m)),x∈jaK (jaw (jad (g+1)) l))→(32≤(jad (g+1) m).text.size→HasS S (jad (g+1) m).text)∧∀ x∈jaK (jaw (jad g) m),32≤x.size→HasS S x:=by
   intro m hm hmn hsub
   refine⟨fun hz=>hS _ (hsub _ ?_) hz,fun x hx hz=>?_⟩
   ·rw[jmO (by omega)];exact jgj _
   ·by_cases hs:(jad (g+1) m).text.size < 32
    ·have hst:=(good g m hm).2.1 hmn
     have e:(jad (g+1) m).kids=[]:=hst.small hs;have e:jaw (jad g) m=[]:=e;rw[e]at hx;cases hx
    ·refine hS x (hsub x ?_) hz
     rw[jmO hs];exact List.mem_cons_of_mem _ hx
  cases f with
  | zero =>
   exfalso
   have:1≤cntT (g+1) l:=by unfold cntT;omega
   omega
  | succ f =>
   by_cases hk:0 < comK l
   ·obtain⟨k1,k2,_,_⟩:=jfO h hl2 hk
    have eB:jaw (jad (g+1)) l=jbZ (jad (g+1) (jam (comK l) l)):=by unfold jaw;rw[if_neg (by omega),if_pos hk]
    have eN:jau (jad (g+1)) l=⟨2,(l.getD 0 pd).1.extract 0 (comK l),⟨#[]⟩,refB (jad (g+1) (jam (comK l) l)).text :: jax 15⟩:=by unfold jau;rw[if_neg (by omega),if_neg (by omega),if_pos hk]
    have eC:cntT (g+1) l=1+cntT g (jam (comK l) l):=by
     show 1+(if l.length≤1 then 0 else if 0 < comK l then cntT g (jam (comK l) l)else _)=_;rw[if_neg (by omega),if_pos hk]
    obtain⟨s1,s2⟩:=kidS _ k1 k2 (fun x hx=>by rw[eB];exact hx)
    rw[eC]at h1 ⊢;rw[jeg,if_neg (by omega),eN,jdB _ hl2 hk];show ((gRef S (refB (jad (g+1) (jam (comK l) l)).text)).bind fun m=>(jbU (gRef S) f m (left - 1)).map fun x=>(PA.ext ((l.getD 0 pd).1.extract 0 (comK l)) x.1,x.2))=_;rw[jmG w k1 k2 s1];show (jbU (gRef S) f (jau (jad g) (jam (comK l) l)) (left - 1)).map _=_;rw[ih _ k1 s2 f (left - 1) (by omega) (by omega)];show some (_,left - 1 - cntT g (jam (comK l) l))=some (_,left - (1+cntT g (jam (comK l) l)))
    congr 2
    omega
   ·have eB:jaw (jad (g+1)) l=(List.range 16).flatMap fun i=>if (cutL i l).length=0 then []else jbZ (jad (g+1) (jam 1 (cutL i l))):=by unfold jaw;rw[if_neg (by omega),if_neg hk]
    obtain⟨rs,hrs⟩:∃ rs,rs=(List.range 16).map fun i=>if (cutL i l).length=0 then (⟨#[]⟩:ByteArray)else refB (jad (g+1) (jam 1 (cutL i l))).text:=⟨_,rfl⟩
    have eN:jau (jad (g+1)) l=⟨3,⟨#[]⟩,if (l.getD 0 pd).1.size=0 then (l.getD 0 pd).2 else ⟨#[]⟩,rs⟩:=by rw[hrs];unfold jau;rw[if_neg (by omega),if_neg (by omega),if_neg hk]
    obtain⟨c,hc⟩:∃ c:Nat→Nat,c=fun i=>if (cutL i l).length=0 then 0 else cntT g (jam 1 (cutL i l)):=⟨_,rfl⟩
    have eC:cntT (g+1) l=1+sumF c 16:=by
     rw[hc];show 1+(if l.length≤1 then 0 else if 0 < comK l then _ else _)=_;rw[if_neg (by omega),if_neg hk]
    obtain⟨kd,hkd⟩:∃ kd:Nat→PA,kd=fun i=>if (cutL i l).length=0 then PA.nil else ja2 (g+1) (jam 1 (cutL i l)):=⟨_,rfl⟩
    rw[eC]at h1 ⊢;have loop:∀ k,k≤16→je1 (jbU (gRef S) f) (gRef S) rs k (left - 1)=some (fun i=>if i < k then kd i else .nil,left - 1 - sumF c k):=by
     intro k;induction k with
     | zero=>intro _;simp[je1,sumF]
     | succ k ihk =>
      intro hk16;rw[jfo,ihk (by omega)];have hgd:rs.getD k ⟨#[]⟩=if (cutL k l).length=0 then (⟨#[]⟩:ByteArray)else refB (jad (g+1) (jam 1 (cutL k l))).text:=by rw[hrs,jfh _ (by omega)]
      show (if (rs.getD k ⟨#[]⟩).size=0 then some (_,left - 1 - sumF c k)else (gRef S (rs.getD k ⟨#[]⟩)).bind fun m=>(jbU (gRef S) f m (left - 1 - sumF c k)).map fun y=>(setK (fun i=>if i < k then kd i else .nil) k y.1,y.2))=_;have hsum:sumF c (k+1)=sumF c k+c k:=rfl
      by_cases hc0:(cutL k l).length=0
      ·rw[hgd,if_pos hc0,if_pos (show (⟨#[]⟩:ByteArray).size=0 from rfl),hsum]
       have e1:c k=0:=by rw[hc];exact if_pos hc0
       have e2:kd k=.nil:=by rw[hkd];exact if_pos hc0
       rw[e1,Nat.add_zero]
       congr 2
       funext i
       by_cases hi:i < k
       ·rw[if_pos hi,if_pos (by omega)]
       ·rw[if_neg hi]
        by_cases he:i=k
        ·rw[he,if_pos (by omega),e2]
        ·rw[if_neg (by omega)]
      ·obtain⟨k1,k2⟩:=jga h hc0
       obtain⟨s1,s2⟩:=kidS _ k1 k2 (fun x hx=>by
        rw[eB,jgD];exact List.mem_flatMap.2 ⟨k,List.mem_range.2 (by omega),by rw[if_neg hc0];exact hx⟩)
       have e1:c k=cntT g (jam 1 (cutL k l)):=by rw[hc];exact if_neg hc0
       have e2:kd k=ja2 (g+1) (jam 1 (cutL k l)):=by rw[hkd];exact if_neg hc0
       have hle:sumF c (k+1)≤sumF c 16:=by
        have:=jej c (k+1) (15 - k)
        rwa [show k+1+(15 - k)=16 by omega]at this
       rw[hgd,if_neg hc0,if_neg (jl0 k1 k2),jmG w k1 k2 s1];show (jbU (gRef S) f (jau (jad g) (jam 1 (cutL k l))) (left - 1 - sumF c k)).map _=_;rw[ih _ k1 s2 f _ (by omega) (by omega), ←e1, ←e2,hsum];show some (setK _ k (kd k),_)=some (_,_)
       congr 2
       ·funext i
        unfold setK
        by_cases he:i=k
        ·rw[if_pos he,he,if_pos (by omega)]
        ·rw[if_neg he]
         show (if i < k then kd i else PA.nil)=_
         by_cases hi:i < k
         ·rw[if_pos hi,if_pos (by omega)]
         ·rw[if_neg hi,if_neg (by omega)]
       ·omega
    rw[jeg,if_neg (by omega),eN,jey _ hl2 hk];show (je1 (jbU (gRef S) f) (gRef S) rs 16 (left - 1)).map (fun x=>(PA.br (if (l.getD 0 pd).1.size=0 then (l.getD 0 pd).2 else ⟨#[]⟩) x.1,x.2))=_;rw[loop 16 (Nat.le_refl _), ←hkd];show some (PA.br _ (fun i=>if i < 16 then kd i else .nil),left - 1 - sumF c 16)=some (PA.br _ kd,left - (1+sumF c 16));have e3:(fun i=>if i < 16 then kd i else .nil)=kd:=by
     funext i
     by_cases hi:i < 16
     ·rw[if_pos hi]
     ·rw[if_neg hi,hkd]
      show PA.nil=if (cutL i l).length=0 then PA.nil else _
      rw[if_pos (by
       cases hz:(cutL i l).length with
       | zero=>rfl
       | succ n=>exact absurd (jwg h (i:=i) (by omega)) hi)]
    rw[e3]
    congr 2
    omega
theorem ji3:∀ (g:Nat) (l:List Pair),jaQ g l→cntP (ja2 (g+1) l)=cntT g l:=by
 intro g;have small:∀ (g:Nat) (l:List Pair),l.length≤1→cntP (ja2 (g+1) l)=1:=by
  intro g l hl
  by_cases h0:l.length=0
  ·rw[jbV _ h0];rfl
  ·rw[jb5 _ (by omega)];rfl
 induction g with
 | zero=>intro l h;exact small 0 l (jcf h)
 | succ g ih =>
  intro l h
  by_cases hl:l.length≤1
  ·rw[small _ l hl]
   show 1=1+(if l.length≤1 then 0 else _);rw[if_pos hl]
  have hl2:2≤l.length:=by omega
  show _=1+(if l.length≤1 then 0 else if 0 < comK l then cntT g (jam (comK l) l)else sumF (fun i=>if (cutL i l).length=0 then 0 else cntT g (jam 1 (cutL i l))) 16);rw[if_neg hl]
  by_cases hk:0 < comK l
  ·rw[if_pos hk,jdB _ hl2 hk]
   show 1+cntP (ja2 (g+1) (jam (comK l) l))=_;rw[ih _ (jfO h hl2 hk).1]
  ·rw[if_neg hk,jey _ hl2 hk]
   show 1+sumF (fun i=>cntP (if (cutL i l).length=0 then PA.nil else ja2 (g+1) (jam 1 (cutL i l)))) 16=_
   congr 2
   funext i
   by_cases hc:(cutL i l).length=0
   ·rw[if_pos hc,if_pos hc];rfl
   ·rw[if_neg hc,if_neg hc,ih _ (jga h hc).1]
theorem ji2{l:List Pair}(h:jry l):cntT 12 (jaP l)≤118:=by
 have hr:=jbR h
 by_cases hn:jaP l=[]
 ·rw[hn];decide
 ·have h1:=(jtA 12 _ hr hn).all
  have h2:=h.len;have h3:(jaP l).length=l.length:=by unfold jaP;rw[List.length_map]
  omega
theorem jqW(w:World){S:List Nd5}{l:List Pair}(h:HasM S l):∃ k,readR S (shaB (jaT l).text)=some (ja2 13 (jaP l),k):=by
 have hr:=jbR (jaM h.ok)
 obtain⟨x,h1,h2⟩:=h.has _ (jgj _)
 have h1:atL S (shaB (jaT l).text).data.toList=some x:=h1;have hI:jbW (jaT l).text (jau (jad 12) (jaP l)):=⟨rfl,12,(good 12 _ hr).1⟩;unfold readR gHash;rw[h1];show ∃ k,jbU (gRef S) 160 (nodeOf x.2.2.text) 160=_;rw[h2,jd6 w (jdm hI) hI];have hc:=ji2 (jaM h.ok)
 exact⟨_,jon w S 12 _ hr (fun y hy _=>h.has y (List.mem_cons_of_mem _ hy)) 160 160 (by omega) (Nat.le_refl _)⟩
end
end Go.Proofs.YtpaacnhboilkkaaGreatDoor
