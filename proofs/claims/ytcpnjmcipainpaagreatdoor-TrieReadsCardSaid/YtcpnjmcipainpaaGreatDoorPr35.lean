/- Lemmas; each is under no condition but those that it states. -/
import Derived.Test.YtcpnjmcipainpaaGreatDoorPr34
namespace Go.Proofs.YtcpnjmcipainpaaGreatDoor
set_option linter.unusedSimpArgs false
set_option linter.unusedVariables false
set_option maxRecDepth 100000
set_option maxHeartbeats 16000000
section
open Go Go.RowKit
noncomputable def inlOf(r:vB):jad:=@dite _ (∃ m d,InlD d r m) (Classical.propDecidable _) (fun h=>h.choose) (fun _=>jar)
theorem js7(w:World){d g:Nat}{r:vB}{m n:jad}(h:InlD d r m)(k:InlD g r n):m=n:=by
 cases d with
 | zero=>exact h.elim
 | succ d =>
  cases g with
  | zero=>exact k.elim
  | succ g=>exact jlb w h.1 k.1 (h.2.1.symm.trans k.2.1)
theorem jjF(w:World){d:Nat}{r:vB}{m:jad}(h:InlD d r m):inlOf r=m:=by
 have hh:∃ m d,InlD d r m:=⟨m,d,h⟩;unfold inlOf;rw[dif_pos hh]
 obtain⟨g,hg⟩:=hh.choose_spec
 exact js7 w hg h
noncomputable def gRef(S:List Nd5)(r:vB):Option jad:=match jcB r with
 | some h=>(atL S h.data.toList).map fun x=>nodeOf x.2.2.text
 | none=>some (inlOf r)
def jeZ(R:jad->Nat->Option (PA × Nat))(G:vB->Option jad)(rs:List vB):Nat->Nat->Option ((Nat->PA) × Nat)
 | 0,left=>some (fun _=>.nil,left)
 | k+1,left=>(jeZ R G rs k left).bind fun x=>if (rs.getD k ⟨#[]⟩).size=0 then some x else (G (rs.getD k ⟨#[]⟩)).bind fun m=>(R m x.2).map fun y=>(setK x.1 k y.1,y.2)
def jbM(G:vB->Option jad):Nat->jad->Nat->Option (PA × Nat)
 | 0,_,_=>none
 | f+1,n,left=>if left=0 then none
  else if n.kind=1 then some (.leaf n.path n.value,left - 1)
  else if n.kind=2 then (G (n.refs.getD 0 ⟨#[]⟩)).bind fun m=>(jbM G f m (left - 1)).map fun x=>(.ext n.path x.1,x.2)
  else if n.kind=3 then (jeZ (jbM G f) G n.refs 16 (left - 1)).map fun x=>(.br n.value x.1,x.2)
  else some (.no,left - 1)
theorem ji5(G:vB->Option jad)(f:Nat)(n:jad):jbM G f n 0=none:=by
 cases f with
 | zero=>rfl
 | succ f=>rfl
theorem jfj(R:jad->Nat->Option (PA × Nat))(G:vB->Option jad)(rs:List vB)(k left:Nat):jeZ R G rs (k+1) left=(jeZ R G rs k left).bind fun x=>if (rs.getD k ⟨#[]⟩).size=0 then some x else (G (rs.getD k ⟨#[]⟩)).bind fun m=>(R m x.2).map fun y=>(setK x.1 k y.1,y.2):=rfl
theorem jd9(G:vB->Option jad)(f:Nat)(n:jad)(left:Nat):jbM G (f+1) n left=if left=0 then none
  else if n.kind=1 then some (.leaf n.path n.value,left - 1)
  else if n.kind=2 then (G (n.refs.getD 0 ⟨#[]⟩)).bind fun m=>(jbM G f m (left - 1)).map fun x=>(.ext n.path x.1,x.2)
  else if n.kind=3 then (jeZ (jbM G f) G n.refs 16 (left - 1)).map fun x=>(.br n.value x.1,x.2)
  else some (.no,left - 1):=rfl
theorem jjX{R:jad->Nat->Option (PA × Nat)}{G:vB->Option jad}{rs:List vB}(hR:∀ m l y,R m l=some y->y.2<=l):∀ (k left:Nat) (x:(Nat->PA) × Nat),jeZ R G rs k left=some x->x.2<=left
 | 0,left,x,h=>by
  have h:some ((fun _=>PA.nil),left)=some x:=h;rw[<-Option.some.inj h];exact Nat.le_refl _
 | k+1,left,x,h=>by
  rw[jfj,Option.bind_eq_some_iff]at h
  obtain⟨y,hy,h⟩:=h
  have ih:=jjX hR k left y hy
  by_cases h0:(rs.getD k ⟨#[]⟩).size=0
  ·rw[if_pos h0]at h
   rw[<-Option.some.inj h];exact ih
  ·rw[if_neg h0,Option.bind_eq_some_iff]at h
   obtain⟨m,_,h⟩:=h
   rw[Option.map_eq_some_iff]at h
   obtain⟨z,hz,e⟩:=h
   have:=hR m y.2 z hz
   rw[<-e];exact Nat.le_trans this ih
theorem jjY(G:vB->Option jad):∀ (f:Nat) (n:jad) (left:Nat) (y:PA × Nat),jbM G f n left=some y->y.2<=left - 1
 | 0,_,_,_,h=>by cases h
 | f+1,n,left,y,h=>by
  rw[jd9]at h
  by_cases h0:left=0
  ·rw[if_pos h0]at h;cases h
  rw[if_neg h0]at h
  by_cases h1:n.kind=1
  ·rw[if_pos h1]at h
   rw[<-Option.some.inj h];exact Nat.le_refl _
  rw[if_neg h1]at h
  by_cases h2:n.kind=2
  ·rw[if_pos h2,Option.bind_eq_some_iff]at h
   obtain⟨m,_,h⟩:=h
   rw[Option.map_eq_some_iff]at h
   obtain⟨z,hz,e⟩:=h
   have:=jjY G f m _ z hz
   rw[<-e];show z.2<=left - 1;omega
  rw[if_neg h2]at h
  by_cases h3:n.kind=3
  ·rw[if_pos h3,Option.map_eq_some_iff]at h
   obtain⟨z,hz,e⟩:=h
   have:=jjX (fun m l y h=>Nat.le_trans (jjY G f m l y h) (Nat.sub_le _ _)) 16 _ z hz
   rw[<-e];exact this
  rw[if_neg h3]at h;rw[<-Option.some.inj h];exact Nat.le_refl _
def RdAt(W:World)(rb s left:Nat):Prop:=Blk W rb (.cells #[.pointer (some ⟨s,0,none⟩),.int .i64 (left:Int)] 181)
def jko(W W':World):Nat->Prop:=fun z=>W.heap.size<=z/\z < W'.heap.size
def RdO(W:World)(rb s:Nat)(o:Option (PA × Nat))(e:Ending)(w':World):Prop:=jae (fun z=>z=rb) W w'/\match o with
 | some (P,l)=>∃ T x,e=.returned (.tuple #[.iface T x,.bool true])/\PaAt P (.iface T x) (jko W w') w'/\RdAt w' rb s l
 | none=>∃ v l,e=.returned (.tuple #[v,.bool false])/\(v=.nilIface\/∃ T x,v=.iface T x)/\RdAt w' rb s l
def jeK(S:List Nd5):Prop:=∀ x∈S,∃ n,jbK x.2.2.text n
end
section
open Go Go.RowKit
attribute [local go_sem] Oper.semAt_some
theorem jvn(W:World)(x:vB):vQ 165 #[.string x] W fun e w'=>e=.returned (.tuple #[])/\w'=W:=by
 go_enter Tryz.func165,Tryz.ntmps165;go_wp2_with fail
 refine bodyPost_end (results_none rfl _ _ _) rfl ?_
 exact⟨rfl,rfl⟩
theorem jyC(W:World)(s bm:Nat)(room:Int)(S:List Nd5)(hs:jaT W s bm room S)(k:vB)(y:Nd5)(hy:atL S k.data.toList=some y)(f:Nat)(n:jad)(hg:jbx (InlD f) n)(ht:y.2.2.text=jaN n) :
  vR 116 #[.pointer (some ⟨s,0,none⟩),.string k,.func (.func 165) #[] #[]] W (.tuple #[n.V,.bool true]):=by
 have hn:=(hg.one (inlP f)).refs;have HN:=Hd hn;have HG:=Hd hg;have HL:=Hd (n.cells_len hn);have hsg:=fun w (h:jaT w s bm room S)=>jja w s bm room S k h;rw[hy]at hsg;simp only[Option.map_some,optV]at hsg;have HSG:=Hd hsg;have HS:=Hd hs
 obtain⟨t,htt⟩:=vE y.2.2.text
 rw[<-htt]at HSG ht;have HT:=Hd ht;clear hsg hs hg ht hn hy htt;go_enter Tryz.func116,Tryz.ntmps116;go_wp2_with (refine jah Tryz.allocNode rfl rfl ?_;intro W1 hB1 hE1)
 refine vC (HSG.o W1 (HS.o.ext hE1)) fun w3 hE=>?_;have HB3:=Hd (hB1.keeps hE (fun h=>h));have HE3:=Hd (hE1.trans hE);clear hE hB1 hE1;go_wp2_with fail
 refine (jvn w3 t).mono ?_;rintro e w4 ⟨rfl,rfl⟩;go_wp2_with fail
 rw[HT.o];refine vC (jhN (inlP f) w4 n HG.o) fun w5 hE=>?_;rw[<-HT.o];have hB5r:=HB3.o.keeps hE (fun h=>h);have HE5:=Hd hE;clear hE HB3;unfold jad.V;go_wp2_with (first |(refine jah Tryz.allocNode rfl rfl ?_;intro W5 hB5 hE5;refine jag (vs:=n.cells) rfl rfl rfl rfl hB5 (by rw[HL.o];rfl) (by rw[HL.o];exact Tryz.szNode) n.one ?_;intro W6 hB6 hE6;have hB56:=(hB5r.keeps hE5 (fun h=>h)).keeps hE6 (by have:=hB5r.lt;omega)) |(refine jaf 144 (.tmp 10) rfl rfl _ _ rfl (jan _ _ n HN.o hB6) ?_) |(refine jag (vs:=n.cells) rfl rfl rfl rfl hB56 (by rw[HL.o];rfl) (by rw[HL.o];exact Tryz.szNode) n.one ?_;intro W8 hB8 hE8))
 refine bodyPost_ret (jax rfl rfl rfl (jap W8 _ n HN.o hB8)) rfl ?_;have hX6:Ext W W6:=(((HE3.o.trans HE5.o).trans hE5)).trans' hE6 (fun x hx e=>by have e:x=w5.heap.size:=e;have:=HE5.o.size;have:=HE3.o.size;omega)
 exact⟨rfl,hX6.trans' hE8 (fun x hx e=>by have e:x=W.heap.size:=e;omega)⟩
section
variable (w0:World) (s bm:Nat) (room:Int) (S:List Nd5) (rb:Nat)
structure RdS0:Prop where
 st:jaT w0 s bm room S
 nodes:jeK S
 new:w0.heap.size<=rb
def jph(f:Nat):Prop:=∀ n d,jbx (InlD d) n->∀ (W:World) (left:Nat),Ext w0 W->RdAt W rb s left->left<=f->left<=160->vQ 166 #[.pointer (some ⟨rb,0,none⟩),n.V] W (RdO W rb s (jbM (gRef S) f n left))
def RefC(f:Nat):Prop:=∀ r d,MayP (InlD d) r->∀ (W:World) (left:Nat),Ext w0 W->RdAt W rb s left->left<=f->left<=160->vQ 207 #[.pointer (some ⟨rb,0,none⟩),.string r] W (RdO W rb s ((gRef S r).bind fun m=>jbM (gRef S) f m left))
noncomputable def gHash(h:vB):Option jad:=(atL S h.data.toList).map fun x=>nodeOf x.2.2.text
def jwv(f:Nat):Prop:=∀ h,∀ (W:World) (left:Nat),Ext w0 W->RdAt W rb s left->left<=f->left<=160->vQ 120 #[.pointer (some ⟨rb,0,none⟩),.string h] W (RdO W rb s ((gHash S h).bind fun m=>jbM (gRef S) f m left))
end
theorem RdAt.ext{W W':World}{rb s left:Nat}(h:RdAt W rb s left)(e:Ext W W'):RdAt W' rb s left:=h.keeps e (fun e=>e)
theorem jqm(w0:World)(s bm:Nat)(room:Int)(S:List Nd5)(rb:Nat)(hR:RdS0 w0 s bm room S rb)(h:vB)(W:World)(left:Nat)(hE:Ext w0 W)(hr:RdAt W rb s left)(ha:atL S h.data.toList=none) :
  vQ 120 #[.pointer (some ⟨rb,0,none⟩),.string h] W (RdO W rb s none):=by
 have hat:=jpx W s bm room S (hR.st.ext hE) (.func (.func 165) #[] #[]) h ha;have HAT:=Hd hat;have HR:=Hd hr;unfold RdAt at hr;have q0:=hr.cell (i:=0) (v:=.pointer (some ⟨s,0,none⟩)) vF;clear hat hr hR hE ha;go_enter Tryz.func120,Tryz.ntmps120;go_wp2_with fail
 refine HAT.o.mono ?_;rintro e w1 ⟨rfl,hE⟩;have HE:=Hd hE;clear hE;unfold jad.V;go_wp2_with (first |(refine jah Tryz.allocNode rfl rfl ?_;intro W5 hB5 hE5;refine jag (vs:=jar.cells) rfl rfl rfl rfl hB5 rfl Tryz.szNode jar.one ?_;intro W6 hB6 hE6))
 go_ret2;have hX6:Ext W W6:=(HE.o.trans hE5).trans' hE6 (fun x hx e=>by have e:x=w1.heap.size:=e;have:=HE.o.size;omega)
 exact⟨hX6.mono (fun _ _ e=>e.elim),_,left,rfl,.inl rfl,HR.o.ext hX6⟩
theorem jql(w0:World)(s bm:Nat)(room:Int)(S:List Nd5)(rb:Nat)(hR:RdS0 w0 s bm room S rb)(f:Nat)(hN:jph w0 s S rb f)(h:vB)(W:World)(left:Nat)(hE:Ext w0 W)(hr:RdAt W rb s left)(hf:left<=f)(h160:left<=160)(y:Nd5)(ha:atL S h.data.toList=some y) :
  vQ 120 #[.pointer (some ⟨rb,0,none⟩),.string h] W (RdO W rb s (jbM (gRef S) f (nodeOf y.2.2.text) left)):=by
 obtain⟨n0,hn0⟩:=hR.nodes y (ja6 ha).1
 have hn:=jb9 hn0
 obtain⟨n,hnn⟩:=vE (nodeOf y.2.2.text)
 rw[<-hnn]at hn ⊢
 obtain⟨ht,d,hg⟩:=hn
 have hrl:=(hg.one (inlP d)).refs;have HRL:=Hd hrl;have HL:=Hd (n.cells_len hrl);have hat:=jyC W s bm room S (hR.st.ext hE) h y ha d n hg ht;have HAT:=Hd hat;have HR:=Hd hr;have HNC:=Hd (show ∀ w,Ext W w->vQ 166 #[.pointer (some ⟨rb,0,none⟩),n.V] w (RdO w rb s (jbM (gRef S) f n left))from fun w e=>hN n d hg w left (hE.trans e) (hr.ext e) hf h160);unfold RdAt at hr;have q0:=hr.cell (i:=0) (v:=.pointer (some ⟨s,0,none⟩)) vF
 obtain⟨o,ho⟩:=vE (jbM (gRef S) f n left)
 rw[<-ho]at HNC ⊢;clear hat hr hR hE ha hn0 hnn ht hg hrl hN ho;go_enter Tryz.func120,Tryz.ntmps120;go_wp2_with fail
 refine HAT.o.mono ?_;rintro e w1 ⟨rfl,hE⟩;have HE:=Hd hE;clear hE;unfold jad.V;go_wp2_with (first |(refine jah Tryz.allocNode rfl rfl ?_;intro W5 hB5 hE5;refine jag (vs:=n.cells) rfl rfl rfl rfl hB5 (by rw[HL.o];rfl) (by rw[HL.o];exact Tryz.szNode) n.one ?_;intro W6 hB6 hE6) |(refine jaf 144 (.tmp 6) rfl rfl _ _ rfl (jan _ _ n HRL.o hB6) ?_))
 have hX6:Ext W W6:=(HE.o.trans hE5).trans' hE6 (fun x hx e=>by have e:x=w1.heap.size:=e;have:=HE.o.size;omega);have HX:=Hd hX6;clear hX6 hB5 hE5 hB6 hE6;refine (HNC.o W6 HX.o).mono ?_;intro e w7 hO
 obtain⟨hk,hO2⟩:=hO
 cases o with
 | none =>
  obtain⟨v,l,rfl,hv,hr7⟩:=hO2
  have HZ:=Hd (And.intro hk (And.intro hv hr7));clear hk hr7;rcases hv with rfl |⟨T,x,rfl⟩
  ·go_wp2_with fail
   go_ret2
   exact⟨(HX.o.mono (fun _ _ e=>e.elim)).trans HZ.o.1,_,l,rfl,.inl rfl,HZ.o.2.2⟩
  ·go_wp2_with fail
   go_ret2
   exact⟨(HX.o.mono (fun _ _ e=>e.elim)).trans HZ.o.1,_,l,rfl,.inr ⟨T,x,rfl⟩,HZ.o.2.2⟩
 | some Pl =>
  obtain⟨P,l⟩:=Pl
  obtain⟨T,x,rfl,hP,hr7⟩:=hO2
  have HZ:=Hd (And.intro hk (And.intro hP hr7));clear hk hP hr7;go_wp2_with fail
  go_ret2
  exact⟨(HX.o.mono (fun _ _ e=>e.elim)).trans HZ.o.1,T,x,rfl,HZ.o.2.1.mono (fun z hz=>⟨Nat.le_trans HX.o.size hz.1,hz.2⟩),HZ.o.2.2⟩
theorem jrA(w0:World)(s bm:Nat)(room:Int)(S:List Nd5)(rb:Nat)(hR:RdS0 w0 s bm room S rb)(f:Nat)(hN:jph w0 s S rb f):jwv w0 s S rb f:=by
 intro h W left hE hr hf h160;unfold gHash;cases ha:atL S h.data.toList with
 | none=>exact jqm w0 s bm room S rb hR h W left hE hr ha
 | some y=>exact jql w0 s bm room S rb hR f hN h W left hE hr hf h160 y ha
end
section
open Go Go.RowKit
attribute [local go_sem] Oper.semAt_some
theorem jhP(r:vB):jjA r=jcB r:=by
 unfold jjA jcB;cases cutN r <;> rfl
theorem jtG(w0:World)(s:Nat)(S:List Nd5)(rb:Nat)(f:Nat)(hH:jwv w0 s S rb f)(r h:vB)(hrh:jcB r=some h)(hs:r.size<=1000)(W:World)(left:Nat)(hE:Ext w0 W)(hr:RdAt W rb s left)(hf:left<=f)(h160:left<=160) :
  vQ 207 #[.pointer (some ⟨rb,0,none⟩),.string r] W (RdO W rb s ((gHash S h).bind fun m=>jbM (gRef S) f m left)):=by
 have hany:=jff W r vO;rw[jhP,hrh]at hany;unfold optV at hany;have HA:=Hd hany;have HC:=Hd (show ∀ w,Ext W w->vQ 120 #[.pointer (some ⟨rb,0,none⟩),.string h] w (RdO w rb s ((gHash S h).bind fun m=>jbM (gRef S) f m left))from fun w e=>hH h w left (hE.trans e) (hr.ext e) hf h160)
 obtain⟨o,ho⟩:=vE ((gHash S h).bind fun m=>jbM (gRef S) f m left)
 rw[<-ho]at HC ⊢;clear hH hrh hs hE hr hf h160 hany ho;go_enter Tryz.func207,Tryz.ntmps207;go_wp2_with fail
 refine HA.o.mono ?_;rintro e w1 ⟨rfl,hE⟩;have HX:=Hd hE;clear hE;go_wp2_with fail
 refine (HC.o w1 HX.o).mono ?_;intro e w7 hO
 obtain⟨hk,hO2⟩:=hO
 cases o with
 | none =>
  obtain⟨v,l,rfl,hv,hr7⟩:=hO2
  have HZ:=Hd (And.intro hk (And.intro hv hr7));clear hk hr7;rcases hv with rfl |⟨T,x,rfl⟩
  ·go_wp2_with fail
   go_ret2
   exact⟨(HX.o.mono (fun _ _ e=>e.elim)).trans HZ.o.1,_,l,rfl,.inl rfl,HZ.o.2.2⟩
  ·go_wp2_with fail
   go_ret2
   exact⟨(HX.o.mono (fun _ _ e=>e.elim)).trans HZ.o.1,_,l,rfl,.inr ⟨T,x,rfl⟩,HZ.o.2.2⟩
 | some Pl =>
  obtain⟨P,l⟩:=Pl
  obtain⟨T,x,rfl,hP,hr7⟩:=hO2
  have HZ:=Hd (And.intro hk (And.intro hP hr7));clear hk hP hr7;go_wp2_with fail
  go_ret2
  exact⟨(HX.o.mono (fun _ _ e=>e.elim)).trans HZ.o.1,T,x,rfl,HZ.o.2.1.mono (fun z hz=>⟨Nat.le_trans HX.o.size hz.1,hz.2⟩),HZ.o.2.2⟩
theorem jvP(w0:World)(s:Nat)(S:List Nd5)(rb:Nat)(f:Nat)(hN:jph w0 s S rb f)(r:vB)(d:Nat)(n:jad)(hi:InlD (d+1) r n)(hs:r.size<=1000)(W:World)(left:Nat)(hE:Ext w0 W)(hr:RdAt W rb s left)(hf:left<=f)(h160:left<=160) :
  vQ 207 #[.pointer (some ⟨rb,0,none⟩),.string r] W (RdO W rb s (jbM (gRef S) f n left)):=by
 have hany:=jff W r vO;rw[jhP,jdw (inlP (d+1)) hi]at hany;unfold optV at hany;have HA:=Hd hany;have hrl:=(hi.1.one (inlP d)).refs;have HRL:=Hd hrl;have HL:=Hd (n.cells_len hrl);have HI:=Hd (fun w=>(inlP (d+1)).inl r n hi w);have HNC:=Hd (show ∀ w,Ext W w->vQ 166 #[.pointer (some ⟨rb,0,none⟩),n.V] w (RdO w rb s (jbM (gRef S) f n left))from fun w e=>hN n d hi.1 w left (hE.trans e) (hr.ext e) hf h160)
 obtain⟨o,ho⟩:=vE (jbM (gRef S) f n left)
 rw[<-ho]at HNC ⊢;clear hN hi hs hE hr hf h160 hany hrl ho;go_enter Tryz.func207,Tryz.ntmps207;go_wp2_with fail
 refine HA.o.mono ?_;rintro e w0' ⟨rfl,hE0⟩;have HE0:=Hd hE0;clear hE0;go_wp2_with fail
 refine vC (HI.o w0') fun w1 hE=>?_;have HE:=Hd (HE0.o.trans hE);clear hE;unfold jad.V;go_wp2_with (first |(refine jah Tryz.allocNode rfl rfl ?_;intro W5 hB5 hE5;refine jag (vs:=n.cells) rfl rfl rfl rfl hB5 (by rw[HL.o];rfl) (by rw[HL.o];exact Tryz.szNode) n.one ?_;intro W6 hB6 hE6) |(refine jaf 144 (.tmp 8) rfl rfl _ _ rfl (jan _ _ n HRL.o hB6) ?_))
 have hX6:Ext W W6:=(HE.o.trans hE5).trans' hE6 (fun x hx e=>by have e:x=w1.heap.size:=e;have:=HE.o.size;omega);have HX:=Hd hX6;clear hX6 hB5 hE5 hB6 hE6;refine (HNC.o W6 HX.o).mono ?_;intro e w7 hO
 obtain⟨hk,hO2⟩:=hO
 cases o with
 | none =>
  obtain⟨v,l,rfl,hv,hr7⟩:=hO2
  have HZ:=Hd (And.intro hk (And.intro hv hr7));clear hk hr7;rcases hv with rfl |⟨T,x,rfl⟩
  ·go_wp2_with fail
   go_ret2
   exact⟨(HX.o.mono (fun _ _ e=>e.elim)).trans HZ.o.1,_,l,rfl,.inl rfl,HZ.o.2.2⟩
  ·go_wp2_with fail
   go_ret2
   exact⟨(HX.o.mono (fun _ _ e=>e.elim)).trans HZ.o.1,_,l,rfl,.inr ⟨T,x,rfl⟩,HZ.o.2.2⟩
 | some Pl =>
  obtain⟨P,l⟩:=Pl
  obtain⟨T,x,rfl,hP,hr7⟩:=hO2
  have HZ:=Hd (And.intro hk (And.intro hP hr7));clear hk hP hr7;go_wp2_with fail
  go_ret2
  exact⟨(HX.o.mono (fun _ _ e=>e.elim)).trans HZ.o.1,T,x,rfl,HZ.o.2.1.mono (fun z hz=>⟨Nat.le_trans HX.o.size hz.1,hz.2⟩),HZ.o.2.2⟩
theorem jxW(w0:World)(s bm:Nat)(room:Int)(S:List Nd5)(rb:Nat)(hR:RdS0 w0 s bm room S rb)(f:Nat)(hN:jph w0 s S rb f):RefC w0 s S rb f:=by
 intro r d hm W left hE hr hf h160;have hs:r.size<=1000:=by have:=hm.size (inlP d);omega
 unfold gRef;rcases hm with hh |⟨m,hi⟩
 ·obtain⟨h,h1,h2⟩:=hh
  have hrr:jcB r=some h:=by rw[h2];exact jdZ h1
  rw[hrr];exact jtG w0 s S rb f (jrA w0 s bm room S rb hR f hN) r h hrr hs W left hE hr hf h160
 ·cases d with
  | zero=>exact hi.elim
  | succ d =>
   rw[jdw (inlP (d+1)) hi];show Calls _ _ _ W (RdO W rb s (jbM (gRef S) f (inlOf r) left));rw[jjF w0 hi];exact jvP w0 s S rb f hN r d m hi hs W left hE hr hf h160
theorem jlc(W:World)(rb s:Nat)(n:jad)(hr:RdAt W rb s 0):vQ 166 #[.pointer (some ⟨rb,0,none⟩),n.V] W (RdO W rb s none):=by
 have hrb:=hr.lt;have hA:=hr.ext ((ExtR W).alloc (.cells n.cells.toArray 144));have HA:=Hd hA;unfold RdAt at hA;have q1:=hA.cell (i:=1) (v:=.int .i64 0) vF;clear hA hr;unfold jad.V;go_enter Tryz.func166,Tryz.ntmps166;go_wp2_with fail
 go_ret2
 exact⟨((ExtR W).alloc _).mono (fun _ _ e=>e.elim),_,0,rfl,.inl rfl,HA.o⟩
theorem jq1(W:World)(rb s k:Nat)(hk:k<=160)(q v:vB)(rs:List vB)(hr:RdAt W rb s (k+1)):vQ 166 #[.pointer (some ⟨rb,0,none⟩),(jad.mk 1 q v rs).V] W (RdO W rb s (some (.leaf q v,k))):=by
 have hrb:=hr.lt;have hne:W.heap.size≠rb:=by omega
 obtain⟨W1,hW1⟩:=vE (W.setCell ⟨rb,1,none⟩ (.int .i64 (k:Int)))
 obtain⟨W2,hW2⟩:=vE (W1.alloc (.cells (jad.cells ⟨1,q,v,rs⟩).toArray 144))
 have hr1:RdAt W1 rb s k:=by rw[hW1];exact Blk.set_same (i:=1) hr _
 have hs1:W1.heap.size=W.heap.size:=by rw[hW1];exact World.size_setCell _ _ _
 have hE12:Ext W1 W2:=by rw[hW2];exact (ExtR W1).alloc _
 have hB2:Blk W2 W.heap.size (.cells (jad.cells ⟨1,q,v,rs⟩).toArray 144):=by rw[<-hs1,hW2];exact Blk.new W1 _
 have hr2:RdAt W2 rb s k:=hr1.ext hE12;have hK2:jae (fun z=>z=rb) W W2:=(show jae (fun z=>z=rb) W W1 by rw[hW1];exact jae.oneSet _ ⟨rb,1,none⟩ _).trans (hE12.mono (fun _ _ e=>e.elim));have HR2:=Hd (And.intro hr2 (And.intro hK2 hB2));have hA:=hr.ext ((ExtR W).alloc (.cells (jad.cells ⟨1,q,v,rs⟩).toArray 144));unfold RdAt at hA;have q1:=hA.cell (i:=1) (v:=.int .i64 ((k:Int)+1)) vF;have f1:(W.alloc (.cells (jad.cells ⟨1,q,v,rs⟩).toArray 144)).frozen? ⟨rb,1,none⟩=false:=hA.frozen;have e0:(jad.cells ⟨1,q,v,rs⟩)[0]?=some (.int .i64 1):=rfl;have e1:(jad.cells ⟨1,q,v,rs⟩)[1]?=some (.string q):=rfl;have e2:(jad.cells ⟨1,q,v,rs⟩)[2]?=some (.string v):=rfl;have HW:=Hd (And.intro hW1 hW2);clear hr hA hr1 hE12 hr2 hK2 hB2 hW1 hW2;unfold jad.V;go_enter Tryz.func166,Tryz.ntmps166;go_wp2_with fail
 go_ret2
 obtain⟨hW1,hW2⟩:=HW.o
 rw[<-hW1, <-hW2]
 obtain⟨hr2,hK2,hB2⟩:=HR2.o
 have hE3:Ext W2 (W2.alloc (.cells #[.string q,.string v] 283)):=(ExtR W2).alloc _;have hB3:=Blk.new W2 (.cells #[.string q,.string v] 283);have hz:W2.heap.size=W.heap.size+1:=by rw[hW2,World.size_alloc,hs1]
 have hb3:Blk (W2.alloc (.cells #[.string q,.string v] 283)) (W.heap.size+1) (.cells #[.string q,.string v] 283):=by rw[<-hz];exact hB3
 exact⟨hK2.trans (hE3.mono (fun _ _ e=>e.elim)),_,_,rfl,⟨_,rfl,⟨Nat.le_succ _,hb3.lt⟩,hb3⟩,hr2.ext hE3⟩
theorem jq2(W:World)(rb s k:Nat)(hk:k<=160)(q v:vB)(rs:List vB)(hr:RdAt W rb s (k+1)):vQ 166 #[.pointer (some ⟨rb,0,none⟩),(jad.mk 0 q v rs).V] W (RdO W rb s (some (.no,k))):=by
 have hrb:=hr.lt;have hne:W.heap.size≠rb:=by omega
 obtain⟨W1,hW1⟩:=vE (W.setCell ⟨rb,1,none⟩ (.int .i64 (k:Int)))
 obtain⟨W2,hW2⟩:=vE (W1.alloc (.cells (jad.cells ⟨0,q,v,rs⟩).toArray 144))
 have hr1:RdAt W1 rb s k:=by rw[hW1];exact Blk.set_same (i:=1) hr _
 have hs1:W1.heap.size=W.heap.size:=by rw[hW1];exact World.size_setCell _ _ _
 have hE12:Ext W1 W2:=by rw[hW2];exact (ExtR W1).alloc _
 have hB2:Blk W2 W.heap.size (.cells (jad.cells ⟨0,q,v,rs⟩).toArray 144):=by rw[<-hs1,hW2];exact Blk.new W1 _
 have hr2:RdAt W2 rb s k:=hr1.ext hE12;have hK2:jae (fun z=>z=rb) W W2:=(show jae (fun z=>z=rb) W W1 by rw[hW1];exact jae.oneSet _ ⟨rb,1,none⟩ _).trans (hE12.mono (fun _ _ e=>e.elim));have HR2:=Hd (And.intro hr2 (And.intro hK2 hB2));have hA:=hr.ext ((ExtR W).alloc (.cells (jad.cells ⟨0,q,v,rs⟩).toArray 144));unfold RdAt at hA;have q1:=hA.cell (i:=1) (v:=.int .i64 ((k:Int)+1)) vF;have f1:(W.alloc (.cells (jad.cells ⟨0,q,v,rs⟩).toArray 144)).frozen? ⟨rb,1,none⟩=false:=hA.frozen;have e0:(jad.cells ⟨0,q,v,rs⟩)[0]?=some (.int .i64 0):=rfl;have HW:=Hd (And.intro hW1 hW2);clear hr hA hr1 hE12 hr2 hK2 hB2 hW1 hW2;unfold jad.V;go_enter Tryz.func166,Tryz.ntmps166;go_wp2_with fail
 go_ret2
 obtain⟨hW1,hW2⟩:=HW.o
 rw[<-hW1, <-hW2]
 obtain⟨hr2,hK2,hB2⟩:=HR2.o
 exact⟨hK2,_,_,rfl,rfl,hr2⟩
theorem jto(w0:World)(s:Nat)(S:List Nd5)(rb f:Nat)(hRef:RefC w0 s S rb f)(hnew:w0.heap.size<=rb)(W:World)(k:Nat)(hE0:Ext w0 W)(hk:k<=f)(h160:k<=159)(q v r:vB)(rs:List vB)(d:Nat)(hm:MayP (InlD d) r)(hr:RdAt W rb s (k+1)):vQ 166 #[.pointer (some ⟨rb,0,none⟩),(jad.mk 2 q v (r :: rs)).V] W (RdO W rb s ((gRef S r).bind fun m=>(jbM (gRef S) f m k).map fun x=>(.ext q x.1,x.2))):=by
 have hrb:=hr.lt;have hne:W.heap.size≠rb:=by omega
 obtain⟨W1,hW1⟩:=vE (W.setCell ⟨rb,1,none⟩ (.int .i64 (k:Int)))
 obtain⟨W2,hW2⟩:=vE (W1.alloc (.cells (jad.cells ⟨2,q,v,r :: rs⟩).toArray 144))
 have hr1:RdAt W1 rb s k:=by rw[hW1];exact Blk.set_same (i:=1) hr _
 have hs1:W1.heap.size=W.heap.size:=by rw[hW1];exact World.size_setCell _ _ _
 have hE12:Ext W1 W2:=by rw[hW2];exact (ExtR W1).alloc _
 have hB2:Blk W2 W.heap.size (.cells (jad.cells ⟨2,q,v,r :: rs⟩).toArray 144):=by rw[<-hs1,hW2];exact Blk.new W1 _
 have hr2:RdAt W2 rb s k:=hr1.ext hE12;have hK2:jae (fun z=>z=rb) W W2:=(show jae (fun z=>z=rb) W W1 by rw[hW1];exact jae.oneSet _ ⟨rb,1,none⟩ _).trans (hE12.mono (fun _ _ e=>e.elim));have HR2:=Hd (And.intro hr2 (And.intro hK2 hB2));have hA:=hr.ext ((ExtR W).alloc (.cells (jad.cells ⟨2,q,v,r :: rs⟩).toArray 144));unfold RdAt at hA;have q1:=hA.cell (i:=1) (v:=.int .i64 ((k:Int)+1)) vF;have f1:(W.alloc (.cells (jad.cells ⟨2,q,v,r :: rs⟩).toArray 144)).frozen? ⟨rb,1,none⟩=false:=hA.frozen;have e0:(jad.cells ⟨2,q,v,r :: rs⟩)[0]?=some (.int .i64 2):=rfl;have e1:(jad.cells ⟨2,q,v,r :: rs⟩)[1]?=some (.string q):=rfl;have e3:(jad.cells ⟨2,q,v,r :: rs⟩)[3]?=some (.string r):=rfl;have hEw:Ext w0 W2:=hE0.trans' hK2 (fun x hx e=>by have e:x=rb:=e;omega);have HC:=Hd (hRef r d hm W2 k hEw hr2 hk vO);have hrl:(jad.cells ⟨2,q,v,r :: rs⟩).toArray.size=(jad.cells ⟨2,q,v,r :: rs⟩).length:=by simp
 have hbnd:rb < W2.heap.size:=hr2.lt;have HBD:=Hd hbnd
 obtain⟨o,ho⟩:=vE ((gRef S r).bind fun m=>jbM (gRef S) f m k)
 have hoo:((gRef S r).bind fun m=>(jbM (gRef S) f m k).map fun x=>(PA.ext q x.1,x.2))=o.map fun x=>(PA.ext q x.1,x.2):=by
  rw[ho];cases gRef S r with
  | none=>rfl
  | some m=>rfl
 rw[<-ho]at HC;rw[hoo];have HW:=Hd (And.intro hW1 hW2);have hs2:W2.heap.size=W.heap.size+1:=by rw[hW2,World.size_alloc,hs1]
 have HS2:=Hd hs2;have hr0:=hr;clear hRef hnew hE0 hm hr hA hr1 hE12 hr2 hK2 hB2 hEw ho hoo hs2 hrl hbnd hr0;unfold jad.V;go_enter Tryz.func166,Tryz.ntmps166;go_wp2_with fail
 rw[<-hW1, <-hW2];clear hW1 hW2 q1 f1;refine HC.o.mono ?_;intro e w7 hO
 obtain⟨hk7,hO2⟩:=hO
 have hB7:=HR2.o.2.2.keeps hk7 (fun e=>hne (by exact e));have q7:=hB7.cellL (i:=1) e1;have HK7:=Hd (HR2.o.2.1.trans hk7);have hz2:=HR2.o.2.2.lt;have HZ2:=Hd (show W.heap.size<=w7.heap.size/\W.heap.size+1=W2.heap.size/\W2.heap.size<=w7.heap.size from⟨Nat.le_trans (Nat.le_of_lt hz2) hk7.size,HS2.o.symm,hk7.size⟩);clear hk7 hB7 hz2;cases o with
 | none =>
  obtain⟨v7,l,rfl,hv,hr7⟩:=hO2
  have HZ:=Hd hr7;clear hr7;rcases hv with rfl |⟨T,x,rfl⟩
  ·go_wp2_with fail
   go_ret2
   exact⟨HK7.o.trans (((ExtR w7).alloc _).mono (fun _ _ e=>e.elim)),_,l,rfl,.inr ⟨_,_,rfl⟩,HZ.o.ext ((ExtR w7).alloc _)⟩
  ·go_wp2_with fail
   go_ret2
   exact⟨HK7.o.trans (((ExtR w7).alloc _).mono (fun _ _ e=>e.elim)),_,l,rfl,.inr ⟨_,_,rfl⟩,HZ.o.ext ((ExtR w7).alloc _)⟩
 | some Pl =>
  obtain⟨P,l⟩:=Pl
  obtain⟨T,x,rfl,hP,hr7⟩:=hO2
  have HZ:=Hd (And.intro hP hr7);clear hP hr7;go_wp2_with fail
  go_ret2
  obtain⟨hP,hr7⟩:=HZ.o
  have hE8:Ext w7 (w7.alloc (.cells #[.string q,.iface T x] 286)):=(ExtR w7).alloc _;have hB8:=Blk.new w7 (.cells #[.string q,.iface T x] 286)
  obtain⟨z1,z2,z3⟩:=HZ2.o
  refine⟨HK7.o.trans (hE8.mono (fun _ _ e=>e.elim)),_,_,rfl,⟨_,T,x,jko W2 w7,rfl,⟨by omega,hB8.lt⟩,hB8,hP.keeps hE8 _ _ _ (fun _ _ e=>e),fun e=>by have:=e.2;omega,fun z hz=>⟨by have:=hz.1;omega,Nat.lt_of_lt_of_le hz.2 hE8.size⟩⟩,hr7.ext hE8⟩
theorem ji4{R:jad->Nat->Option (PA × Nat)}{G:vB->Option jad}{rs:List vB}{k left:Nat}(h:jeZ R G rs k left=none):∀ d,jeZ R G rs (k+d) left=none
 | 0=>h
 | d+1=>by
  show jeZ R G rs (k+d+1) left=none;rw[jfj,ji4 h d];rfl
structure jwD(W:World)(rb s bb:Nat)(G:vB->Option jad)(R:jad->Nat->Option (PA × Nat))(v:vB)(rs:List vB)(left:Nat)(iv:Value)(wr:World)(k:Nat)(ks:Nat->PA)(l:Nat)(vk:Nat->Value)(Dk:Nat->Nat->Prop)(D:Nat->Prop):Prop where
 le:k<=16
 iv:iv=.int .i64 (k:Int)
 rd:jeZ R G rs k left=some (ks,l)
 br:BrAt v ks bb vk Dk D wr
 since:∀ z,D z->W.heap.size<=z
 rdr:RdAt wr rb s l
 kp:jae (fun z=>z=rb) W wr
theorem jj7{W:World}{b:Nat}{n:jad}(hr:n.refs.length=16)(hB:Blk W b (.cells n.cells.toArray 144)):(Instr.loadAt 142 (.pointer (some ⟨b,3,none⟩))).run Tryz.prog W=.ok (.agg (n.refs.map Value.string).toArray) W:=by
 have hrg:W.rangeAt b 3 (n.refs.map Value.string):=fun j v hv=>hB.cellL (by
  unfold jad.cells;rw[show 3+j=j+3 by omega];simpa using hv)
 have hld:=run_loadVar_mid (P:=Tryz.prog) W b 3 142 _ _ hrg Tryz.uRefs rfl (by simp only[List.length_map,hr];exact Tryz.iRefs);simp[Instr.loadAt,Instr.sureAddr,Sem.run_bind,Result.andThen,hld]
theorem jvE(w0:World)(s:Nat)(S:List Nd5)(rb f:Nat)(hRef:RefC w0 s S rb f)(hnew:w0.heap.size<=rb)(W:World)(k0:Nat)(hE0:Ext w0 W)(hk:k0<=f)(h160:k0<=159)(q v:vB)(rs:List vB)(d:Nat)(hrl:rs.length=16)(hm:∀ r∈rs,r.size≠0->MayP (InlD d) r)(hr:RdAt W rb s (k0+1)):vQ 166 #[.pointer (some ⟨rb,0,none⟩),(jad.mk 3 q v rs).V] W (RdO W rb s ((jeZ (jbM (gRef S) f) (gRef S) rs 16 k0).map fun x=>(.br v x.1,x.2))):=by
 have hrb:=hr.lt;have hne:W.heap.size≠rb:=by omega
 obtain⟨W1,hW1⟩:=vE (W.setCell ⟨rb,1,none⟩ (.int .i64 (k0:Int)))
 obtain⟨W2,hW2⟩:=vE (W1.alloc (.cells (jad.cells ⟨3,q,v,rs⟩).toArray 144))
 have hr1:RdAt W1 rb s k0:=by rw[hW1];exact Blk.set_same (i:=1) hr _
 have hs1:W1.heap.size=W.heap.size:=by rw[hW1];exact World.size_setCell _ _ _
 have hE12:Ext W1 W2:=by rw[hW2];exact (ExtR W1).alloc _
 have hB2:Blk W2 W.heap.size (.cells (jad.cells ⟨3,q,v,rs⟩).toArray 144):=by rw[<-hs1,hW2];exact Blk.new W1 _
 have hr2:RdAt W2 rb s k0:=hr1.ext hE12;have hK2:jae (fun z=>z=rb) W W2:=(show jae (fun z=>z=rb) W W1 by rw[hW1];exact jae.oneSet _ ⟨rb,1,none⟩ _).trans (hE12.mono (fun _ _ e=>e.elim));have HR2:=Hd (And.intro hr2 (And.intro hK2 hB2));have hA:=hr.ext ((ExtR W).alloc (.cells (jad.cells ⟨3,q,v,rs⟩).toArray 144));unfold RdAt at hA;have q1:=hA.cell (i:=1) (v:=.int .i64 ((k0:Int)+1)) vF;have f1:(W.alloc (.cells (jad.cells ⟨3,q,v,rs⟩).toArray 144)).frozen? ⟨rb,1,none⟩=false:=hA.frozen;have e0:(jad.cells ⟨3,q,v,rs⟩)[0]?=some (.int .i64 3):=rfl;have e2:(jad.cells ⟨3,q,v,rs⟩)[2]?=some (.string v):=rfl
 obtain⟨W3,hW3⟩:=vE (W2.alloc (.cells #[.string v,.nilIface,.nilIface,.nilIface,.nilIface,.nilIface,.nilIface,.nilIface,.nilIface,.nilIface,.nilIface,.nilIface,.nilIface,.nilIface,.nilIface,.nilIface,.nilIface] 290))
 have hE23:Ext W2 W3:=by rw[hW3];exact (ExtR W2).alloc _
 have hs2:W2.heap.size=W.heap.size+1:=by rw[hW2,World.size_alloc,hs1]
 have hB3:Blk W3 (W.heap.size+1) (.cells (brC v (fun _=>.nilIface)).toArray 290):=by rw[<-hs2,hW3];exact Blk.new W2 _
 have hbr:BrAt v (fun _=>.nil) (W.heap.size+1) (fun _=>.nilIface) (fun _ _=>False) (fun x=>x=W.heap.size+1) W3:=
  ⟨rfl,hB3,fun i _=>⟨rfl,fun e=>e,fun _ e=>e.elim⟩,fun _ _ _ _ _ _ e=>e.elim,fun x e=>by rw[e];exact hB3.lt⟩
 have hla:=jj7 (n:=⟨3,q,v,rs⟩) hrl (hB2.keeps hE23 (fun e=>e));have HST:=Hd (show jwD W rb s (W.heap.size+1) (gRef S) (jbM (gRef S) f) v rs k0 (.int .i64 0) W3 0 (fun _=>.nil) k0 (fun _=>.nilIface) (fun _ _=>False) (fun x=>x=W.heap.size+1)from⟨by omega,rfl,rfl,hbr,fun z e=>by rw[e];omega,hr2.ext hE23,hK2.trans (hE23.mono (fun _ _ e=>e.elim))⟩);have HREF:=Hd hRef;have HM:=Hd hm;have HRL:=Hd hrl;have HE0:=Hd hE0;have HNW:=Hd hnew;have HRB:=Hd hrb;have HF:=Hd hk
 obtain⟨o,ho⟩:=vE ((jeZ (jbM (gRef S) f) (gRef S) rs 16 k0).map fun x=>(PA.br v x.1,x.2))
 have HO:=Hd ho;rw[<-ho];have HW:=Hd (And.intro hW1 (And.intro hW2 hW3));have HBB:=Hd (show W.heap.size+1≠rb by omega);rw[hW3,hW2,hW1]at hla;clear hRef hnew hE0 hm hr hA hr1 hE12 hr2 hK2 hB2 hW1 hW2 hW3 hE23 hB3 hbr hrl ho hs2 hk;unfold jad.V;go_enter Tryz.func166,Tryz.ntmps166;go_wp2_with (refine jaf 142 (.tmp 59) rfl rfl _ _ rfl hla ?_)
 obtain⟨hW1,hW2,hW3⟩:=HW.o
 rw[<-hW1, <-hW2, <-hW3]
 obtain⟨bb,hbb⟩:=vE (W.heap.size+1)
 rw[<-hbb]at HST HBB ⊢;clear hW1 hW2 hW3 HW hla q1 f1 hs1 hbb HR2;go_loopw [61] (fun iv wr=>∃ k ks l vk Dk D,jwD W rb s bb (gRef S) (jbM (gRef S) f) v rs k0 iv wr k ks l vk Dk D) (fun iv _=>16 - (intOf iv).toNat)
 case atStart=>exact⟨0,_,_,_,_,_,HST.o⟩
 case round =>
  obtain⟨k,ks,l,vk,Dk,D,h⟩:=hrel
  obtain⟨hle,rfl,hrd,hbr,hsi,hrr,hkp⟩:=h
  have HRD:=Hd hrd;have HBR:=Hd hbr;have HSI:=Hd hsi;have HRR:=Hd hrr;have HKP:=Hd hkp;clear hrd hbr hsi hrr hkp
  by_cases hlt:k < 16
  ·obtain⟨r,hri⟩:∃ r,rs[k]?=some r:=⟨_,List.getElem?_eq_getElem (by have:=HRL.o;omega)⟩
   have hix:(Instr.index 142 (.agg (rs.map Value.string).toArray) (.int .i64 (k:Int))).run Tryz.prog wr=.ok (.string r) wr:=jew Tryz.uRefs Tryz.strOne Tryz.strAgg _ k hlt _ (by rw[List.getElem?_map,hri];rfl) wr;have hgd:rs.getD k ⟨#[]⟩=r:=by rw[List.getD_eq_getElem?_getD,hri];rfl
   have hst:=jfj (jbM (gRef S) f) (gRef S) rs k k0;rw[HRD.o,hgd]at hst;have hst:jeZ (jbM (gRef S) f) (gRef S) rs (k+1) k0=if r.size=0 then some (ks,l)else (gRef S r).bind fun m=>(jbM (gRef S) f m l).map fun y=>(setK ks k y.1,y.2):=hst
   by_cases hr0:r.size=0
   ·rw[if_pos hr0]at hst
    have hre:=jbh hr0;subst hre;have hem:(⟨#[]⟩:vB).toList.isEmpty=true:=by rw[ByteArray.toList_eq];rfl
    have HSP:=Hd hst;clear hst hri hr0 hgd;go_wp2;go_roundw
    case rel=>exact⟨k+1,ks,l,vk,Dk,D,by omega,by go_num,HSP.o,HBR.o,HSI.o,HRR.o,HKP.o⟩
    case measure=>simp[intOf];omega
   ·rw[if_neg hr0]at hst
    have hne2:=jcT hr0;have hEr:Ext w0 wr:=HE0.o.trans' HKP.o (fun x hx e=>by have e:x=rb:=e;have:=HNW.o;omega);have hll:l<=k0:=jjX (fun m l y h=>Nat.le_trans (jjY (gRef S) f m l y h) (Nat.sub_le _ _)) k k0 _ HRD.o;have HC:=Hd (HREF.o r d (HM.o r (List.mem_of_getElem? hri) hr0) wr l hEr HRR.o (by have:=HF.o;omega) vO)
    obtain⟨o1,ho1⟩:=vE ((gRef S r).bind fun m=>jbM (gRef S) f m l)
    rw[<-ho1]at HC;have hst2:jeZ (jbM (gRef S) f) (gRef S) rs (k+1) k0=o1.map fun y=>(setK ks k y.1,y.2):=by
     rw[hst,ho1];cases gRef S r with
     | none=>rfl
     | some m=>rfl
    have HSP:=Hd hst2;have HBL:=Hd (HBR.o.lt bb HBR.o.mem);clear hst hst2 hri hr0 hgd hEr hll ho1;go_wp2_with fail
    refine HC.o.mono ?_;intro e w7 hO
    obtain⟨hk7,hO2⟩:=hO
    have HK7:=Hd hk7;clear hk7;cases o1 with
    | none =>
     obtain⟨v7,l7,rfl,hv,hr7⟩:=hO2
     have HZ:=Hd hr7;clear hr7;have HON:=Hd (show o=none by
      rw[HO.o]
      have:=ji4 (k:=k+1) HSP.o (15 - k)
      rw[show k+1+(15 - k)=16 by omega]at this;rw[this];rfl)
     rcases hv with rfl |⟨T,x,rfl⟩
     ·go_wp2_with fail
      go_ret2;rw[HON.o]
      exact⟨HKP.o.trans HK7.o,_,l7,rfl,.inl rfl,HZ.o⟩
     ·go_wp2_with fail
      go_ret2;rw[HON.o]
      exact⟨HKP.o.trans HK7.o,_,l7,rfl,.inl rfl,HZ.o⟩
    | some Pl =>
     obtain⟨P,l7⟩:=Pl
     obtain⟨T,x,rfl,hP,hr7⟩:=hO2
     have hrbD:∀ z,D z->¬ z=rb:=fun z hz e=>by have:=HSI.o z hz;have:=HRB.o;omega
     have hb7:=HBR.o.keeps HK7.o (fun z hz=>hrbD z hz);have hg:=hb7.give hlt hP (fun z hz=>⟨fun e=>by have:=HBR.o.lt z e;have:=hz.1;omega,hz.2⟩)
     obtain⟨W8,hW8⟩:=vE (w7.setCell ⟨bb,1+k,none⟩ (.iface T x))
     rw[<-hW8]at hg;have hk8:jae (fun z=>z=bb) w7 W8:=by rw[hW8];exact jae.oneSet w7 ⟨bb,1+k,none⟩ (.iface T x)
     have hr8:RdAt W8 rb s l7:=hr7.keeps hk8 (fun e=>HBB.o e.symm);have hk9:jae (fun z=>z=rb) W W8:=(HKP.o.trans HK7.o).trans' hk8 (fun z hz e=>by have e:z=bb:=e;have:=HSI.o bb HBR.o.mem;omega)
     obtain⟨old,q7⟩:∃ v,w7.cell? ⟨bb,1+k,none⟩=some v:=⟨_,hb7.blk.cellL (List.getElem?_eq_getElem (by rw[jgo];omega))⟩
     have f7:w7.frozen? ⟨bb,1+k,none⟩=false:=hb7.blk.frozen;have HG:=Hd (And.intro hg (And.intro hr8 (And.intro hk9 (show ∀ z,(D z\/jko wr w7 z)->W.heap.size<=z from fun z hz=>hz.elim (HSI.o z) (fun e=>Nat.le_trans HKP.o.size e.1)))));have HW8:=Hd hW8;clear hP hr7 hrbD hb7 hg hk8 hr8 hk9 hW8;go_wp2_with fail
     rw[<-HW8.o];clear q7 f7;go_roundw
     case rel=>exact⟨k+1,_,l7,_,_,_,by omega,by go_num,HSP.o,HG.o.1,HG.o.2.2.2,HG.o.2.1,HG.o.2.2.1⟩
     case measure=>simp[intOf];omega
  ·obtain rfl:k=16:=by omega
   go_wp2_with fail
   go_ret2;rw[HO.o,HRD.o]
   exact⟨HKP.o,_,_,rfl,HBR.o.pa.at'.mono (fun z hz=>⟨HSI.o z hz,HBR.o.lt z hz⟩),HRR.o⟩
theorem jrD(w0:World)(s bm:Nat)(room:Int)(S:List Nd5)(rb:Nat)(hR:RdS0 w0 s bm room S rb):∀ f,jph w0 s S rb f
 | 0=>fun n d hg W left hE hr hf h160=>by
  obtain rfl:left=0:=by omega
  rw[ji5];exact jlc W rb s n hr
 | f+1=>fun n d hg W left hE hr hf h160=>by
  have hRef:=jxW w0 s bm room S rb hR f (jrD w0 s bm room S rb hR f);cases left with
  | zero =>
   rw[ji5];exact jlc W rb s n hr
  | succ k =>
   rw[jd9,if_neg (Nat.succ_ne_zero k)];cases hg with
   | none=>exact jq2 W rb s k vO _ _ _ hr
   | leaf p v h1 h2 h3=>exact jq1 W rb s k vO p v _ hr
   | ext p r h1 h2 h3 =>
    have hm:MayP (InlD d) r:=h3.imp id (fun ⟨m,hm,_⟩=>⟨m,hm⟩);exact jto w0 s S rb f hRef hR.new W k hE vO vO p ⟨#[]⟩ r (jam 15) d hm hr
   | branch v rs h1 h2 h3 h4=>exact jvE w0 s S rb f hRef hR.new W k hE vO vO ⟨#[]⟩ v rs d h1 h3 hr
def jyt(W:World)(o:Option (PA × Nat))(e:Ending)(w':World):Prop:=Ext W w'/\match o with
 | some (P,_)=>∃ T x,e=.returned (.tuple #[.iface T x,.bool true])/\PaAt P (.iface T x) (jko W w') w'
 | none=>∃ v,e=.returned (.tuple #[v,.bool false])/\(v=.nilIface\/∃ T x,v=.iface T x)
noncomputable def readR(S:List Nd5)(root:vB):Option (PA × Nat):=(gHash S root).bind fun m=>jbM (gRef S) 160 m 160
theorem jwb(W:World)(s bm:Nat)(room:Int)(S:List Nd5)(hs:jaT W s bm room S)(hN:jeK S)(root:vB) :
  vQ 71 #[.pointer (some ⟨s,0,none⟩),.string root] W (jyt W (readR S root)):=by
 obtain⟨W1,hW1⟩:=vE (W.alloc (.cells #[.pointer (some ⟨s,0,none⟩),.int .i64 160] 181))
 have hE1:Ext W W1:=by rw[hW1];exact (ExtR W).alloc _
 have hr1:RdAt W1 W.heap.size s 160:=by rw[hW1];exact Blk.new W _
 have hR:RdS0 W s bm room S W.heap.size:=⟨hs,hN,Nat.le_refl _⟩;have hH:=jrA W s bm room S W.heap.size hR 160 (jrD W s bm room S W.heap.size hR 160) root W1 160 hE1 hr1 (Nat.le_refl _) (Nat.le_refl _)
 obtain⟨o,ho⟩:=vE (readR S root)
 have hH:vQ 120 #[.pointer (some ⟨W.heap.size,0,none⟩),.string root] W1 (RdO W1 W.heap.size s o):=by rw[ho];exact hH
 have HC:=Hd hH;have HE:=Hd hE1;have HW:=Hd hW1;rw[<-ho];clear hs hN hr1 hR hH ho hE1 hW1;go_enter Tryz.func71,Tryz.ntmps71;go_wp2_with fail
 rw[<-HW.o];refine HC.o.mono ?_;intro e w7 hO
 obtain⟨hk,hO2⟩:=hO
 have hX:Ext W w7:=HE.o.trans' hk (fun x hx e=>by have e:x=W.heap.size:=e;omega);have HX:=Hd hX;clear hk hX;cases o with
 | none =>
  obtain⟨v,l,rfl,hv,hr7⟩:=hO2
  clear hr7;rcases hv with rfl |⟨T,x,rfl⟩
  ·go_wp2_with fail
   go_ret2
   exact⟨HX.o,_,rfl,.inl rfl⟩
  ·go_wp2_with fail
   go_ret2
   exact⟨HX.o,_,rfl,.inr ⟨T,x,rfl⟩⟩
 | some Pl =>
  obtain⟨P,l⟩:=Pl
  obtain⟨T,x,rfl,hP,hr7⟩:=hO2
  have HZ:=Hd hP;clear hP hr7;go_wp2_with fail
  go_ret2
  exact⟨HX.o,T,x,rfl,HZ.o.mono (fun z hz=>⟨Nat.le_trans HE.o.size hz.1,hz.2⟩)⟩
theorem jjz(w:World){S:List Nd5}{f:Nat}{m:List Pair}(h:jaA f m)(hn:m≠[])(hS:32<=(jac (f+1) m).text.size->HasS S (jac (f+1) m).text):gRef S (refB (jac (f+1) m).text)=some (jav (jac f) m):=by
 have hst:=(good f m h).2.1 hn;unfold gRef
 by_cases hz:(jac (f+1) m).text.size < 32
 ·have hi:=hst.may.2 hz
  rw[jdw (inlP (f+1)) hi,jjF w hi]
 ·rw[jjZ hz,jdZ (jbF _)]
  obtain⟨x,h1,h2⟩:=hS vO
  have h1:atL S (shaB (jac (f+1) m).text).data.toList=some x:=h1;show (atL S (shaB (jac (f+1) m).text).data.toList).map (fun x=>nodeOf x.2.2.text)=_;rw[h1];show some (nodeOf x.2.2.text)=_;have hI:jbK (jac (f+1) m).text (jav (jac f) m):=⟨hst.text,f,hst.good⟩;rw[h2,jdm w (jb9 hI) hI]
theorem joV(w:World)(S:List Nd5):∀ (g:Nat) (l:List Pair),jaA g l->(∀ x∈jaM (jaB (jac g) l),32<=x.size->HasS S x)->∀ (f left:Nat),cntT g l<=left->left<=f->jbM (gRef S) f (jav (jac g) l) left=some (jaY (g+1) l,left - cntT g l):=by
 intro g;have small:∀ (g:Nat) (l:List Pair),l.length<=1->cntT g l=1->∀ (f left:Nat),cntT g l<=left->left<=f->jbM (gRef S) f (jav (jac g) l) left=some (jaY (g+1) l,left - cntT g l):=by
  intro g l hl hc f left h1 h2;rw[hc]at h1 ⊢;cases f with
  | zero=>omega
  | succ f =>
   rw[jd9,if_neg vO]
   by_cases h0:l.length=0
   ·have e:jav (jac g) l=jar:=by unfold jav;rw[if_pos h0]
    rw[e,jbN _ h0];rfl
   ·have h1':l.length=1:=by omega
    have e:jav (jac g) l=⟨1,(l.getD 0 pd).1,(l.getD 0 pd).2,jam 16⟩:=by unfold jav;rw[if_neg h0,if_pos h1']
    rw[e,jbT _ h1'];rfl
 induction g with
 | zero =>
  intro l h hS f left h1 h2;exact small 0 l (jb1 h) rfl f left h1 h2
 | succ g ih =>
  intro l h hS f left h1 h2
  by_cases hl:l.length<=1
  ·exact small (g+1) l hl (by unfold cntT;rw[if_pos hl]) f left h1 h2
  have hl2:2<=l.length:=by omega
  have kidS:∀ m,jaA g m->m≠[]->(∀ x∈jaM (jbP (jac (g+1) m)),x∈jaM (jaB (jac (g+1)) l))->(32<=(jac (g+1) m).text.size->HasS S (jac (g+1) m).text)/\∀ x∈jaM (jaB (jac g) m),32<=x.size->HasS S x:=by
   intro m hm hmn hsub
   refine⟨fun hz=>hS _ (hsub _ ?_) hz,fun x hx hz=>?_⟩
   ·rw[jnn vO];exact jdK _
   ·by_cases hs:(jac (g+1) m).text.size < 32
    ·have hst:=(good g m hm).2.1 hmn
     have e:(jac (g+1) m).kids=[]:=hst.small hs;have e:jaB (jac g) m=[]:=e;rw[e]at hx;cases hx
    ·refine hS x (hsub x ?_) hz
     rw[jnn hs];exact List.mem_cons_of_mem _ hx
  cases f with
  | zero =>
   exfalso
   have:1<=cntT (g+1) l:=by unfold cntT;omega
   omega
  | succ f =>
   by_cases hk:0 < comK l
   ·obtain⟨k1,k2,_,_⟩:=jfE h hl2 hk
    have eB:jaB (jac (g+1)) l=jbP (jac (g+1) (jal (comK l) l)):=by unfold jaB;rw[if_neg vO,if_pos hk]
    have eN:jav (jac (g+1)) l=⟨2,(l.getD 0 pd).1.extract 0 (comK l),⟨#[]⟩,refB (jac (g+1) (jal (comK l) l)).text :: jam 15⟩:=by unfold jav;rw[if_neg vO,if_neg vO,if_pos hk]
    have eC:cntT (g+1) l=1+cntT g (jal (comK l) l):=by
     show 1+(if l.length<=1 then 0 else if 0 < comK l then cntT g (jal (comK l) l)else _)=_;rw[if_neg vO,if_pos hk]
    obtain⟨s1,s2⟩:=kidS _ k1 k2 (fun x hx=>by rw[eB];exact hx)
    rw[eC]at h1 ⊢;rw[jd9,if_neg vO,eN,jdi _ hl2 hk];show ((gRef S (refB (jac (g+1) (jal (comK l) l)).text)).bind fun m=>(jbM (gRef S) f m (left - 1)).map fun x=>(PA.ext ((l.getD 0 pd).1.extract 0 (comK l)) x.1,x.2))=_;rw[jjz w k1 k2 s1];show (jbM (gRef S) f (jav (jac g) (jal (comK l) l)) (left - 1)).map _=_;rw[ih _ k1 s2 f (left - 1) vO vO];show some (_,left - 1 - cntT g (jal (comK l) l))=some (_,left - (1+cntT g (jal (comK l) l)))
    congr 2
    omega
   ·have eB:jaB (jac (g+1)) l=(List.range 16).flatMap fun i=>if (cutL i l).length=0 then []else jbP (jac (g+1) (jal 1 (cutL i l))):=by unfold jaB;rw[if_neg vO,if_neg hk]
    obtain⟨rs,hrs⟩:=vE ((List.range 16).map fun i=>if (cutL i l).length=0 then (⟨#[]⟩:vB)else refB (jac (g+1) (jal 1 (cutL i l))).text)
    have eN:jav (jac (g+1)) l=⟨3,⟨#[]⟩,if (l.getD 0 pd).1.size=0 then (l.getD 0 pd).2 else ⟨#[]⟩,rs⟩:=by rw[hrs];unfold jav;rw[if_neg vO,if_neg vO,if_neg hk]
    obtain⟨c,hc⟩:∃ c:Nat->Nat,c=fun i=>if (cutL i l).length=0 then 0 else cntT g (jal 1 (cutL i l)):=⟨_,rfl⟩
    have eC:cntT (g+1) l=1+sumF c 16:=by
     rw[hc];show 1+(if l.length<=1 then 0 else if 0 < comK l then _ else _)=_;rw[if_neg vO,if_neg hk]
    obtain⟨kd,hkd⟩:∃ kd:Nat->PA,kd=fun i=>if (cutL i l).length=0 then PA.nil else jaY (g+1) (jal 1 (cutL i l)):=⟨_,rfl⟩
    rw[eC]at h1 ⊢;have loop:∀ k,k<=16->jeZ (jbM (gRef S) f) (gRef S) rs k (left - 1)=some (fun i=>if i < k then kd i else .nil,left - 1 - sumF c k):=by
     intro k;induction k with
     | zero=>intro _;simp[jeZ,sumF]
     | succ k ihk =>
      intro hk16;rw[jfj,ihk vO];have hgd:rs.getD k ⟨#[]⟩=if (cutL k l).length=0 then (⟨#[]⟩:vB)else refB (jac (g+1) (jal 1 (cutL k l))).text:=by rw[hrs,jgB _ vO]
      show (if (rs.getD k ⟨#[]⟩).size=0 then some (_,left - 1 - sumF c k)else (gRef S (rs.getD k ⟨#[]⟩)).bind fun m=>(jbM (gRef S) f m (left - 1 - sumF c k)).map fun y=>(setK (fun i=>if i < k then kd i else .nil) k y.1,y.2))=_;have hsum:sumF c (k+1)=sumF c k+c k:=rfl
      by_cases hc0:(cutL k l).length=0
      ·rw[hgd,if_pos hc0,if_pos (show (⟨#[]⟩:vB).size=0 from rfl),hsum]
       have e1:c k=0:=by rw[hc];exact if_pos hc0
       have e2:kd k=.nil:=by rw[hkd];exact if_pos hc0
       rw[e1,Nat.add_zero]
       congr 2
       funext i
       by_cases hi:i < k
       ·rw[if_pos hi,if_pos vO]
       ·rw[if_neg hi]
        by_cases he:i=k
        ·rw[he,if_pos vO,e2]
        ·rw[if_neg vO]
      ·obtain⟨k1,k2⟩:=jf2 h hc0
       obtain⟨s1,s2⟩:=kidS _ k1 k2 (fun x hx=>by
        rw[eB,jgA];exact List.mem_flatMap.2 ⟨k,List.mem_range.2 vO,by rw[if_neg hc0];exact hx⟩)
       have e1:c k=cntT g (jal 1 (cutL k l)):=by rw[hc];exact if_neg hc0
       have e2:kd k=jaY (g+1) (jal 1 (cutL k l)):=by rw[hkd];exact if_neg hc0
       have hle:sumF c (k+1)<=sumF c 16:=by
        have:=jec c (k+1) (15 - k)
        rwa [show k+1+(15 - k)=16 by omega]at this
       rw[hgd,if_neg hc0,if_neg (jj0 k1 k2),jjz w k1 k2 s1];show (jbM (gRef S) f (jav (jac g) (jal 1 (cutL k l))) (left - 1 - sumF c k)).map _=_;rw[ih _ k1 s2 f _ vO vO, <-e1, <-e2,hsum];show some (setK _ k (kd k),_)=some (_,_)
       congr 2
       ·funext i
        unfold setK
        by_cases he:i=k
        ·rw[if_pos he,he,if_pos vO]
        ·rw[if_neg he]
         show (if i < k then kd i else PA.nil)=_
         by_cases hi:i < k
         ·rw[if_pos hi,if_pos vO]
         ·rw[if_neg hi,if_neg vO]
       ·omega
    rw[jd9,if_neg vO,eN,jev _ hl2 hk];show (jeZ (jbM (gRef S) f) (gRef S) rs 16 (left - 1)).map (fun x=>(PA.br (if (l.getD 0 pd).1.size=0 then (l.getD 0 pd).2 else ⟨#[]⟩) x.1,x.2))=_;rw[loop 16 (Nat.le_refl _), <-hkd];show some (PA.br _ (fun i=>if i < 16 then kd i else .nil),left - 1 - sumF c 16)=some (PA.br _ kd,left - (1+sumF c 16));have e3:(fun i=>if i < 16 then kd i else .nil)=kd:=by
     funext i
     by_cases hi:i < 16
     ·rw[if_pos hi]
     ·rw[if_neg hi,hkd]
      show PA.nil=if (cutL i l).length=0 then PA.nil else _
      rw[if_pos (by
       cases hz:(cutL i l).length with
       | zero=>rfl
       | succ n=>exact absurd (jw8 h (i:=i) vO) hi)]
    rw[e3]
    congr 2
    omega
theorem jjp:∀ (g:Nat) (l:List Pair),jaA g l->cntP (jaY (g+1) l)=cntT g l:=by
 intro g;have small:∀ (g:Nat) (l:List Pair),l.length<=1->cntP (jaY (g+1) l)=1:=by
  intro g l hl
  by_cases h0:l.length=0
  ·rw[jbN _ h0];rfl
  ·rw[jbT _ vO];rfl
 induction g with
 | zero=>intro l h;exact small 0 l (jb1 h)
 | succ g ih =>
  intro l h
  by_cases hl:l.length<=1
  ·rw[small _ l hl]
   show 1=1+(if l.length<=1 then 0 else _);rw[if_pos hl]
  have hl2:2<=l.length:=by omega
  show _=1+(if l.length<=1 then 0 else if 0 < comK l then cntT g (jal (comK l) l)else sumF (fun i=>if (cutL i l).length=0 then 0 else cntT g (jal 1 (cutL i l))) 16);rw[if_neg hl]
  by_cases hk:0 < comK l
  ·rw[if_pos hk,jdi _ hl2 hk]
   show 1+cntP (jaY (g+1) (jal (comK l) l))=_;rw[ih _ (jfE h hl2 hk).1]
  ·rw[if_neg hk,jev _ hl2 hk]
   show 1+sumF (fun i=>cntP (if (cutL i l).length=0 then PA.nil else jaY (g+1) (jal 1 (cutL i l)))) 16=_
   congr 2
   funext i
   by_cases hc:(cutL i l).length=0
   ·rw[if_pos hc,if_pos hc];rfl
   ·rw[if_neg hc,if_neg hc,ih _ (jf2 h hc).1]
theorem jjo{l:List Pair}(h:jsd l):cntT 12 (jaO l)<=118:=by
 have hr:=jbA h
 by_cases hn:jaO l=[]
 ·rw[hn];decide
 ·have h1:=(jw7 12 _ hr hn).all
  have h2:=h.len;have h3:(jaO l).length=l.length:=by unfold jaO;rw[List.length_map]
  omega
theorem jrr(w:World){S:List Nd5}{l:List Pair}(h:HasM S l):∃ k,readR S (shaB (jaL l).text)=some (jaY 13 (jaO l),k):=by
 have hr:=jbA (jaP h.ok)
 obtain⟨x,h1,h2⟩:=h.has _ (jdK _)
 have h1:atL S (shaB (jaL l).text).data.toList=some x:=h1;have hI:jbK (jaL l).text (jav (jac 12) (jaO l)):=⟨rfl,12,(good 12 _ hr).1⟩;unfold readR gHash;rw[h1];show ∃ k,jbM (gRef S) 160 (nodeOf x.2.2.text) 160=_;rw[h2,jdm w (jb9 hI) hI];have hc:=jjo (jaP h.ok)
 exact⟨_,joV w S 12 _ hr (fun y hy _=>h.has y (List.mem_cons_of_mem _ hy)) 160 160 vO (Nat.le_refl _)⟩
end
section
open Go Go.RowKit
end
section
open Go Go.RowKit
attribute [local go_sem] Oper.semAt_some
def ErrT(w:World):Prop:=w.cell? ⟨1,0,none⟩=some (.iface 269 (.agg #[.pointer (some ⟨3,162,none⟩)]))
theorem ErrT.ext{w w':World}(h:ErrT w)(k:Ext w w'):ErrT w':=jaa h k
structure WrAt(z g:Nat)(v:Value)(T:List vB)(W:World):Prop where
 lo:z<=g
 var:Blk W g (.cells #[v] 134)
 row:W.ownsRow 0 9 1 v T.length (T.map Value.string)
 own:∀ b,v.ownBlock=some b->z<=b/\b≠g/\b < W.heap.size
 nil:T=[]->v=.slice none 0 0
theorem WrAt.ext{z g:Nat}{v:Value}{T:List vB}{W W':World}(h:WrAt z g v T W)(e:Ext W W'):WrAt z g v T W':=
 ⟨h.lo,h.var.keeps e (fun g=>g),jbe h.row e,fun b hb=>⟨(h.own b hb).1,(h.own b hb).2.1,Nat.lt_of_lt_of_le (h.own b hb).2.2 e.size⟩,h.nil⟩
theorem WrAt.off{z g:Nat}{v:Value}{T:List vB}{W W':World}{F:BSet}(h:WrAt z g v T W)(e:jae F W W')(h1:¬ F g)(h2:∀ b,v.ownBlock=some b->¬ F b):WrAt z g v T W':=
 ⟨h.lo,h.var.keeps e h1,jaW h.row e h2,fun b hb=>⟨(h.own b hb).1,(h.own b hb).2.1,Nat.lt_of_lt_of_le (h.own b hb).2.2 e.size⟩,h.nil⟩
structure WrTo(z g:Nat)(v:Value)(W W':World)(v':Value)(T':List vB):Prop where
 at':WrAt z g v' T' W'
 kp:jae (fun b=>b=g\/v.ownBlock=some b) W W'
 sub:∀ b,v'.ownBlock=some b->v.ownBlock=some b\/W.heap.size<=b
theorem WrTo.refl{z g:Nat}{v:Value}{T:List vB}{W W':World}(h:WrAt z g v T W)(e:Ext W W'):WrTo z g v W W' v T:=⟨h.ext e,e.mono (fun _ _ h=>h.elim),fun b hb=>.inl hb⟩
theorem WrTo.trans{z g:Nat}{v v' v'':Value}{T T':List vB}{W W' W'':World}(h:WrTo z g v W W' v' T)(k:WrTo z g v' W' W'' v'' T'):WrTo z g v W W'' v'' T':=
 ⟨k.at',h.kp.trans' k.kp (fun x hx e=>by
  rcases e with e | e
  ·exact .inl e
  ·rcases h.sub x e with e | e
   ·exact .inr e
   ·omega),fun b hb=>by
  rcases k.sub b hb with e | e
  ·exact h.sub b e
  ·exact .inr (Nat.le_trans h.kp.size e)⟩
theorem WrTo.ext{z g:Nat}{v v':Value}{T:List vB}{W W' W'':World}(h:WrTo z g v W W' v' T)(e:Ext W' W''):WrTo z g v W W'' v' T:=h.trans (WrTo.refl h.at' e)
theorem WrTo.blk{z g:Nat}{v v':Value}{T:List vB}{W W':World}(h:WrTo z g v W W' v' T){b:Nat}{o:Obj}(hB:Blk W b o)(h1:b≠g)(h2:v.ownBlock≠some b):Blk W' b o:=hB.keeps h.kp (fun e=>e.elim h1 h2)
theorem WrTo.ext0{z g:Nat}{v v':Value}{T T':List vB}{W0 W W':World}(h:WrTo z g v W W' v' T')(k:WrAt z g v T W)(e:Ext W0 W)(hz:W0.heap.size<=z):Ext W0 W':=
 e.trans' h.kp (fun x hx e=>by
  rcases e with e | e
  ·have:=k.lo;omega
  ·have:=(k.own x e).1;omega)
theorem WrTo.fill{z g:Nat}{v v':Value}{T:List vB}{W W' W'':World}(h:WrTo z g v W W' v' T){L:Nat}(e:jae (fun b=>b=L) W' W'')(h1:L≠g)(h2:v'.ownBlock≠some L)(h3:W.heap.size<=L):WrTo z g v W W'' v' T:=
 ⟨h.at'.off e (fun x=>h1 x.symm) (fun b hb x=>h2 (by rw[hb,x])),h.kp.trans' e (fun x hx y=>by have y:x=L:=y;omega),h.sub⟩
theorem WrTo.ahead{z g:Nat}{v v':Value}{T:List vB}{W0 W W':World}(e:Ext W0 W)(h:WrTo z g v W W' v' T):WrTo z g v W0 W' v' T:=
 ⟨h.at',(e.mono (fun _ _ h=>h.elim)).trans' h.kp (fun x hx e=>e),fun b hb=>(h.sub b hb).imp id (fun k=>Nat.le_trans e.size k)⟩
def FoP(z g:Nat)(v:Value)(W:World)(r:Value)(T:List vB)(e:Ending)(w':World):Prop:=e=.returned r/\∃ v',WrTo z g v W w' v' T
structure jn8(n:jad):Prop where
 refs:n.refs.length=16
 call:∀ w,jb2 w->ErrT w->vQ 129 #[n.V] w fun e w'=>(∃ k:Int,e=.returned (.tuple #[.string (putN n),.int .i64 k]))/\Ext w w'
theorem jlo{d:Nat}{n:jad}(h:jbx (InlD d) n):jn8 n:=⟨(h.one (inlP d)).refs,fun w _ _=>by
 rw[jlk h];exact (jiY (inlP d) w n h).mono fun e w' h=>⟨⟨0,h.1⟩,h.2⟩⟩
def PutP:PA->Prop
 | .nil=>True
 | .no=>jn8 jar
 | .leaf q v=>jn8 ⟨1,q,v,jam 16⟩
 | .ext q n=>jn8 (nodeP (.ext q n))/\PutP n
 | .br v ks=>jn8 (nodeP (.br v ks))/\∀ i,PutP (ks i)
theorem PutP.node{P:PA}(h:PutP P)(hn:P.isNil=false):jn8 (nodeP P):=by
 cases P with
 | nil=>cases hn
 | no=>exact h
 | leaf q v=>exact h
 | ext q n=>exact h.1
 | br v ks=>exact h.1
theorem jeh:∀ (P:PA),P.isNil=false->(underP P).length+1<=cntP P
 | .nil,h=>by cases h
 | .no,_=>Nat.le_refl _
 | .leaf _ _,_=>Nat.le_refl _
 | .ext q n,_=>by
  show (bigs (textP n)++underP n).length+1<=1+cntP n;rw[List.length_append];have h1:=jg5 (textP n);cases hn:n.isNil with
  | true=>rw[jbo hn];exact Nat.le_refl _
  | false =>
   have:=jeh n hn
   omega
 | .br v ks,_=>by
  show ((List.range 16).flatMap fun i=>if (ks i).isNil then []else bigs (textP (ks i))++underP (ks i)).length+1<=1+sumF (fun i=>cntP (ks i)) 16
  have:=jfY (fun i=>if (ks i).isNil then []else bigs (textP (ks i))++underP (ks i)) (fun i=>cntP (ks i)) (fun i=>by
   show (if (ks i).isNil=true then ([]:List vB)else bigs (textP (ks i))++underP (ks i)).length<=cntP (ks i);cases hn:(ks i).isNil with
   | true=>rw[if_pos rfl];exact Nat.zero_le _
   | false =>
    rw[if_neg ff,List.length_append];have h1:=jg5 (textP (ks i))
    have:=jeh (ks i) hn
    omega) 16
  omega
def jwu(P:PA):Prop:=∀ (w0 W:World) (T:TypeId) (x:Value) (D:Nat->Prop) (g:Nat) (v:Value) (Tx:List vB),jb2 w0->ErrT w0->PaO P (.iface T x) D w0->Ext w0 W->WrAt w0.heap.size g v Tx W->Tx.length+cntP P<=100000 ->
 vQ (jlf P) #[x,.pointer (some ⟨g,0,none⟩)] W (FoP w0.heap.size g v W (nodeP P).V (Tx++underP P))
def TopC(P:PA):Prop:=∀ (w0 W:World) (T:TypeId) (x:Value) (D:Nat->Prop) (g:Nat) (v:Value) (Tx:List vB),jb2 w0->ErrT w0->PaO P (.iface T x) D w0->Ext w0 W->WrAt w0.heap.size g v Tx W->Tx.length+cntP P<=100000 ->
 vQ 91 #[.pointer (some ⟨g,0,none⟩),.iface T x] W (FoP w0.heap.size g v W (.string (textP P)) (Tx++underP P))
def juR(P:PA):Prop:=∀ (w0 W:World) (T:TypeId) (x:Value) (D:Nat->Prop) (g:Nat) (v:Value) (Tx:List vB),jb2 w0->ErrT w0->PaO P (.iface T x) D w0->Ext w0 W->WrAt w0.heap.size g v Tx W->Tx.length+cntP P<=100000 ->
 vQ 291 #[.pointer (some ⟨g,0,none⟩),.iface T x] W (FoP w0.heap.size g v W (.string (refB (textP P))) (Tx++(bigs (textP P)++underP P)))
theorem jtr(z g:Nat)(v:Value)(Tx:List vB)(W:World)(h:WrAt z g v Tx W):vQ 321 #[.agg #[],.pointer (some ⟨g,0,none⟩)] W (FoP z g v W jar.V Tx):=by
 have H:=Hd h;clear h;go_enter Tryz.func321,Tryz.ntmps321;go_wp2_with (first |(refine jah Tryz.allocNode rfl rfl ?_;intro W5 hB5 hE5;simp only[World.size_alloc]at hB5) |(refine jag (vs:=jar.cells) rfl rfl rfl rfl hB5 rfl Tryz.szNode jar.one ?_;intro W6 hB6 hE6))
 have hE1:Ext W (W.alloc (.cells #[] 292)):=(ExtR W).alloc _;refine bodyPost_ret (jbE rfl rfl (jap W6 _ jar rfl hB6)) rfl ?_
 exact⟨rfl,v,WrTo.refl H.o ((hE1.trans hE5).trans' hE6 (fun x hx e=>by have e:x=W.heap.size+1:=e;omega))⟩
def jyK(q u:vB):List Value:=jb4 1 q u ⟨#[]⟩
theorem jvy(w0:World)(z g:Nat)(v:Value)(Tx:List vB)(W:World)(hE:Ext w0 W)(q u:vB)(b:Nat)(hB:Blk w0 b (.cells #[.string q,.string u] 283))(h:WrAt z g v Tx W):vQ 307 #[.pointer (some ⟨b,0,none⟩),.pointer (some ⟨g,0,none⟩)] W (FoP z g v W (jad.V ⟨1,q,u,jam 16⟩) Tx):=by
 have H:=Hd h;have Q0:=Hd (jaa (hB.cell (i:=0) (v:=.string q) vF) hE);have Q1:=Hd (jaa (hB.cell (i:=1) (v:=.string u) vF) hE);have hbl:=hB.lt;have HNB:=Hd (show ¬ b=W.heap.size by have:=hE.size;omega);clear h hB hE hbl;go_enter Tryz.func307,Tryz.ntmps307;go_wp2_with (refine jah Tryz.allocNode rfl rfl ?_;intro W4 hB4 hE4)
 have HB4:=Hd hB4;have HE4:=Hd hE4;clear hB4 hE4;refine vS ?_;refine jaD [0,1,2,3,4,5,6,7,8,9] [9] Ext (jae (fun z=>z=W.heap.size)) ExtR ExtT (fun x y z h k=>jae.trans h k) (fun x y h=>h.mono (fun _ _ h=>h.elim)) vY vY vY ?_
 refine vD ?_
 refine qDV _ ((.pointer (some ⟨b,0,none⟩))) rfl (fun w1 _=>by kernel_rfl) ?_;refine vS ?_
 refine vD ?_
 refine qDL ⟨b,0,none⟩ _ rfl (fun w1 h1=>jaz (fun w=>by kernel_rfl) (jaw (jaa Q0.o HE4.o) (((jae.refl (fun z=>z=W.heap.size) W4).drew).trans h1) (by exact HNB.o))) ?_;refine vS ?_
 refine vD ?_
 refine qDV _ ((.pointer (some ⟨b,0,none⟩))) rfl (fun w1 _=>by kernel_rfl) ?_;refine vS ?_
 refine vD ?_
 refine qDL ⟨b,1,none⟩ _ rfl (fun w1 h1=>jaz (fun w=>by kernel_rfl) (jaw (jaa Q1.o HE4.o) (((jae.refl (fun z=>z=W.heap.size) W4).drew).trans h1) (by exact HNB.o))) ?_;refine vS ?_
 refine vD ?_
 refine qDH _ rfl (fun w5 he K hK=>?_);have hX:=(jaj W4).trans he;refine jkl (vs:=jyK q u) rfl rfl rfl (HB4.o.keeps hX (fun h=>h)) rfl Tryz.szNode (jb5 _ _ _ _) ?_;intro W6 hB6 hE6;have H6:=Hd (And.intro hB6 ((HE4.o.trans hX).trans' hE6 (fun x hx e=>by have e:x=W.heap.size:=e;omega)));refine vS ?_;refine hK _ _ hE6 ?_;clear hK K he hX hB6 hE6;refine qDE (fun w7 he=>?_);have hB7:=H6.o.1.keeps he (fun h=>h);have hE7:=H6.o.2.trans he;go_wp2_with fail
 refine bodyPost_ret (jbE rfl rfl (jap w7 _ ⟨1,q,u,jam 16⟩ rfl hB7)) rfl ?_
 exact⟨rfl,v,WrTo.refl H.o hE7⟩
theorem jr6(P:PA)(hn:P.isNil=false)(hp:PutP P)(hF:jwu P):TopC P:=by
 intro w0 W T x D g v Tx hc he hP hE hW hl;have hf:=hF w0 W T x D g v Tx hc he hP hE hW hl;have hm:=hP.at'.meth.form;have hm:∀ w,(Go.method (487+1) T x "guilloche/trie.form").run Tryz.prog w=.ok (jlf P,x) w:=hm;have hent:=jot P;have hpn:=hp.node hn;rw[jlJ hn];have HN:Hid (∀ w,Ext w0 w->vQ 129 #[(nodeP P).V] w fun e w'=>(∃ k:Int,e=.returned (.tuple #[.string (putN (nodeP P)),.int .i64 k]))/\Ext w w'):=fun w e=>hpn.call w (hc.ext e) (he.ext e);have HF:=Hd hf;have HW:=Hd (And.intro hW hE)
 obtain⟨U,hU⟩:=vE (Tx++underP P)
 rw[<-hU]at HF ⊢
 obtain⟨n,hnn⟩:=vE (nodeP P)
 rw[<-hnn]at HF HN ⊢;clear hf hc he hP hE hW hl hpn hn hp hF hU hnn;go_enter Tryz.func91,Tryz.ntmps91;go_wp2_with fail
 refine HF.o.mono ?_;rintro e w1 ⟨rfl,v1,hT⟩;have HT:=Hd hT;have HE1:=Hd (hT.ext0 HW.o.1 HW.o.2 (Nat.le_refl _));clear hT;go_wp2_with fail
 refine (HN.o w1 HE1.o).mono ?_;rintro e w2 ⟨⟨k,rfl⟩,hE2⟩;have HE2:=Hd hE2;clear hE2;go_wp2_with fail
 go_ret
 exact⟨rfl,v1,HT.o.ext HE2.o⟩
end
section
open Go Go.RowKit
end
section
open Go Go.RowKit
attribute [local go_sem] Oper.semAt_some
end
section
open Go Go.RowKit
end
section
open Go Go.RowKit
attribute [local go_sem] Oper.semAt_some
end
section
open Go Go.RowKit
end
section
open Go Go.RowKit
attribute [local go_sem] Oper.semAt_some
theorem jvo{y h:vB}(hh:jjA y=some h):jeJ y:=by
 unfold jjA at hh;cases hc:cutN y with
 | none=>rw[hc]at hh;cases hh
 | some r =>
  rw[hc]at hh;have hh:jfZ y r=some h:=hh;unfold jfZ at hh;rw[Option.filter_eq_some_iff]at hh
  obtain⟨h1,h2⟩:=hh
  have h2:h.size=32:=by simpa using h2
  unfold jeX at h1
  by_cases hr:r.1=false/\r.2.1+r.2.2=y.size
  case neg=>rw[if_neg hr]at h1;cases h1
  rw[if_pos hr]at h1;have h1:=Option.some.inj h1
  obtain⟨b,o,n⟩:=r
  obtain⟨hb,hs⟩:=hr
  have hb:b=false:=hb;have hs:o+n=y.size:=hs;subst hb
  refine⟨h,h2,?_⟩
  have hn:n=32:=by
   have e:=congrArg ByteArray.size h1;rw[ByteArray.size_extract]at e;simp only at e;omega
  obtain⟨⟨l⟩⟩:=y
  cases l with
  | nil=>exact absurd (jjs hc).1 vI
  | cons a t =>
   have hc:cutN ⟨(a :: t).toArray⟩=some (false,o,n):=hc;rw[jfV]at hc
   obtain⟨m,hm⟩:=vE (if a.toNat < 192 then a.toNat - 128 else a.toNat - 192)
   rw[<-hm]at hc
   by_cases h4:a.toNat < 128
   ·rw[if_pos h4]at hc
    have:=(Prod.mk.inj (Prod.mk.inj (Option.some.inj hc)).2).2;omega
   rw[if_neg h4]at hc
   by_cases h5:m<=55
   ·rw[if_pos h5]at hc
    split at hc
    ·have e1:=(Prod.mk.inj (Option.some.inj hc)).1
     have e2:=(Prod.mk.inj (Prod.mk.inj (Option.some.inj hc)).2).1;have e3:=(Prod.mk.inj (Prod.mk.inj (Option.some.inj hc)).2).2;have e1:¬ 192<=a.toNat:=of_decide_eq_false e1;rw[if_pos vO]at hm;have ha:a=160:=UInt8.toNat_inj.1 (by show a.toNat=160;omega);have ht:h=⟨t.toArray⟩:=by
      rw[<-h1, <-e2,hn];apply ByteArray.ext;apply Array.ext';have hs':o+n=t.length+1:=hs;rw[ByteArray.data_extract,Array.toList_extract,List.extract_eq_take_drop];show ((a :: t).drop 1).take (1+32 - 1)=t;rw[List.drop_succ_cons,List.drop_zero,List.take_of_length_le vO]
     unfold jao;rw[if_neg vO,h2,ht,ha];apply ByteArray.ext;apply Array.ext';rw[ByteArray.data_append,Array.toList_append];rfl
    ·cases hc
   ·rw[if_neg h5]at hc
    split at hc
    ·rename_i n' hl
     split at hc
     ·have e3:=(Prod.mk.inj (Prod.mk.inj (Option.some.inj hc)).2).2
      have:=(jc6 hl).2.2.2.1
      omega
     ·cases hc
    ·cases hc
def GetE(s:vB):Prop:=∀ w,ErrT w->vQ 97 #[.string s] w (jr9 w)
theorem WrAt.push{z g:Nat}{v v':Value}{Tx New:List vB}{W w6:World}(h:WrAt z g v Tx W){n:Nat}(hn:n=(Tx++New).length)(r1:w6.ownsRow 0 9 1 v' n ((Tx++New).map Value.string))(r2:jae (fun b=>v.ownBlock=some b) W w6)(r3:v'.ownBlock=v.ownBlock\/∀ b,v'.ownBlock=some b->W.heap.size<=b)(hz:z<=W.heap.size)(h0:New≠[]) :
  WrTo z g v W (w6.setCell ⟨g,0,none⟩ v') v' (Tx++New):=by
 subst hn;have hV6:=h.var.keeps r2 (fun e=>(h.own g e).2.1 rfl);have K7:=jae.oneSet w6 ⟨g,0,none⟩ v';have hgs:=h.var.lt;have hsub:∀ b,v'.ownBlock=some b->v.ownBlock=some b\/W.heap.size<=b:=fun b hb=>by
  rcases r3 with r3 | r3
  ·exact .inl (r3 ▸ hb)
  ·exact .inr (r3 b hb)
 have hne:∀ b,v'.ownBlock=some b->b≠g:=fun b hb=>by
  rcases hsub b hb with e | e
  ·exact (h.own b e).2.1
  ·omega
 refine⟨⟨h.lo,hV6.set_same (i:=0) _,jaW r1 K7 (fun b hb e=>hne b hb e),fun b hb=>⟨?_,hne b hb,Nat.lt_of_lt_of_le (jus r1 hb) K7.size⟩,fun e=>?_⟩,?_,hsub⟩
 ·rcases hsub b hb with e | e
  ·exact (h.own b e).1
  ·omega
 ·exact absurd (List.append_eq_nil_iff.1 e).2 h0
 ·exact ((r2.mono (fun x _ e=>.inr e):jae (fun b=>b=g\/v.ownBlock=some b) W w6)).trans' K7 (fun x hx e=>.inl e)
theorem WrAt.sameTo{z g:Nat}{v:Value}{Tx:List vB}{W:World}(h:WrAt z g v Tx W):WrTo z g v W (W.setCell ⟨g,0,none⟩ v) v Tx:=by
 have K:=jae.oneSet W ⟨g,0,none⟩ v;have hB:=h.var.set_same (i:=0) v
 exact⟨⟨h.lo,hB,jaW h.row K (fun b hb e=>(h.own b hb).2.1 e),fun b hb=>⟨(h.own b hb).1,(h.own b hb).2.1,Nat.lt_of_lt_of_le (h.own b hb).2.2 K.size⟩,h.nil⟩,K.mono (fun x _ e=>.inl e),fun b hb=>.inl hb⟩
theorem WrAt.same{z g:Nat}{v:Value}{Tx:List vB}{W:World}(h:WrAt z g v Tx W):WrAt z g v Tx (W.setCell ⟨g,0,none⟩ v):=h.sameTo.at'
theorem jmu{W:World}{T:TypeId}{sz:Nat}{a:Option Addr}{n c:Nat}{xs:List Value}(h:W.ownsRow 0 T sz (.slice a n c) n xs)(h0:n≠0):∃ b,a=some ⟨b,0,none⟩:=by
 obtain⟨_,⟨h1,h2⟩ |⟨g,cap,cur,h2,_⟩⟩:=h
 ·injection h1 with _ h1 _
  exact absurd h1 h0
 ·injection h2 with h2 _ _
  exact⟨g,h2⟩
theorem jgJ{W:World}{T:TypeId}{b n c:Nat}{xs:List Value}(h:W.ownsRow 0 T 1 (.slice (some ⟨b,0,none⟩) n c) n xs){j:Nat}{u:Value}(hj:xs[j]?=some u):W.cell? ⟨b,j,none⟩=some u:=by
 have hl:=(List.getElem?_eq_some_iff.1 hj).1;have hx:=h.1;rw[h.cellAt j vO,hj]
theorem js2(t:vB)(h:¬ t.size < 32):jjA (refB t)=some (shaB t):=by
 rw[jhP];unfold refB;rw[if_neg h];exact jdZ (jbF _)
theorem jmn(t:vB)(h:t.size < 32):jjA (refB t)=none:=by
 unfold refB;rw[if_pos h];cases e:jjA t with
 | none=>rfl
 | some x =>
  have:=(jvo (y:=t) (h:=x) e).size
  omega
theorem jrs(t:vB):(refB t).size<=33:=by
 unfold refB;split
 ·omega
 ·exact Nat.le_of_eq (jeJ.size ⟨_,jbF t,rfl⟩)
theorem jq9{W:World}{T:TypeId}{sz:Nat}{a:Option Addr}{n c:Nat}{xs:List Value}(h:W.ownsRow 0 T sz (.slice a n c) n xs):n<=c:=by
 obtain⟨_,⟨h1,h2⟩ |⟨g,cap,cur,h2,h3,h4,h5,h6⟩⟩:=h
 ·omega
 ·injection h2 with _ _ h2
  omega
theorem jpc(P:PA)(hT:TopC P)(hz:(textP P).size < 32)(w0 W:World)(T:TypeId)(x:Value)(D:Nat->Prop)(g:Nat)(v:Value)(Tx:List vB)(hc:jb2 w0)(he:ErrT w0)(hP:PaO P (.iface T x) D w0)(hE:Ext w0 W)(hW:WrAt w0.heap.size g v Tx W)(hl:Tx.length+cntP P<=100000) :
  vQ 291 #[.pointer (some ⟨g,0,none⟩),.iface T x] W (FoP w0.heap.size g v W (.string (refB (textP P))) (Tx++underP P)):=by
 obtain⟨W1,hW1⟩:=vE (W.alloc (.cells #[.slice none 0 0] 134))
 have hE1:Ext W W1:=by rw[hW1];exact (ExtR W).alloc _
 have hw1:WrAt w0.heap.size W.heap.size (.slice none 0 0) [] W1:=⟨hE.size,by rw[hW1];exact Blk.new W _,World.ownsRow_nil _ _ _ _,fun b hb=>(by cases hb),fun _=>rfl⟩;have htop:=hT w0 W1 T x D W.heap.size (.slice none 0 0) [] hc he hP (hE.trans hE1) hw1 (by have:([]:List vB).length=0:=rfl;omega);rw[List.nil_append]at htop;have HTOP:=Hd htop;clear htop;have HW1:=Hd hW1;have hw0:=HW1;have HG:=Hd hW;have HWR:=Hd (And.intro hw1 (And.intro hE1 hE));have hC1:=hc;have HREF:=Hd (fun w (e:Ext w0 w)=>jvO w (textP P) (hc.ext e));have HASH:=Hd (fun w=>jff w (refB (textP P)) (by have:=jrs (textP P);omega));rw[jmn _ hz]at HASH;have hul:Tx.length+(underP P).length<=100000:=by
  cases hn:P.isNil with
  | true=>rw[jbo hn];show Tx.length+0<=_;omega
  | false=>have:=jeh P hn;omega
 have HUL:=Hd hul
 obtain⟨U,hU⟩:=vE (underP P)
 obtain⟨t,ht⟩:=vE (textP P)
 rw[<-ht, <-hU]at HTOP;rw[<-ht]at HREF HASH ⊢;rw[<-hU]at HUL ⊢;clear hT hz hc he hP hE hW hl hE1 hw1 hul hU ht hW1 hw0 hC1;go_enter Tryz.func291,Tryz.ntmps291;go_wp2_with fail
 rw[<-HW1.o];refine HTOP.o.mono ?_;rintro e w2 ⟨rfl,v2,hT2⟩;have hgh:g≠W.heap.size:=by have:=HG.o.var.lt;omega
 have hT2x:=hT2.ext0 HWR.o.1 (HWR.o.2.2.trans HWR.o.2.1) (Nat.le_refl _);have hg2:WrAt w0.heap.size g v Tx w2:=(HG.o.ext HWR.o.2.1).off hT2.kp (fun e=>e.elim hgh (fun e=>by cases e)) (fun b hb e=>e.elim (fun e=>by have:=(HG.o.own b hb).2.2;omega) (fun e=>by cases e));have hk2:Ext W w2:=HWR.o.2.1.trans' hT2.kp (fun x hx e=>e.elim (fun e=>by omega) (fun e=>by cases e));have HSUB:Hid (∀ b,v2.ownBlock=some b->W.heap.size<=b):=(fun b hb=>(hT2.sub b hb).elim (fun e=>by cases e) (fun e=>Nat.le_trans HWR.o.2.1.size e));have HT2:=Hd (And.intro hT2.at' (And.intro hg2 (And.intro hk2 hT2x)));clear hT2 hg2 hk2 hT2x
 obtain⟨h,hh⟩:=vE W.heap.size
 have HGH:=Hd (And.intro hgh hh);rw[<-hh]at HT2 ⊢;clear hgh hh;go_wp2_with fail
 refine vC (HREF.o w2 HT2.o.2.2.2) fun w3 hE3=>?_;have HE3:=Hd hE3;clear hE3;go_wp2_with fail
 refine vC (HASH.o w3) fun w4 hE4=>?_;have hE4:=HE3.o.trans hE4;have HT4:=Hd (And.intro (HT2.o.1.ext hE4) (And.intro (HT2.o.2.1.ext hE4) (HT2.o.2.2.1.trans hE4)));clear hE4;unfold optV;go_wp2_with fail
 obtain⟨i0,hi0,hz0,hz1,hz2⟩:=info_parts Tryz.infoStr
 obtain⟨a1,c1,hv1⟩:=jaJ HT4.o.2.1.row
 obtain⟨n1,hn1⟩:∃ n,n=List.length Tx:=⟨_,rfl⟩
 rw[<-hn1]at hv1;subst hv1;have HL1:=Hd hn1;have HR1:=Hd (show World.ownsRow w4 0 9 1 (.slice a1 n1 c1) n1 (List.map Value.string Tx) by have h9:=HT4.o.2.1.row;rw[<-hn1]at h9;exact h9);have HCAP:=Hd (jq9 HR1.o);have QG:=Hd (HT4.o.2.1.var.cell (i:=0) (v:=.slice a1 n1 c1) vF);clear hn1
 by_cases hU0:U=[]
 ·have hv2:=HT4.o.1.nil hU0
  subst hv2;have QH:=Hd (HT4.o.1.var.cell (i:=0) (v:=.slice none 0 0) vF);have HU0:=Hd hU0;clear hU0;refine jau [0,1,2,3,4,5,6,7,8,9,10,11,12] [9,12] (Ext) ExtR ExtT vY vY vY ?_;iterate 2 refine vP ?_
  refine qA _ ((.pointer (some ⟨g,0,none⟩))) rfl (fun w1=>by kernel_rfl) ?_;refine vS ?_
  refine vP ?_
  refine qL ⟨g,0,none⟩ _ rfl (fun w1 h1=>jaz (fun w=>by kernel_rfl) (jaa QG.o ((jaj _).trans h1))) ?_;refine vS ?_
  refine vP ?_
  refine qA _ ((.pointer (some ⟨h,0,none⟩))) rfl (fun w1=>by kernel_rfl) ?_;refine vS ?_
  refine vP ?_
  refine qL ⟨h,0,none⟩ _ rfl (fun w1 h1=>jaz (fun w=>by kernel_rfl) (jaa QH.o ((jaj _).trans h1))) ?_;refine vS ?_;refine qH _ rfl (fun w5 he K hK=>?_);refine jcy (v:=.slice a1 n1 c1) (w':=w5) (jep (jcM (i:=i0) Tryz.uStrs hi0 a1 n1 c1 HCAP.o 0 w5) vY) (hK _ _ ?_);have HX5:=Hd ((jaj _).trans he);clear hK K he;refine vS ?_;refine qA _ ((.pointer (some ⟨g,0,none⟩))) rfl (fun w1=>by kernel_rfl) ?_;refine vS ?_
  refine vP ?_
  refine qH _ rfl (fun w8 he8 K hK=>?_);have hg8:=HT4.o.2.1.ext (HX5.o.trans he8);have q8:w8.cell? ⟨g,0,none⟩=some (.slice a1 n1 c1):=hg8.var.cell (i:=0) vF;have f8:w8.frozen? ⟨g,0,none⟩=false:=hg8.var.frozen;have hs8:WrAt w0.heap.size g (.slice a1 n1 c1) Tx (w8.setCell ⟨g,0,none⟩ (.slice a1 n1 c1)):=hg8.same;have H8:=Hd (And.intro hs8 (And.intro (HX5.o.trans he8) hg8));clear hg8 hs8 he8;go_simp;refine hK _ _ ?_;clear hK K q8 f8;refine qE (fun w7 he=>?_);have H9:=Hd (H8.o.1.ext he);have HE9:=Hd he;clear he;go_wp2_with fail
  go_ret;rw[HU0.o,List.append_nil]
  exact⟨rfl,_,(WrTo.refl HG.o (HT4.o.2.2.trans H8.o.2.1)).trans ((H8.o.2.2.sameTo).ext HE9.o)⟩
 ·obtain⟨a2,c2,hv2⟩:=jaJ HT4.o.1.row
  have hr2:=HT4.o.1.row
  obtain⟨n2,hn2⟩:∃ n,n=List.length U:=⟨_,rfl⟩
  rw[<-hn2]at hv2 hr2;rw[hv2]at hr2
  obtain⟨b2,rfl⟩:=jmu hr2 (fun e=>hU0 (List.eq_nil_of_length_eq_zero vO))
  subst hv2;have HR2:=Hd hr2;have HLN:=Hd hn2.symm;have HU0:=Hd hU0;have HBD:=Hd (show n1+n2<=200000 by have:=HUL.o;have:=HL1.o;omega);have QH:=Hd (HT4.o.1.var.cell (i:=0) (v:=.slice (some ⟨b2,0,none⟩) n2 c2) vF);clear hU0 hr2 hn2;refine jau [0,1,2,3,4,5,6,7,8,9,10,11,12] [9,12] (Ext) ExtR ExtT vY vY vY ?_;iterate 2 refine vP ?_
  refine qA _ ((.pointer (some ⟨g,0,none⟩))) rfl (fun w1=>by kernel_rfl) ?_;refine vS ?_
  refine vP ?_
  refine qL ⟨g,0,none⟩ _ rfl (fun w1 h1=>jaz (fun w=>by kernel_rfl) (jaa QG.o ((jaj _).trans h1))) ?_;refine vS ?_
  refine vP ?_
  refine qA _ ((.pointer (some ⟨h,0,none⟩))) rfl (fun w1=>by kernel_rfl) ?_;refine vS ?_
  refine vP ?_
  refine qL ⟨h,0,none⟩ _ rfl (fun w1 h1=>jaz (fun w=>by kernel_rfl) (jaa QH.o ((jaj _).trans h1))) ?_;refine vS ?_;refine qH _ rfl (fun w5 he K hK=>?_);have hX5:=(jaj _).trans he;refine jdj w5 (.tmp 37) (.tmp 41) 34 rfl 9 i0 _ 1 16 Tryz.uStrs hi0 hz0 hz1 hz2 rfl vI (.slice a1 n1 c1) n1 _ rfl (jbe HR1.o hX5) ⟨b2,0,none⟩ n2 c2 (U.map Value.string) rfl (by rw[List.length_map,HLN.o,Nat.mul_one]) (fun j u hj=>by rw[Addr.add_lit,Nat.zero_add];exact (jgJ (jbe HR2.o hX5) hj)) (by intro u hu;obtain⟨y,_,rfl⟩:=List.mem_map.1 hu;rfl) (by have:=HBD.o;unfold maxLen;omega) (by have:=HBD.o;omega) ?_;intro v' w6 r1 r2 r3;have HA:=Hd (And.intro hX5 (And.intro r1 (And.intro r2 r3)))
  obtain⟨a',c',hv'⟩:=jaJ r1
  subst hv';refine hK _ _ ?_;clear hK K he hX5 r1 r2 r3;refine vS ?_;refine qA _ ((.pointer (some ⟨g,0,none⟩))) rfl (fun w1=>by kernel_rfl) ?_;refine vS ?_
  refine vP ?_
  refine qH _ rfl (fun w8 he8 K hK=>?_)
  obtain⟨hX5,r1,r2,r3⟩:=HA.o
  have hg5:=HT4.o.2.1.ext hX5;have hz5:w0.heap.size<=w5.heap.size:=Nat.le_trans hg5.lo (Nat.le_of_lt hg5.var.lt);have hp:=hg5.push (n:=n1+n2) (by rw[List.length_append, <-HL1.o,HLN.o]) (by rw[List.map_append];exact jbe r1 he8) (r2.trans (he8.mono (fun _ _ e=>e.elim))) r3 hz5 HU0.o;have hg8:=(hg5.var.keeps r2 (fun e=>(hg5.own g e).2.1 rfl)).keeps he8 (fun e=>e);have q8:w8.cell? ⟨g,0,none⟩=some (.slice a1 n1 c1):=hg8.cell (i:=0) vF;have f8:w8.frozen? ⟨g,0,none⟩=false:=hg8.frozen;have H8:=Hd (And.intro hp hX5);clear hX5 r1 r2 r3 hg5 hz5 hp hg8 he8;go_simp;refine hK _ _ ?_;clear hK K q8 f8;refine qE (fun w7 he=>?_);have HE9:=Hd he;clear he;go_wp2_with fail
  go_ret
  exact⟨rfl,_,((WrTo.refl HG.o (HT4.o.2.2.trans H8.o.2)).trans H8.o.1).ext HE9.o⟩
theorem jua(P:PA)(hT:TopC P)(hz:¬(textP P).size < 32)(w0 W:World)(T:TypeId)(x:Value)(D:Nat->Prop)(g:Nat)(v:Value)(Tx:List vB)(hc:jb2 w0)(he:ErrT w0)(hP:PaO P (.iface T x) D w0)(hE:Ext w0 W)(hW:WrAt w0.heap.size g v Tx W)(hl:Tx.length+cntP P<=100000) :
  vQ 291 #[.pointer (some ⟨g,0,none⟩),.iface T x] W (FoP w0.heap.size g v W (.string (refB (textP P))) (Tx++(textP P :: underP P))):=by
 obtain⟨W1,hW1⟩:=vE (W.alloc (.cells #[.slice none 0 0] 134))
 have hE1:Ext W W1:=by rw[hW1];exact (ExtR W).alloc _
 have hw1:WrAt w0.heap.size W.heap.size (.slice none 0 0) [] W1:=⟨hE.size,by rw[hW1];exact Blk.new W _,World.ownsRow_nil _ _ _ _,fun b hb=>(by cases hb),fun _=>rfl⟩;have htop:=hT w0 W1 T x D W.heap.size (.slice none 0 0) [] hc he hP (hE.trans hE1) hw1 (by have:([]:List vB).length=0:=rfl;omega);rw[List.nil_append]at htop;have HTOP:=Hd htop;clear htop;have HW1:=Hd hW1;have hw0:=HW1;have HG:=Hd hW;have HWR:=Hd (And.intro hw1 (And.intro hE1 hE));have hC1:=hc;have HREF:=Hd (fun w (e:Ext w0 w)=>jvO w (textP P) (hc.ext e));have HASH:=Hd (fun w=>jff w (refB (textP P)) (by have:=jrs (textP P);omega));rw[js2 _ hz]at HASH;have hul:Tx.length+(underP P).length<=100000:=by
  cases hn:P.isNil with
  | true=>rw[jbo hn];show Tx.length+0<=_;omega
  | false=>have:=jeh P hn;omega
 have HUL:=Hd hul
 obtain⟨U,hU⟩:=vE (underP P)
 obtain⟨t,ht⟩:=vE (textP P)
 rw[<-ht, <-hU]at HTOP;rw[<-ht]at HREF HASH ⊢;rw[<-hU]at HUL ⊢;clear hT hz hc he hP hE hW hl hE1 hw1 hul hU ht hW1 hw0 hC1;go_enter Tryz.func291,Tryz.ntmps291;go_wp2_with fail
 rw[<-HW1.o];refine HTOP.o.mono ?_;rintro e w2 ⟨rfl,v2,hT2⟩;have hgh:g≠W.heap.size:=by have:=HG.o.var.lt;omega
 have hT2x:=hT2.ext0 HWR.o.1 (HWR.o.2.2.trans HWR.o.2.1) (Nat.le_refl _);have hg2:WrAt w0.heap.size g v Tx w2:=(HG.o.ext HWR.o.2.1).off hT2.kp (fun e=>e.elim hgh (fun e=>by cases e)) (fun b hb e=>e.elim (fun e=>by have:=(HG.o.own b hb).2.2;omega) (fun e=>by cases e));have hk2:Ext W w2:=HWR.o.2.1.trans' hT2.kp (fun x hx e=>e.elim (fun e=>by omega) (fun e=>by cases e));have HSUB:Hid (∀ b,v2.ownBlock=some b->W.heap.size<=b):=(fun b hb=>(hT2.sub b hb).elim (fun e=>by cases e) (fun e=>Nat.le_trans HWR.o.2.1.size e));have HT2:=Hd (And.intro hT2.at' (And.intro hg2 (And.intro hk2 hT2x)));clear hT2 hg2 hk2 hT2x
 obtain⟨h,hh⟩:=vE W.heap.size
 have HGH:=Hd (And.intro hgh hh);rw[<-hh]at HT2 ⊢;clear hgh hh;go_wp2_with fail
 refine vC (HREF.o w2 HT2.o.2.2.2) fun w3 hE3=>?_;have HE3:=Hd hE3;clear hE3;go_wp2_with fail
 refine vC (HASH.o w3) fun w4 hE4=>?_;have hE4:=HE3.o.trans hE4;have HT4:=Hd (And.intro (HT2.o.1.ext hE4) (And.intro (HT2.o.2.1.ext hE4) (HT2.o.2.2.1.trans hE4)));clear hE4;unfold optV
 obtain⟨i0,hi0,hz0,hz1,hz2⟩:=info_parts Tryz.infoStr
 have hg4:=HT4.o.2.1
 obtain⟨a0,c0,hv0⟩:=jaJ hg4.row
 have q4:=hg4.var.cell (i:=0) (v:=v) vF;have HL0:=Hd (show Tx.length<=100000 by have:=HUL.o;omega);have HR0:=Hd hg4.row;have HG4:=Hd hg4;clear hg4;subst hv0;go_wp2_with (at_builtin;refine jbO _ rfl (.tmp 27) (.tmp 29) 34 rfl 9 i0 _ 1 16 Tryz.uStrs hi0 hz0 hz1 hz2 rfl vI (.slice a0 Tx.length c0) Tx.length _ rfl (jbe HR0.o ((ExtR w4).alloc _)) ⟨w4.heap.size,0,none⟩ 1 1 [.string t] rfl rfl (jaS (Blk.new w4 _)) (by simp[Value.oneCell']) (by have:=HL0.o;unfold maxLen;omega) (by have:=HL0.o;omega) ?_;intro v' w6 r1 r2 r3;obtain⟨ad',cp',rfl⟩:=jaJ r1;have hgs:=HG4.o.var.lt;have hV6:=(HG4.o.var.alloc (.cells #[.string t] 9)).keeps r2 (fun e=>(HG4.o.own g e).2.1 rfl);have q56:w6.cell? ⟨g,0,none⟩=some (.slice a0 Tx.length c0):=hV6.cell (i:=0) vF;have f56:w6.frozen? ⟨g,0,none⟩=false:=hV6.frozen)
 obtain⟨wS,hwS⟩:=vE (w6.setCell ⟨g,0,none⟩ (.slice ad' (Tx.length+1) cp'))
 have hg4a:=HG4.o.ext ((ExtR w4).alloc (.cells #[.string t] 9));have hp:=hg4a.push (n:=Tx.length+1) (New:=[t]) (by simp) (by rw[List.map_append];exact r1) r2 r3 (by have:=HG4.o.lo;rw[World.size_alloc];omega) (by simp);rw[<-hwS]at hp ⊢;have hp:=WrTo.ahead ((ExtR w4).alloc (.cells #[.string t] 9)) hp;have huS:=HT4.o.1.off hp.kp (fun e=>e.elim (fun e=>by have:=HG.o.var.lt;have:=HGH.o.2;omega) (fun e=>by have:=(HG.o.own h e).2.2;have:=HGH.o.2;omega)) (fun b hb e=>by
  have h1:=HSUB.o b hb;rcases e with e | e
  ·have:=HG.o.var.lt;omega
  ·have:=(HG.o.own b e).2.2;omega)
 have hall:WrTo w0.heap.size g (.slice a0 Tx.length c0) W wS (.slice ad' (Tx.length+1) cp') (Tx++[t]):=(WrTo.refl HG.o HT4.o.2.2).trans hp;have hex:∃ v1,WrAt w0.heap.size h v2 U wS/\WrAt w0.heap.size g v1 (Tx++[t]) wS/\WrTo w0.heap.size g (.slice a0 Tx.length c0) W wS v1 (Tx++[t]):=⟨_,huS,hp.at',hall⟩
 obtain⟨v1,hex⟩:=hex
 clear HT4 hp hg4a hwS huS hall q56 f56 hV6 r1 r2 r3 hgs q4;have HT4:=Hd hex;clear hex hi0 hz0 hz1 hz2
 obtain⟨i0,hi0,hz0,hz1,hz2⟩:=info_parts Tryz.infoStr
 obtain⟨a1,c1,hv1⟩:=jaJ HT4.o.2.1.row
 obtain⟨n1,hn1⟩:∃ n,n=List.length (Tx++[t]):=⟨_,rfl⟩
 rw[<-hn1]at hv1;subst hv1;have HL1:=Hd hn1;have HR1:=Hd (show World.ownsRow wS 0 9 1 (.slice a1 n1 c1) n1 (List.map Value.string (Tx++[t])) by have h9:=HT4.o.2.1.row;rw[<-hn1]at h9;exact h9);have HCAP:=Hd (jq9 HR1.o);have QG:=Hd (HT4.o.2.1.var.cell (i:=0) (v:=.slice a1 n1 c1) vF);clear hn1
 by_cases hU0:U=[]
 ·have hv2:=HT4.o.1.nil hU0
  subst hv2;have QH:=Hd (HT4.o.1.var.cell (i:=0) (v:=.slice none 0 0) vF);have HU0:=Hd hU0;clear hU0;refine jau [0,1,2,3,4,5,6,7,8,9,10,11,12] [9,12] (Ext) ExtR ExtT vY vY vY ?_;iterate 2 refine vP ?_
  refine qA _ ((.pointer (some ⟨g,0,none⟩))) rfl (fun w1=>by kernel_rfl) ?_;refine vS ?_
  refine vP ?_
  refine qL ⟨g,0,none⟩ _ rfl (fun w1 h1=>jaz (fun w=>by kernel_rfl) (jaa QG.o ((jaj _).trans h1))) ?_;refine vS ?_
  refine vP ?_
  refine qA _ ((.pointer (some ⟨h,0,none⟩))) rfl (fun w1=>by kernel_rfl) ?_;refine vS ?_
  refine vP ?_
  refine qL ⟨h,0,none⟩ _ rfl (fun w1 h1=>jaz (fun w=>by kernel_rfl) (jaa QH.o ((jaj _).trans h1))) ?_;refine vS ?_;refine qH _ rfl (fun w5 he K hK=>?_);refine jcy (v:=.slice a1 n1 c1) (w':=w5) (jep (jcM (i:=i0) Tryz.uStrs hi0 a1 n1 c1 HCAP.o 0 w5) vY) (hK _ _ ?_);have HX5:=Hd ((jaj _).trans he);clear hK K he;refine vS ?_;refine qA _ ((.pointer (some ⟨g,0,none⟩))) rfl (fun w1=>by kernel_rfl) ?_;refine vS ?_
  refine vP ?_
  refine qH _ rfl (fun w8 he8 K hK=>?_);have hg8:=HT4.o.2.1.ext (HX5.o.trans he8);have q8:w8.cell? ⟨g,0,none⟩=some (.slice a1 n1 c1):=hg8.var.cell (i:=0) vF;have f8:w8.frozen? ⟨g,0,none⟩=false:=hg8.var.frozen;have hs8:WrAt w0.heap.size g (.slice a1 n1 c1) (Tx++[t]) (w8.setCell ⟨g,0,none⟩ (.slice a1 n1 c1)):=hg8.same;have H8:=Hd (And.intro hs8 (And.intro (HX5.o.trans he8) hg8));clear hg8 hs8 he8;go_simp;refine hK _ _ ?_;clear hK K q8 f8;refine qE (fun w7 he=>?_);have H9:=Hd (H8.o.1.ext he);have HE9:=Hd he;clear he;go_wp2_with fail
  go_ret;rw[HU0.o]
  exact⟨rfl,_,(HT4.o.2.2.ext H8.o.2.1).trans ((H8.o.2.2.sameTo).ext HE9.o)⟩
 ·obtain⟨a2,c2,hv2⟩:=jaJ HT4.o.1.row
  have hr2:=HT4.o.1.row
  obtain⟨n2,hn2⟩:∃ n,n=List.length U:=⟨_,rfl⟩
  rw[<-hn2]at hv2 hr2;rw[hv2]at hr2
  obtain⟨b2,rfl⟩:=jmu hr2 (fun e=>hU0 (List.eq_nil_of_length_eq_zero vO))
  subst hv2;have HR2:=Hd hr2;have HLN:=Hd hn2.symm;have HU0:=Hd hU0;have HBD:=Hd (show n1+n2<=200000 by have:=HUL.o;have h9:=HL1.o;rw[List.length_append,List.length_singleton]at h9;omega);have QH:=Hd (HT4.o.1.var.cell (i:=0) (v:=.slice (some ⟨b2,0,none⟩) n2 c2) vF);clear hU0 hr2 hn2;refine jau [0,1,2,3,4,5,6,7,8,9,10,11,12] [9,12] (Ext) ExtR ExtT vY vY vY ?_;iterate 2 refine vP ?_
  refine qA _ ((.pointer (some ⟨g,0,none⟩))) rfl (fun w1=>by kernel_rfl) ?_;refine vS ?_
  refine vP ?_
  refine qL ⟨g,0,none⟩ _ rfl (fun w1 h1=>jaz (fun w=>by kernel_rfl) (jaa QG.o ((jaj _).trans h1))) ?_;refine vS ?_
  refine vP ?_
  refine qA _ ((.pointer (some ⟨h,0,none⟩))) rfl (fun w1=>by kernel_rfl) ?_;refine vS ?_
  refine vP ?_
  refine qL ⟨h,0,none⟩ _ rfl (fun w1 h1=>jaz (fun w=>by kernel_rfl) (jaa QH.o ((jaj _).trans h1))) ?_;refine vS ?_;refine qH _ rfl (fun w5 he K hK=>?_);have hX5:=(jaj _).trans he;refine jdj w5 (.tmp 37) (.tmp 41) 34 rfl 9 i0 _ 1 16 Tryz.uStrs hi0 hz0 hz1 hz2 rfl vI (.slice a1 n1 c1) n1 _ rfl (jbe HR1.o hX5) ⟨b2,0,none⟩ n2 c2 (U.map Value.string) rfl (by rw[List.length_map,HLN.o,Nat.mul_one]) (fun j u hj=>by rw[Addr.add_lit,Nat.zero_add];exact (jgJ (jbe HR2.o hX5) hj)) (by intro u hu;obtain⟨y,_,rfl⟩:=List.mem_map.1 hu;rfl) (by have:=HBD.o;unfold maxLen;omega) (by have:=HBD.o;omega) ?_;intro v' w6 r1 r2 r3;have HA:=Hd (And.intro hX5 (And.intro r1 (And.intro r2 r3)))
  obtain⟨a',c',hv'⟩:=jaJ r1
  subst hv';refine hK _ _ ?_;clear hK K he hX5 r1 r2 r3;refine vS ?_;refine qA _ ((.pointer (some ⟨g,0,none⟩))) rfl (fun w1=>by kernel_rfl) ?_;refine vS ?_
  refine vP ?_
  refine qH _ rfl (fun w8 he8 K hK=>?_)
  obtain⟨hX5,r1,r2,r3⟩:=HA.o
  have hg5:=HT4.o.2.1.ext hX5;have hz5:w0.heap.size<=w5.heap.size:=Nat.le_trans hg5.lo (Nat.le_of_lt hg5.var.lt);have hp:=hg5.push (n:=n1+n2) (by rw[List.length_append, <-HL1.o,HLN.o]) (by rw[List.map_append];exact jbe r1 he8) (r2.trans (he8.mono (fun _ _ e=>e.elim))) r3 hz5 HU0.o;have hg8:=(hg5.var.keeps r2 (fun e=>(hg5.own g e).2.1 rfl)).keeps he8 (fun e=>e);have q8:w8.cell? ⟨g,0,none⟩=some (.slice a1 n1 c1):=hg8.cell (i:=0) vF;have f8:w8.frozen? ⟨g,0,none⟩=false:=hg8.frozen;have H8:=Hd (And.intro hp hX5);clear hX5 r1 r2 r3 hg5 hz5 hp hg8 he8;go_simp;refine hK _ _ ?_;clear hK K q8 f8;refine qE (fun w7 he=>?_);have HE9:=Hd he;clear he;go_wp2_with fail
  go_ret;rw[show Tx++t :: U=Tx++[t]++U by rw[List.append_assoc];rfl]
  exact⟨rfl,_,((HT4.o.2.2.ext H8.o.2).trans H8.o.1).ext HE9.o⟩
theorem juA(P:PA)(hT:TopC P):juR P:=by
 intro w0 W T x D g v Tx hc he hP hE hW hl;unfold bigs
 by_cases hz:(textP P).size < 32
 ·rw[if_pos hz]
  exact jpc P hT hz w0 W T x D g v Tx hc he hP hE hW hl
 ·rw[if_neg hz]
  exact jua P hT hz w0 W T x D g v Tx hc he hP hE hW hl
end
end Go.Proofs.YtcpnjmcipainpaaGreatDoor
