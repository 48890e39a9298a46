/- Lemmas. -/
import Derived.Test.YtgmmpefjadjajaaGreatDoorPa0
import Derived.Test.YtgmmpefjadjajaaGreatDoorPa19
namespace Go.Proofs.YtgmmpefjadjajaaGreatDoor
set_option linter.unusedSimpArgs false
set_option linter.unusedVariables false
set_option maxRecDepth 100000
set_option maxHeartbeats 16000000
open Go Go.RowKit
variable (R:Ai->Nat->Option (PA × Nat))(G:vB->Option Ai)(f:Nat){z g b L d:Nat}{m n:Ai}{r:vB}{T T':vM}{v v' v'':vV}{W W' W'' W0:vW}
section
attribute [local go_sem] Oper.semAt_some
structure Vb(z g:Nat)(v:Value)(T:vM)(W:World):Prop where
 lo:z<=g
 var:Ae W g (.cells #[v] 51)
 row:∃ n,W.ownsRow 0 9 1 v n (T.map Value.string)
 own:∀ b,v.ownBlock=some b->z<=b/\b≠g/\b<(W:Nat)
theorem Vb.ext(h:Vb z g v T W)(e:Af W W'):Vb z g v T W':=by
 obtain⟨n,q⟩:=h.row
 exact⟨h.lo,h.var.Z e kI,⟨n,Kh q e⟩,λb hb=>⟨(h.own b hb).1,(h.own b hb).2.1,bE (h.own b hb).2.2 e.size⟩⟩
theorem Vb.off{F:Bd}(h:Vb z g v T W)(e:Ad F W W')(h1:¬ F g)(h2:∀ b,v.ownBlock=some b->¬ F b):Vb z g v T W':=by
 obtain⟨n,q⟩:=h.row
 exact⟨h.lo,h.var.Z e h1,⟨n,Lb q e h2⟩,λb hb=>⟨(h.own b hb).1,(h.own b hb).2.1,bE (h.own b hb).2.2 e.size⟩⟩
structure Qd(z g:Nat)(v:Value)(W W':World)(v':Value)(T':vM):Prop where
 at':Vb z g v' T' W'
 kp:Ad (λb=>b=g\/v.ownBlock=some b) W W'
 sub:∀ b,v'.ownBlock=some b->v.ownBlock=some b\/(W:Nat)<=b
theorem Qd.refl(h:Vb z g v T W)(e:Af W W'):Qd z g v W W' v T:=⟨h.ext e,e.mono kZ,λb hb=>.inl hb⟩
theorem Qd.trans(h:Qd z g v W W' v' T)(k:Qd z g v' W' W'' v'' T'):Qd z g v W W'' v'' T':=
 ⟨k.at',h.kp.O k.kp (λx q e=>by
  rcases e with e|e
  ·exact .inl e
  ·rcases h.sub x e with e|e
   ·exact .inr e
   ·omega),λb hb=>by
  rcases k.sub b hb with e|e
  ·exact h.sub b e
  ·exact .inr (bH h.kp.size e)⟩
theorem Qd.ext(h:Qd z g v W W' v' T)(e:Af W' W''):Qd z g v W W'' v' T:=h.trans (Qd.refl h.at' e)
theorem Qd.blk(h:Qd z g v W W' v' T){o:Obj}(hB:Ae W b o)(h1:b≠g)(h2:v.ownBlock≠some b):Ae W' b o:=hB.Z h.kp (λe=>e.elim h1 h2)
theorem Qd.ext0(h:Qd z g v W W' v' T')(k:Vb z g v T W)(e:Af W0 W)(hz:(W0:Nat)<=z):Af W0 W':=
 e.O h.kp (λx q e=>by
  rcases e with e|e
  ·have:=k.lo;omega
  ·have:=(k.own x e).1;omega)
theorem Qd.fill(h:Qd z g v W W' v' T)(e:Ad (λb=>b=L) W' W'')(h1:L≠g)(h2:v'.ownBlock≠some L)(h3:(W:Nat)<=L):Qd z g v W W'' v' T:=
 ⟨h.at'.off e (λx=>h1 x.symm) λb hb x=>h2 (by rw[hb,x]),h.kp.O e λx q y=>by have y:x=L:=y;omega,h.sub⟩
theorem U1(z g:Nat)(v:vV)(T:vM)(W:vW)(h:Vb z g v T W)(hz:z<=(W:Nat))(hT:T.length<=1000000)(x:vB):vQ 139 #[x,g] W λe w'=>e=.returned (.tuple #[])/\∃ v',Qd z g v W w' v' (T++[x]):=by
 obtain⟨n,hR⟩:=h.row
 have hn:n=T.length:=by have:=hR.1;simpa using this.symm
 obtain⟨ad,O,rfl⟩:=Ir hR
 have q:=h.var.cell (i:=0) (v:=.slice ad n O) vF;have a1:n+1<=maxLen:=by unfold maxLen;omega
 have a2:(n+1)*16<=140737488355328:=vO
 have HV:=J h.var;have HR:=J hR;have HO:=J h.own;have a3:=J h.lo;have HZ:=J hz;clear h hR hn hz hT;unfold vQ;go_in
 obtain⟨i0,hi,a4,a5,a7⟩:=info_parts Bn
 go_wp2_with (at_builtin;refine FR _ rfl (.tmp 3) (.tmp 5) 51 rfl 9 i0 _ 1 16 Bg hi a4 a5 a7 rfl vI (.slice ad n O) n _ rfl (Kh HR.o ((Aa W).alloc _)) W 1 1 [x] rfl rfl (Jx (Ae.new W _)) zc a1 a2 ?_;intro v' Z r1 r2 r3;obtain⟨A,H,rfl⟩:=Ir r1;have a8:=HV.o.lt;have X:=(HV.o.alloc _).Z r2 (λe=>(HO.o g e).2.1 rfl);have a9:Z.cell? g=some (.slice ad n O):=X.cell (i:=0) vF;have b0:Z.frozen? g=false:=X.frozen)
 refine bodyPost_end (results_none rfl _ _ _) rfl ?_;have K7:=Ad.z4 Z g (.slice A (n+1) H);have hK:Ad (λb=>b=g\/(Value.slice ad n O).ownBlock=some b) W (Z.setCell g (.slice A (n+1) H)):=((((Aa W).alloc _).mono kZ:Ad (λb=>b=g\/(Value.slice ad n O).ownBlock=some b) W _).O (r2.mono (λ_ _ e=>.inr e):Ad (λb=>b=g\/(Value.slice ad n O).ownBlock=some b) _ Z) λx hx e=>e).O K7 (λx hx e=>.inl e)
 have K:∀ b,(Value.slice A (n+1) H).ownBlock=some b->(Value.slice ad n O).ownBlock=some b\/(W:Nat)<=b:=λb hb=>by rcases r3 with r3|r3;{exact .inl (r3 ▸ hb)};have h9:=r3 b hb;rw[bJ]at h9;exact .inr vO
 have a0:∀ b,(Value.slice A (n+1) H).ownBlock=some b->b≠g:=λb hb=>by rcases K b hb with e|e;{exact (HO.o b e).2.1};omega
 refine⟨rfl,.slice A (n+1) H,⟨a3.o,X.z2 (i:=0) _,⟨n+1,?_⟩,λb hb=>⟨?_,a0 b hb,?_⟩⟩,hK,K⟩
 ·rw[bW];exact Lb r1 K7 (λb hb e=>a0 b hb e)
 ·rcases K b hb with e|e;{exact (HO.o b e).1};exact bH HZ.o e
 ·exact bE (tC r1 hb) K7.size
def X5(z g:Nat)(v:vV)(T:vM)(W:vW)(n:Ai)(e:Ending)(w':vW):Prop:=e=.returned (.tuple #[n.V,true])/\∃ v',Qd z g v W w' v' T
theorem QE(w0 W:vW)(s bm:Nat)(room:Int)(S:vT)(hs:Ev w0 s bm room S)(hE0:Af w0 W)(g:Nat)(v:vV)(T:vM)(h:Vb w0 g v T W)(hT:T.length<=1000000)(t:vB)(hH:Md S t)(f:Nat)(n:Ai)(hg:Gn (Bx f) n)(ht:t=Cu n):vQ 135 #[s,Aj t,.func (.func 139) #[] #[g]] W (X5 w0 g v (T++[t]) W n):=by
 have HS:=J hs;have a2:=J hE0;have HM:=J h;have HT:=J ht;have HG:=J hg;have hn:=(hg.one (Bm f)).refs;have HN:=J hn;have HL:=J (n.z3 hn);have b5:=J hT
 obtain⟨y,q,a3⟩:=hH
 have A:=λw (h:Ev w s bm room S)=>AL w s bm room S (Aj t) h;have q:Be S (Aj t).data.toList=some y:=q;rw[q]at A;have a4:(some y).map (λz:Gk=>z.2.2.text)=some t:=by rw[<-a3];rfl
 simp only[a4]at A;have a5:=J A
 obtain⟨k,hk⟩:=vE (Aj t)
 rw[<-hk]at a5 ⊢;clear h hs hE0 ht hg hn q a3 A a4 hk hT;unfold vQ;go_in;go_wp2_with (refine Di Ac rfl rfl ?_;intro W1 a7 X)
 refine vC (a5.o W1 (HS.o.ext (a2.o.trans X))) λw3 Z=>?_;unfold Cw;have a8:=J (a7.Z Z kI);have H:=J (X.trans Z);have b6:=J (HM.o.ext H.o);clear Z a7 X;go_wp2_with fail
 refine (U1 w0 g v T w3 b6.o (a2.o.trans H.o).size b5.o t).mono ?_;rintro e w4 ⟨rfl,v',a0⟩;have a9:=HM.o.var.lt;have b0:=J (a0.blk a8.o vO λe=>kL ((HM.o.own _ e).2.2));have b7:=J a0;clear a0 a9;go_wp2_with fail
 rw[HT.o];refine vC (AJ (Bm f) w4 n HG.o) λw5 Z=>?_;rw[<-HT.o];have O:=b0.o.Z Z kI;have b1:=J Z;clear Z b0;unfold Ai.V;go_wp2_with (first|(refine Di Ac rfl rfl ?_;intro W5 b8 b2;refine Bt (vs:=n.cells) rfl rfl rfl rfl b8 (by rw[HL.o];rfl) (by rw[HL.o];exact Ab) n.one ?_;intro W6 b9 b3;have a1:=(O.Z b2 kI).Z b3 (kL O.lt))|(refine Gz 215 (.tmp 10) rfl rfl _ _ rfl (Ka _ _ n HN.o b9) ?_)|(refine Bt (vs:=n.cells) rfl rfl rfl rfl a1 (by rw[HL.o];rfl) (by rw[HL.o];exact Ab) n.one ?_;intro W8 c0 b4))
 refine bodyPost_ret (Ot rfl rfl rfl (Qb W8 _ n HN.o c0)) rfl ?_;have c1:Af w4 W6:=(b1.o.trans b2).O b3 (λx hx e=>by have e:x=(w5:Nat):=e;have:=b1.o.size;omega);have K:=b7.o.ext c1;have k8:Ad (λb=>b=g\/v.ownBlock=some b) W W8:=((H.o.mono kZ:Ad (λb=>b=g\/v.ownBlock=some b) W w3).O K.kp λx hx e=>e).O b4 kJ;have a9:=HM.o.var.lt
 refine⟨rfl,v',⟨K.at'.off b4 (λe=>by have e:g=(W:Nat):=e;omega) λb hb e=>?_,k8,λb hb=>(K.sub b hb).imp id λk=>bH H.o.size k⟩⟩
 rcases K.sub b hb with k|k
 ·have:=(HM.o.own b k).2.2;omega
 ·have:=a8.o.lt;omega
theorem sJ(W:vW)(s bm:Nat)(room:Int)(S:vT)(hs:Ev W s bm room S)(u:vV)(k:vB)(hH:Be S k.data.toList=none):vR 135 #[s,k,u] W (.tuple #[Cv.V,false]):=by
 have q:=λw (h:Ev w s bm room S)=>AL w s bm room S k h;rw[hH]at q;simp only[Option.map_none,Cw]at q;have K:=J q;have HS:=J hs;clear q hs hH;unfold vR vQ;go_in;go_wp2_with (refine Di Ac rfl rfl ?_;intro W1 H A)
 refine vC (K.o W1 (HS.o.ext A)) λw3 O=>?_;have X:=H.Z O kI;have Z:=J (A.trans O);clear O H A;go_wp2_with (refine Bt (vs:=Cv.cells) rfl rfl rfl rfl X rfl Ab Cv.one ?_;intro W8 a0 a1)
 refine bodyPost_ret (Ot rfl rfl rfl (Qb W8 _ Cv rfl a0)) rfl ?_
 exact⟨rfl,Z.o.O a1 kJ⟩
end
noncomputable def Ti(r:vB):Ai:=@dite _ (∃ m d,Bx d r m) (Classical.propDecidable _) (λh=>h.choose) (λ_=>Cv)
theorem H3(w:vW)(h:Bx d r m)(k:Bx g r n):m=n:=by
 cases d with
 |zero=>exact h.elim
 |succ d =>cases g with| zero=>exact k.elim| succ g=>exact lN w h.1 k.1 (h.2.1.symm.trans k.2.1)
theorem US(w:vW)(h:Bx d r m):Ti r=m:=by
 have e:∃ m d,Bx d r m:=⟨m,d,h⟩;unfold Ti;rw[dif_pos e]
 obtain⟨g,q⟩:=e.choose_spec
 exact H3 w q h
noncomputable def Bp(S:vT)(r:vB):Option Ai:=match Lf r with
 |some h=>(Be S h.data.toList).map λx=>Bq x.2.2.text
 |none=>some (Ti r)
def Tq(R:Ai->Nat->Option (PA × Nat))(G:vB->Option Ai)(rs:vM):Nat->Nat->Option ((Nat->PA) × Nat)
 |0,left=>some (λ_=>.nil,left)
 |k+1,left=>(Tq R G rs k left).bind λx=>if (rs.getD k ()).size=0 then some x else (G (rs.getD k ())).bind λm=>(R m x.2).map λy=>(Cd x.1 k y.1,y.2)
def Hu(G:vB->Option Ai):Nat->Ai->Nat->Option (PA × Nat)
 |0,_,_=>none
 |f+1,n,left=>if left=0 then none
  else if n.kind=1 then some (.leaf n.path n.value,left-1)
  else if n.kind=2 then (G (n.refs.getD 0 ())).bind λm=>(Hu G f m (left-1)).map λx=>(.ext n.path x.1,x.2)
  else if n.kind=3 then (Tq (Hu G f) G n.refs 16 (left-1)).map λx=>(.br n.value x.1,x.2)
  else some (.no,left-1)
theorem aH(n:Ai):Hu G f n 0=none:=by
 cases f with
 |zero=>rfl
 |succ f=>rfl
theorem MZ(rs:vM)(k left:Nat):Tq R G rs (k+1) left=(Tq R G rs k left).bind λx=>if (rs.getD k ()).size=0 then some x else (G (rs.getD k ())).bind λm=>(R m x.2).map λy=>(Cd x.1 k y.1,y.2):=rfl
theorem JV(n:Ai)(left:Nat):Hu G (f+1) n left=if left=0 then none
  else if n.kind=1 then some (.leaf n.path n.value,left-1)
  else if n.kind=2 then (G (n.refs.getD 0 ())).bind λm=>(Hu G f m (left-1)).map λx=>(.ext n.path x.1,x.2)
  else if n.kind=3 then (Tq (Hu G f) G n.refs 16 (left-1)).map λx=>(.br n.value x.1,x.2)
  else some (.no,left-1):=rfl
theorem VE{R:Ai->Nat->Option (PA × Nat)}{G:vB->Option Ai}{rs:vM}(hR:∀ m l y,R m l=some y->y.2<=l):∀ (k left:Nat) (x:(Nat->PA) × Nat),Tq R G rs k left=some x->x.2<=left
 |0,left,x,h=>by
  have h:some ((λ_=>PA.nil),left)=some x:=h;rw[<-bV h];exact bO _
 |k+1,left,x,h=>by
  rw[MZ,Option.bind_eq_some_iff]at h
  obtain⟨y,A,h⟩:=h
  have q:=VE hR k left y A
  by_cases h0:(rs.getD k ()).size=0
  ·rw[if_pos h0]at h
   rw[<-bV h];exact q
  ·rw[if_neg h0,Option.bind_eq_some_iff]at h
   obtain⟨m,_,h⟩:=h
   rw[dH]at h
   obtain⟨z,H,e⟩:=h
   have:=hR m y.2 z H
   rw[<-e];exact bH this q
theorem UO(G:vB->Option Ai):∀ (f:Nat) (n:Ai) (left:Nat) (y:PA × Nat),Hu G f n left=some y->y.2<=left-1
 |0,_,_,_,h=>by cases h
 |f+1,n,left,y,h=>by
  rw[JV]at h
  by_cases h0:left=0
  ·rw[if_pos h0]at h;cases h
  rw[if_neg h0]at h
  by_cases h1:n.kind=1
  ·rw[if_pos h1]at h
   rw[<-bV h];exact bO _
  rw[if_neg h1]at h
  by_cases h2:n.kind=2
  ·rw[if_pos h2,Option.bind_eq_some_iff]at h
   obtain⟨m,_,h⟩:=h
   rw[dH]at h
   obtain⟨z,q,e⟩:=h
   have:=UO G f m _ z q
   rw[<-e];show z.2<=left-1;omega
  rw[if_neg h2]at h
  by_cases h3:n.kind=3
  ·rw[if_pos h3,dH]at h
   obtain⟨z,q,e⟩:=h
   have:=VE (λm l y h=>bH (UO G f m l y h) (Nat.sub_le _ _)) 16 _ z q
   rw[<-e];exact this
  rw[if_neg h3]at h;rw[<-bV h];exact bO _
def Ee(W:vW)(rb s left:Nat):Prop:=Ae W rb (.cells #[s,(left:Int)] 314)
def DK(W W':vW):Nat->Prop:=λz=>(W:Nat)<=z/\z<(W':Nat)
def So(W:vW)(rb s:Nat)(o:Option (PA × Nat))(e:Ending)(w':vW):Prop:=Ad (λz=>z=rb) W w'/\match o with
 |some (P,l)=>∃ T x,e=.returned (.tuple #[.iface T x,true])/\Cc P (.iface T x) (DK W w') w'/\Ee w' rb s l
 |none=>∃ v l,e=.returned (.tuple #[v,false])/\(v=.nilIface\/∃ T x,v=.iface T x)/\Ee w' rb s l
def AH(S:vT):Prop:=∀ x∈S,∃ n,Hv x.2.2.text n
