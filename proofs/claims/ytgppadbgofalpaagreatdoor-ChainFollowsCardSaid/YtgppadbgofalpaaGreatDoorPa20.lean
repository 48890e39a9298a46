/- Lemmas; each is under no condition but those that it states. -/
import Derived.Test.YtgppadbgofalpaaGreatDoorPa0
import Derived.Test.YtgppadbgofalpaaGreatDoorPa19
namespace Go.Proofs.YtgppadbgofalpaaGreatDoor
set_option linter.unusedSimpArgs false
set_option linter.unusedVariables false
set_option maxRecDepth 100000
set_option maxHeartbeats 16000000
open Go Go.RowKit
variable (R:Ai->Nat->Option (PA × Nat))(G:vB->Option Ai)(f:Nat){z g b d:Nat}{m n:Ai}{r:vB}{T T':vM}{v v' v'':vV}{W W' W'' W0:vW}
section
attribute [local go_sem] Oper.semAt_some
structure Wo(z g:Nat)(v:Value)(T:vM)(W:World):Prop where
 lo:z<=g
 var:Ae W g (.cells #[v] 52)
 row:∃ n,W.ownsRow 0 9 1 v n (T.map Value.string)
 own:∀ b,v.ownBlock=some b->z<=b/\b≠g/\b < W.heap.size
theorem Wo.ext(h:Wo z g v T W)(e:Af W W'):Wo z g v T W':=by
 obtain⟨n,q⟩:=h.row
 exact⟨h.lo,h.var.keeps e kI,⟨n,Jy q e⟩,fun b hb=>⟨(h.own b hb).1,(h.own b hb).2.1,bE (h.own b hb).2.2 e.size⟩⟩
theorem Wo.off{F:Bf}(h:Wo z g v T W)(e:Ad F W W')(h1:¬ F g)(h2:∀ b,v.ownBlock=some b->¬ F b):Wo z g v T W':=by
 obtain⟨n,q⟩:=h.row
 exact⟨h.lo,h.var.keeps e h1,⟨n,Kq q e h2⟩,fun b hb=>⟨(h.own b hb).1,(h.own b hb).2.1,bE (h.own b hb).2.2 e.size⟩⟩
structure Sz(z g:Nat)(v:Value)(W W':World)(v':Value)(T':vM):Prop where
 at':Wo z g v' T' W'
 kp:Ad (fun b=>b=g\/v.ownBlock=some b) W W'
 sub:∀ b,v'.ownBlock=some b->v.ownBlock=some b\/W.heap.size<=b
theorem Sz.refl(h:Wo z g v T W)(e:Af W W'):Sz z g v W W' v T:=⟨h.ext e,e.mono kZ,fun b hb=>.inl hb⟩
theorem Sz.trans(h:Sz z g v W W' v' T)(k:Sz z g v' W' W'' v'' T'):Sz z g v W W'' v'' T':=
 ⟨k.at',h.kp.trans' k.kp (fun x q e=>by
  rcases e with e | e
  ·exact .inl e
  ·rcases h.sub x e with e | e
   ·exact .inr e
   ·omega),fun b hb=>by
  rcases k.sub b hb with e | e
  ·exact h.sub b e
  ·exact .inr (bF h.kp.size e)⟩
theorem Sz.ext(h:Sz z g v W W' v' T)(e:Af W' W''):Sz z g v W W'' v' T:=h.trans (Sz.refl h.at' e)
theorem Sz.blk(h:Sz z g v W W' v' T){o:Obj}(hB:Ae W b o)(h1:b≠g)(h2:v.ownBlock≠some b):Ae W' b o:=hB.keeps h.kp (fun e=>e.elim h1 h2)
theorem Sz.ext0(h:Sz z g v W W' v' T')(k:Wo z g v T W)(e:Af W0 W)(hz:W0.heap.size<=z):Af W0 W':=
 e.trans' h.kp (fun x q e=>by
  rcases e with e | e
  ·have:=k.lo;omega
  ·have:=(k.own x e).1;omega)
theorem jyk(z g:Nat)(v:vV)(T:vM)(W:vW)(h:Wo z g v T W)(hz:z<=W.heap.size)(hT:T.length<=1000000)(x:vB):vQ 145 #[x,g] W fun e w'=>e=.returned (.tuple #[])/\∃ v',Sz z g v W w' v' (T++[x]):=by
 obtain⟨n,hR⟩:=h.row
 have hn:n=T.length:=by have:=hR.1;simpa using this.symm
 obtain⟨ad,K,rfl⟩:=Ir hR
 have q:=h.var.cell (i:=0) (v:=.slice ad n K) vF;have a1:n+1<=maxLen:=by unfold maxLen;omega
 have a2:(n+1) * 16<=140737488355328:=vO
 have HV:=Hd h.var;have HR:=Hd hR;have HO:=Hd h.own;have a3:=Hd h.lo;have HZ:=Hd hz;clear h hR hn hz hT;unfold vQ;go_in
 obtain⟨i0,hi,a4,a5,a7⟩:=info_parts Bl
 go_wp2_with (at_builtin;refine EX _ rfl (.tmp 3) (.tmp 5) 52 rfl 9 i0 _ 1 16 Bd hi a4 a5 a7 rfl vI (.slice ad n K) n _ rfl (Jy HR.o ((Aa W).alloc _)) W 1 1 [x] rfl rfl (Jx (Ae.new W _)) (by simp[Value.oneCell']) a1 a2 ?_;intro v' X r1 r2 Z;obtain⟨A,H,rfl⟩:=Ir r1;have a8:=HV.o.lt;have O:=(HV.o.alloc _).keeps r2 (fun e=>(HO.o g e).2.1 rfl);have a9:X.cell? g=some (.slice ad n K):=O.cell (i:=0) vF;have b0:X.frozen? g=false:=O.frozen)
 refine bodyPost_end (results_none rfl _ _ _) rfl ?_;have K7:=Ad.oneSet X g (.slice A (n+1) H);have hK:Ad (fun b=>b=g\/(Value.slice ad n K).ownBlock=some b) W (X.setCell g (.slice A (n+1) H)):=((((Aa W).alloc _).mono kZ:Ad (fun b=>b=g\/(Value.slice ad n K).ownBlock=some b) W _).trans' (r2.mono (fun _ _ e=>.inr e):Ad (fun b=>b=g\/(Value.slice ad n K).ownBlock=some b) _ X) (fun x hx e=>e)).trans' K7 (fun x hx e=>.inl e)
 have J:∀ b,(Value.slice A (n+1) H).ownBlock=some b->(Value.slice ad n K).ownBlock=some b\/W.heap.size<=b:=fun b hb=>by rcases Z with Z | Z;{exact .inl (Z ▸ hb)};have h9:=Z b hb;rw[bG]at h9;exact .inr vO
 have a0:∀ b,(Value.slice A (n+1) H).ownBlock=some b->b≠g:=fun b hb=>by rcases J b hb with e | e;{exact (HO.o b e).2.1};omega
 refine⟨rfl,.slice A (n+1) H,⟨a3.o,O.set_same (i:=0) _,⟨n+1,?_⟩,fun b hb=>⟨?_,a0 b hb,?_⟩⟩,hK,J⟩
 ·rw[bW];exact Kq r1 K7 (fun b hb e=>a0 b hb e)
 ·rcases J b hb with e | e;{exact (HO.o b e).1};exact bF HZ.o e
 ·exact bE (rR r1 hb) K7.size
def jzi(z g:Nat)(v:vV)(T:vM)(W:vW)(n:Ai)(e:Ending)(w':vW):Prop:=e=.returned (.tuple #[n.V,true])/\∃ v',Sz z g v W w' v' T
theorem wU(w0 W:vW)(s bm:Nat)(room:Int)(S:vT)(hs:Ev w0 s bm room S)(hE0:Af w0 W)(g:Nat)(v:vV)(T:vM)(h:Wo w0 g v T W)(hT:T.length<=1000000)(t:vB)(hH:Oz S t)(f:Nat)(n:Ai)(hg:Gi (Bs f) n)(ht:t=Cr n):vQ 141 #[s,Ak t,.func (.func 145) #[] #[g]] W (jzi w0 g v (T++[t]) W n):=by
 have HS:=Hd hs;have a1:=Hd hE0;have HM:=Hd h;have HT:=Hd ht;have HG:=Hd hg;have hn:=(hg.one (Br f)).refs;have HN:=Hd hn;have HL:=Hd (n.cells_len hn);have b4:=Hd hT
 obtain⟨y,q,a2⟩:=hH
 have A:=fun w (h:Ev w s bm room S)=>BG w s bm room S (Ak t) h;have q:Be S (Ak t).data.toList=some y:=q;rw[q]at A;have a3:(some y).map (fun z:Gd=>z.2.2.text)=some t:=by rw[<-a2];rfl
 simp only[a3]at A;have a4:=Hd A
 obtain⟨k,hk⟩:=vE (Ak t)
 rw[<-hk]at a4 ⊢;clear h hs hE0 ht hg hn q a2 A a3 hk hT;unfold vQ;go_in;go_wp2_with (refine Di Ac rfl rfl ?_;intro W1 a5 O)
 refine vC (a4.o W1 (HS.o.ext (a1.o.trans O))) fun w3 X=>?_;unfold Dg;have a7:=Hd (a5.keeps X kI);have H:=Hd (O.trans X);have b5:=Hd (HM.o.ext H.o);clear X a5 O;go_wp2_with fail
 refine (jyk w0 g v T w3 b5.o (a1.o.trans H.o).size b4.o t).mono ?_;rintro e w4 ⟨rfl,v',Z⟩;have a8:=HM.o.var.lt;have a9:=Hd (Z.blk a7.o vO (fun e=>kL ((HM.o.own _ e).2.2)));have b6:=Hd Z;clear Z a8;go_wp2_with fail
 rw[HT.o];refine vC (Zt (Br f) w4 n HG.o) fun w5 X=>?_;rw[<-HT.o];have K:=a9.o.keeps X kI;have b0:=Hd X;clear X a9;unfold Ai.V;go_wp2_with (first |(refine Di Ac rfl rfl ?_;intro W5 b7 b1;refine Bv (vs:=n.cells) rfl rfl rfl rfl b7 (by rw[HL.o];rfl) (by rw[HL.o];exact Ab) n.one ?_;intro W6 b8 b2;have a0:=(K.keeps b1 kI).keeps b2 (kL K.lt)) |(refine Gv 215 (.tmp 10) rfl rfl _ _ rfl (Jq _ _ n HN.o b8) ?_) |(refine Bv (vs:=n.cells) rfl rfl rfl rfl a0 (by rw[HL.o];rfl) (by rw[HL.o];exact Ab) n.one ?_;intro W8 b9 b3))
 refine bodyPost_ret (Od rfl rfl rfl (Pm W8 _ n HN.o b9)) rfl ?_;have c0:Af w4 W6:=(b0.o.trans b1).trans' b2 (fun x hx e=>by have e:x=w5.heap.size:=e;have:=b0.o.size;omega);have J:=b6.o.ext c0;have k8:Ad (fun b=>b=g\/v.ownBlock=some b) W W8:=((H.o.mono kZ:Ad (fun b=>b=g\/v.ownBlock=some b) W w3).trans' J.kp (fun x hx e=>e)).trans' b3 kJ;have a8:=HM.o.var.lt
 refine⟨rfl,v',⟨J.at'.off b3 (fun e=>by have e:g=W.heap.size:=e;omega) (fun b hb e=>?_),k8,fun b hb=>(J.sub b hb).imp id (fun k=>bF H.o.size k)⟩⟩
 rcases J.sub b hb with k | k
 ·have:=(HM.o.own b k).2.2;omega
 ·have:=a7.o.lt;omega
theorem rZ(W:vW)(s bm:Nat)(room:Int)(S:vT)(hs:Ev W s bm room S)(u:vV)(k:vB)(hH:Be S k.data.toList=none):vR 141 #[s,k,u] W (.tuple #[Db.V,false]):=by
 have q:=fun w (h:Ev w s bm room S)=>BG w s bm room S k h;rw[hH]at q;simp only[Option.map_none,Dg]at q;have J:=Hd q;have HS:=Hd hs;clear q hs hH;unfold vR vQ;go_in;go_wp2_with (refine Di Ac rfl rfl ?_;intro W1 H A)
 refine vC (J.o W1 (HS.o.ext A)) fun w3 K=>?_;have O:=H.keeps K kI;have X:=Hd (A.trans K);clear K H A;go_wp2_with (refine Bv (vs:=Db.cells) rfl rfl rfl rfl O rfl Ab Db.one ?_;intro W8 Z a0)
 refine bodyPost_ret (Od rfl rfl rfl (Pm W8 _ Db rfl Z)) rfl ?_
 exact⟨rfl,X.o.trans' a0 kJ⟩
end
noncomputable def Ss(r:vB):Ai:=@dite _ (∃ m d,Bs d r m) (Classical.propDecidable _) (fun h=>h.choose) (fun _=>Db)
theorem jvH(w:vW)(h:Bs d r m)(k:Bs g r n):m=n:=by
 cases d with
 | zero=>exact h.elim
 | succ d =>cases g with| zero=>exact k.elim| succ g=>exact kQ w h.1 k.1 (h.2.1.symm.trans k.2.1)
theorem UD(w:vW)(h:Bs d r m):Ss r=m:=by
 have e:∃ m d,Bs d r m:=⟨m,d,h⟩;unfold Ss;rw[dif_pos e]
 obtain⟨g,q⟩:=e.choose_spec
 exact jvH w q h
noncomputable def Bn(S:vT)(r:vB):Option Ai:=match Kv r with
 | some h=>(Be S h.data.toList).map fun x=>Bo x.2.2.text
 | none=>some (Ss r)
def Ta(R:Ai->Nat->Option (PA × Nat))(G:vB->Option Ai)(rs:vM):Nat->Nat->Option ((Nat->PA) × Nat)
 | 0,left=>some (fun _=>.nil,left)
 | k+1,left=>(Ta R G rs k left).bind fun x=>if (rs.getD k ⟨#[]⟩).size=0 then some x else (G (rs.getD k ⟨#[]⟩)).bind fun m=>(R m x.2).map fun y=>(Ca x.1 k y.1,y.2)
def Hp(G:vB->Option Ai):Nat->Ai->Nat->Option (PA × Nat)
 | 0,_,_=>none
 | f+1,n,left=>if left=0 then none
  else if n.kind=1 then some (.leaf n.path n.value,left - 1)
  else if n.kind=2 then (G (n.refs.getD 0 ⟨#[]⟩)).bind fun m=>(Hp G f m (left - 1)).map fun x=>(.ext n.path x.1,x.2)
  else if n.kind=3 then (Ta (Hp G f) G n.refs 16 (left - 1)).map fun x=>(.br n.value x.1,x.2)
  else some (.no,left - 1)
theorem aM(n:Ai):Hp G f n 0=none:=by
 cases f with
 | zero=>rfl
 | succ f=>rfl
theorem MR(rs:vM)(k left:Nat):Ta R G rs (k+1) left=(Ta R G rs k left).bind fun x=>if (rs.getD k ⟨#[]⟩).size=0 then some x else (G (rs.getD k ⟨#[]⟩)).bind fun m=>(R m x.2).map fun y=>(Ca x.1 k y.1,y.2):=rfl
theorem JD(n:Ai)(left:Nat):Hp G (f+1) n left=if left=0 then none
  else if n.kind=1 then some (.leaf n.path n.value,left - 1)
  else if n.kind=2 then (G (n.refs.getD 0 ⟨#[]⟩)).bind fun m=>(Hp G f m (left - 1)).map fun x=>(.ext n.path x.1,x.2)
  else if n.kind=3 then (Ta (Hp G f) G n.refs 16 (left - 1)).map fun x=>(.br n.value x.1,x.2)
  else some (.no,left - 1):=rfl
theorem TZ{R:Ai->Nat->Option (PA × Nat)}{G:vB->Option Ai}{rs:vM}(hR:∀ m l y,R m l=some y->y.2<=l):∀ (k left:Nat) (x:(Nat->PA) × Nat),Ta R G rs k left=some x->x.2<=left
 | 0,left,x,h=>by
  have h:some ((fun _=>PA.nil),left)=some x:=h;rw[<-bV h];exact bP _
 | k+1,left,x,h=>by
  rw[MR,Option.bind_eq_some_iff]at h
  obtain⟨y,A,h⟩:=h
  have q:=TZ hR k left y A
  by_cases h0:(rs.getD k ⟨#[]⟩).size=0
  ·rw[if_pos h0]at h
   rw[<-bV h];exact q
  ·rw[if_neg h0,Option.bind_eq_some_iff]at h
   obtain⟨m,_,h⟩:=h
   rw[dG]at h
   obtain⟨z,H,e⟩:=h
   have:=hR m y.2 z H
   rw[<-e];exact bF this q
theorem UA(G:vB->Option Ai):∀ (f:Nat) (n:Ai) (left:Nat) (y:PA × Nat),Hp G f n left=some y->y.2<=left - 1
 | 0,_,_,_,h=>by cases h
 | f+1,n,left,y,h=>by
  rw[JD]at h
  by_cases h0:left=0
  ·rw[if_pos h0]at h;cases h
  rw[if_neg h0]at h
  by_cases h1:n.kind=1
  ·rw[if_pos h1]at h
   rw[<-bV h];exact bP _
  rw[if_neg h1]at h
  by_cases h2:n.kind=2
  ·rw[if_pos h2,Option.bind_eq_some_iff]at h
   obtain⟨m,_,h⟩:=h
   rw[dG]at h
   obtain⟨z,q,e⟩:=h
   have:=UA G f m _ z q
   rw[<-e];show z.2<=left - 1;omega
  rw[if_neg h2]at h
  by_cases h3:n.kind=3
  ·rw[if_pos h3,dG]at h
   obtain⟨z,q,e⟩:=h
   have:=TZ (fun m l y h=>bF (UA G f m l y h) (Nat.sub_le _ _)) 16 _ z q
   rw[<-e];exact this
  rw[if_neg h3]at h;rw[<-bV h];exact bP _
def Eb(W:vW)(rb s left:Nat):Prop:=Ae W rb (.cells #[s,(left:Int)] 308)
def CT(W W':vW):Nat->Prop:=fun z=>W.heap.size<=z/\z < W'.heap.size
def Ry(W:vW)(rb s:Nat)(o:Option (PA × Nat))(e:Ending)(w':vW):Prop:=Ad (fun z=>z=rb) W w'/\match o with
 | some (P,l)=>∃ T x,e=.returned (.tuple #[.iface T x,true])/\Bw P (.iface T x) (CT W w') w'/\Eb w' rb s l
 | none=>∃ v l,e=.returned (.tuple #[v,false])/\(v=.nilIface\/∃ T x,v=.iface T x)/\Eb w' rb s l
def BH(S:vT):Prop:=∀ x∈S,∃ n,Ht x.2.2.text n
