/- Lemmas; each is under no condition but those that it states. -/
import Derived.Test.YtgppadbgofalpaaGreatDoorPa0
import Derived.Test.YtgppadbgofalpaaGreatDoorPa18
import Derived.Stop.Asserts
namespace Go.Proofs.YtgppadbgofalpaaGreatDoor
set_option linter.unusedSimpArgs false
set_option linter.unusedVariables false
set_option maxRecDepth 100000
set_option maxHeartbeats 16000000
open Go Go.RowKit
variable (T:vM)(k:El)(r q u u':vB)(vk:Nat->vV)(wr w0 W w:vW)(f c b:Nat)(ks:Nat->PA)(p:vB){room:Int}{s m i bg bm n:Nat}{Dk:Nat->Nat->Prop}{D D' E:Nat->Prop}{y x:Gd}{P:PA}{name pos:String}{t a:vB}{l xs:vL}{F U:vM}{A S G S1 L B:vT}{v:vV}{W' w' W1 w5 w4:vW}
def Oh(P:PA)(d:Bk):PA:=if d.gone then Ho P (Ci d.key)else Dh P (Ci d.key) d.value
def CP(q:vN)(o:Option vB)(c:Bk):Option vB:=if q=(Ci c.key).data.toList then c.o else o
theorem qZ(hP:P=.no\/Dd P){c:Bk}(hc:c.bad=false):(Oh P c=.no\/Dd (Oh P c))/\∀ q,Bb (Oh P c) q=CP q (Bb P q) c:=by
 have A:=FE c.key;unfold Oh CP Bk.o;cases hg:c.gone with
 | true =>(rw[if_pos rfl,if_pos rfl];rcases hP with rfl | hP;{refine⟨.inl rfl,fun q=>?_⟩;(show none=if q=_ then none else none);split <;> rfl};exact VQ P hP _ A)
 | false =>(rw[if_neg ff,if_neg ff];have H:c.value.size≠0:=by unfold Bk.bad at hc;rw[hg]at hc;simp only[Bool.false_and,Bool.or_false,Bool.not_false,Bool.true_and,gN,Bool.not_eq_false']at hc;have J:=hc.2;unfold Wm at J;have:=of_decide_eq_true J;omega);(have e:Dd P\/P=.no\/P=.nil:=by rcases hP with h | h;{exact .inr (.inl h)};exact .inl h);exact⟨.inr (VF P e _ _ A H),VW P e _ _ H⟩
theorem qM:∀ (cs:List Bk) (P:PA),(P=.no\/Dd P)->cs.any Bk.bad=false->(cs.foldl Oh P=.no\/Dd (cs.foldl Oh P))/\∀ q,Bb (cs.foldl Oh P) q=cs.foldl (CP q) (Bb P q)
 | [],P,hP,_=>⟨hP,fun _=>rfl⟩
 | c :: cs,P,hP,hb=>by
  rw[List.any_cons,gN]at hb
  obtain⟨e,A⟩:=qZ hP hb.1
  obtain⟨H,J⟩:=qM cs _ e hb.2
  refine⟨H,fun q=>?_⟩
  rw[dM,J,A,dM]
theorem jtv{b:vB}(h:Ci a=Ci b):a=b:=by rw[<-TC a,h,TC]
theorem jqg(k:vB):CP (Ci k).data.toList=Wr k.data.toList:=by
 funext o c
 unfold CP Wr Bk.o
 by_cases e:k.data.toList=c.key.data.toList
 ·rw[if_pos e,if_pos (by rw[Rg e])]
 ·rw[if_neg e,if_neg (fun h=>e (by rw[jtv (Rg h)]))]
theorem aB{q:vN}(h:∀ k,q≠(Ci k).data.toList)(o:Option vB):∀ cs:List Bk,cs.foldl (CP q) o=o
 | []=>rfl
 | c :: cs=>by
  have e:CP q o c=o:=by unfold CP;rw[if_neg (h c.key)]
  rw[dM,e,aB h o cs]
theorem UX(k:vB):∀ l:vL,Fk l k=look l k.data.toList
 | []=>rfl
 | q :: r=>by
  rw[Nj];show (if q.1=k then some q.2 else Fk r k)=_
  by_cases e:q.1=k
  ·rw[if_pos e,if_pos (by rw[<-e])]
  ·rw[if_neg e,if_neg (fun h=>e (Rg h.symm)),UX k r]
theorem lU(h:Eu 12 l):Da 13 l=.no\/Dd (Da 13 l):=by
 by_cases h0:l.length=0
 ·exact .inl (Th _ h0)
 ·exact .inr (lT 12 l h (fun e=>h0 (by rw[e];rfl))).1
theorem jvt{m:vL}(hl:Dv l=0)(hm:Dv m=0){cs:List Bk}(h:Zw l m cs):cs.foldl Oh (Da 13 (Em l))=Da 13 (Em m):=by
 have A:=Ou (Fr hl);have J:=Ou (Fr hm)
 obtain⟨K,O⟩:=qM cs _ (lU A) h.fine
 refine jtt J K fun p X=>?_;rw[O,TW 12 _ A p X]
 by_cases hk:∃ k,p=Ci k
 ·obtain⟨k,rfl⟩:=hk;rw[jqg,oQ,oQ,UX,UX];exact h.looks k.data.toList
 ·have Z:∀ k,p.data.toList≠(Ci k).data.toList:=fun k e=>hk ⟨k,Rg e⟩;(have H:∀ r:vL,Fk (Em r) p=none:=fun r=>KB fun q hq e=>by obtain⟨x,_,rfl⟩:=bC.1 hq;exact hk ⟨x.1,e.symm⟩);rw[aB Z,H,H]
def Dp:PA->Nat->Prop
 | .nil,_=>True
 | .no,_=>True
 | .leaf q _,n=>q.size<=n
 | .ext q m,n=>q.size<=n/\Dp m (n - q.size)
 | .br _ ks,n=>∀ i,(ks i).isNil=false->1<=n/\Dp (ks i) (n - 1)
theorem Sv:∀ (P:PA) (n m:Nat),Dp P n->n<=m->Dp P m
 | .nil,_,_,_,_=>trivial
 | .no,_,_,_,_=>trivial
 | .leaf q _,n,m,h,k=>bF (show q.size<=n from h) k
 | .ext q x,n,m,h,k=>⟨bF h.1 k,Sv x _ _ h.2 vO⟩
 | .br _ ks,n,m,h,k=>fun i e=>⟨bF (h i e).1 k,Sv (ks i) _ _ (h i e).2 vO⟩
theorem DV(h:Dp P (n - a.size))(ha:a.size<=n):Dp (Jh a P) n:=by
 unfold Jh
 by_cases h0:a.size=0
 ·rw[if_pos h0];exact Sv P _ _ h vO
 rw[if_neg h0];cases P with
 | nil=>trivial
 | no=>trivial
 | leaf q v =>have h:q.size<=n - a.size:=h;show (a++q).size<=n;rw[Zk];omega
 | ext q m =>have e:=h.1;refine⟨by rw[Zk];omega,?_⟩;rw[Zk];exact Sv m _ _ h.2 vO
 | br v ks=>exact⟨ha,h⟩
theorem EG{v:vB}{ks:Nat->PA}(h:Dp (.br v ks) n)(h1:1<=n)(hP:Dp P (n - 1))(u:vB):Dp (.br u (Ca ks i P)) n:=by
 intro j q
 by_cases e:j=i
 ·rw[e,Yi];exact⟨h1,hP⟩
 ·rw[BC _ _ e]at q ⊢;exact h j q
theorem EF{v:vB}{ks:Nat->PA}(h:Dp (.br v ks) n){p:vB}(hp:p.size<=n)(u:vB):Dp (Hs (.br v ks) p u) n:=by
 rw[Vb]
 by_cases h0:p.size=0
 ·rw[if_pos h0];exact h
 ·rw[if_neg h0];refine EG h vO ?_ v;show (Ft p).size<=n - 1;unfold Ft;rw[Jp];omega
theorem NJ(v:vB)(n:Nat):Dp (.br v fun _=>.nil) n:=fun i e=>by cases e
theorem JI(a b:vB):Cy a b<=a.size/\Cy a b<=b.size:=by
 have:=AK a.data.toList b.data.toList
 unfold Cy;rw[<-Ix, <-Ix];exact this.2
theorem OV:∀ (P:PA) (n:Nat) (p u:vB),Dp P n->p.size<=n->Dp (Dh P p u) n
 | .nil,_,p,u,_,hp=>hp
 | .no,_,p,u,_,hp=>hp
 | .leaf q v,n,p,u,h,hp=>by
  have h:q.size<=n:=h
  obtain⟨J,K⟩:=JI q p
  unfold Dh
  by_cases e:p=q
  ·rw[if_pos e];exact hp
  rw[if_neg e];have H:(p.extract 0 (Cy q p)).size=Cy q p:=by rw[dI];omega
  refine DV ?_ vO;rw[H];have A:=EF (NJ ⟨#[]⟩ (n - Cy q p)) (p:=q.extract (Cy q p) q.size) (by rw[Jp];omega) v;rw[Vb]at A ⊢
  by_cases h0:(q.extract (Cy q p) q.size).size=0
  ·rw[if_pos h0]at A ⊢
   exact EF A (by rw[Jp];omega) u
  ·rw[if_neg h0]at A ⊢
   exact EF A (by rw[Jp];omega) u
 | .ext q x,n,p,u,h,hp=>by
  obtain⟨J,K⟩:=JI q p
  unfold Dh
  by_cases e:Cy q p=q.size
  ·rw[if_pos e]
   refine DV (OV x _ _ u h.2 ?_) h.1;rw[Jp];omega
  ·rw[if_neg e]
   have H:(p.extract 0 (Cy q p)).size=Cy q p:=by rw[dI];omega
   refine DV ?_ vO;rw[H];have O:=h.1;refine EF (EG (NJ ⟨#[]⟩ _) vO (DV ?_ ?_) _) (by rw[Jp];omega) u
   ·rw[Jp]
    exact Sv x _ _ h.2 vO
   ·rw[Jp];omega
 | .br v ks,n,p,u,h,hp=>by
  unfold Dh
  by_cases h0:p.size=0
  ·rw[if_pos h0];exact h
  ·rw[if_neg h0]
   refine EG h vO (OV (ks (Ax p)) (n - 1) _ u ?_ ?_) v
   ·cases hn:(ks (Ax p)).isNil with
    | true=>rw[Py hn];trivial
    | false=>exact (h _ hn).2
   ·unfold Ft;rw[Jp];omega
theorem nH{v:vB}{ks:Nat->PA}(h:Dp (.br v ks) n):Dp (Tm v ks) n:=by
 have q:∀ i∈Gs ks,(ks i).isNil=false:=fun i A=>by have:=(cG.1 A).2;simpa using this
 unfold Tm;cases e:Gs ks with
 | nil =>show Dp (if v.size=0 then PA.no else .leaf ⟨#[]⟩ v) n;by_cases h0:v.size=0;{rw[if_pos h0];trivial};rw[if_neg h0];exact cE n
 | cons i r =>cases r with| nil =>show Dp (if v.size=0 then Jh ⟨#[UInt8.ofNat i]⟩ (ks i)else .br v ks) n;by_cases h0:v.size=0;{rw[if_pos h0];obtain⟨H,J⟩:=h i (q i (by rw[e];exact bO));exact DV J H};rw[if_neg h0];exact h| cons j r=>exact h
theorem KN:∀ (P:PA) (n:Nat) (p:vB),Dp P n->Dp (Ho P p) n
 | .nil,_,_,_=>trivial
 | .no,_,_,_=>trivial
 | .leaf q v,n,p,h=>by
  unfold Ho
  by_cases e:p=q
  ·rw[if_pos e];trivial
  ·rw[if_neg e];exact h
 | .ext q x,n,p,h=>by
  unfold Ho;cases Fb q p with
  | false=>rw[if_neg ff];exact h
  | true=>rw[if_pos rfl];exact DV (KN x _ _ h.2) h.1
 | .br v ks,n,p,h=>by
  unfold Ho
  by_cases h0:p.size=0
  ·rw[if_pos h0];exact nH h
  ·rw[if_neg h0]
   cases hn:(ks (Ax p)).isNil with
   | true=>rw[if_pos rfl];exact h
   | false =>
    rw[if_neg ff]
    obtain⟨A,H⟩:=h _ hn
    refine nH (EG h A ?_ v)
    have:=KN (ks (Ax p)) (n - 1) (Ft p) H
    unfold Uv;cases (Ho (ks (Ax p)) (Ft p)).isNo with
    | true=>rw[if_pos rfl];trivial
    | false=>rw[if_neg ff];exact this
theorem rI:∀ (f:Nat) (l:vL) (k:Nat),Eu f l->Eu k l->Dp (Da (f+1) l) k:=by
 intro f;have J:∀ (f:Nat) (l:vL) (k:Nat),Eu k l->l.length=1->Dp (Da (f+1) l) k:=by intro f l k h O;rw[Um _ O];exact (h.size _ (CJ (l:=l) vO)).1
 induction f with
 | zero =>intro l k h X;have hl:=Wi h;by_cases h0:l.length=0;{rw[Th _ h0];trivial};exact J 0 l k X vO
 | succ f ih =>intro l k h H;by_cases h0:l.length=0;{rw[Th _ h0];trivial};by_cases O:l.length=1;{exact J _ l k H O};have K:2<=l.length:=vO;by_cases X:0 < Aj l;{have hm:=CJ (l:=l) vO;have hh:=DM h K;have A:=Rh h K;have a0:=(A _ hm).2;have a1:=(H.size _ hm).1;rw[AU _ K X];refine⟨by rw[hh];omega,?_⟩;rw[hh];exact ih _ _ (DZ h K X).1 (Yh (Aj l) H (fun p Z q hq=>(A p Z).1.trans (A q hq).1.symm) (fun p Z=>(A p Z).2))};rw[AZ _ K X];intro i hi;have hi:(if (Ah i l).length=0 then PA.nil else Da (f+1) (Az 1 (Ah i l))).isNil=false:=hi;show 1<=k/\Dp (if (Ah i l).length=0 then PA.nil else Da (f+1) (Az 1 (Ah i l))) (k - 1);by_cases hc:(Ah i l).length=0;{rw[if_pos hc]at hi;cases hi};rw[if_neg hc];refine⟨?_,ih _ _ (BF h hc).1 (Yn i H)⟩;cases e:Ah i l with| nil=>rw[e]at hc;exact (hc rfl).elim| cons p r =>obtain⟨Z,a,t,O,K⟩:=Ul (show p∈Ah i l by rw[e];exact bO);have:=(H.size p Z).1;(have h3:p.1.size=(a :: t).length:=by rw[<-Ix];exact congrArg List.length O);rw[bS]at h3;omega
section
attribute [local go_sem] Oper.semAt_some
def Mi:vV:=.iface 387 (.agg #[])
def Zx(b:Nat):vV:=.iface 376 b
def Nb(b:Nat):vV:=.iface 379 b
def Gm(b:Nat):vV:=.iface 382 b
def Uh(u:vB)(vk:Nat->vV):List vV:=.string u ::(List.range 16).map vk
def Bw:PA->vV->(Nat->Prop)->vW->Prop
 | .nil,v,_,_=>v=.nilIface
 | .no,v,_,_=>v=Mi
 | .leaf q u,v,D,W=>∃ b,v=Zx b/\D b/\Ae W b (.cells #[q,u] 378)
 | .ext q n,v,D,W=>∃ b T x Dn,v=Nb b/\D b/\Ae W b (.cells #[q,.iface T x] 381)/\Bw n (.iface T x) Dn W/\¬ Dn b/\∀ x,Dn x->D x
 | .br u ks,v,D,W=>∃ (b:Nat) (vk:Nat->vV) (Dk:Nat->Nat->Prop),v=Gm b/\D b/\Ae W b (.cells (Uh u vk).toArray 385) /\
   (∀ i,i < 16->Bw (ks i) (vk i) (Dk i) W/\¬ Dk i b/\∀ x,Dk i x->D x)/\∀ i j,i < 16->j < 16->i≠j->∀ x,Dk i x->¬ Dk j x
theorem Bw.keeps{F:Bf}{W W':vW}(k:Ad F W W'):∀ (P:PA) (v:vV) (D:Nat->Prop),Bw P v D W->(∀ x,D x->¬ F x)->Bw P v D W'
 | .nil,_,_,h,_=>h
 | .no,_,_,h,_=>h
 | .leaf _ _,_,_,⟨b,h1,h2,h3⟩,hF=>⟨b,h1,h2,h3.keeps k (hF b h2)⟩
 | .ext _ n,_,_,⟨b,T,x,Dn,h1,h2,h3,h4,h5,h6⟩,hF=>⟨b,T,x,Dn,h1,h2,h3.keeps k (hF b h2),Bw.keeps k n (.iface T x) Dn h4 (fun x e=>hF x (h6 x e)),h5,h6⟩
 | .br _ ks,_,_,⟨b,vk,Dk,h1,h2,h3,h4,h5⟩,hF=>⟨b,vk,Dk,h1,h2,h3.keeps k (hF b h2),fun i q=>⟨Bw.keeps k (ks i) (vk i) (Dk i) (h4 i q).1 (fun x e=>hF x ((h4 i q).2.2 x e)),(h4 i q).2⟩,h5⟩
theorem Bw.mono{W:vW}(hD:∀ x,D x->D' x):∀ {P:PA} {v:vV},Bw P v D W->Bw P v D' W
 | .nil,_,h=>h
 | .no,_,h=>h
 | .leaf _ _,_,⟨b,h1,h2,h3⟩=>⟨b,h1,hD b h2,h3⟩
 | .ext _ n,_,⟨b,T,x,Dn,h1,h2,h3,h4,h5,h6⟩=>⟨b,T,x,Dn,h1,hD b h2,h3,h4,h5,fun x e=>hD x (h6 x e)⟩
 | .br _ ks,_,⟨b,vk,Dk,h1,h2,h3,h4,h5⟩=>⟨b,vk,Dk,h1,hD b h2,h3,fun i q=>⟨(h4 i q).1,(h4 i q).2.1,fun x e=>hD x ((h4 i q).2.2 x e)⟩,h5⟩
theorem Bw.form{W:vW}(h:Bw P v D W)(hn:P.isNil=false):∃ T x,v=.iface T x:=by
 cases P with
 | nil=>cases hn
 | no=>exact⟨_,_,h⟩
 | leaf q u=>obtain⟨b,h,_⟩:=h;exact⟨_,_,h⟩
 | ext q n=>obtain⟨b,T,x,e,h,_⟩:=h;exact⟨_,_,h⟩
 | br u ks=>obtain⟨b,A,H,h,_⟩:=h;exact⟨_,_,h⟩
structure Hm(P:PA)(v:Value)(D:Nat->Prop)(W:World):Prop where
 at':Bw P v D W
 lt:∀ x,D x->x < W.heap.size
theorem Hm.keeps{F:Bf}{W:vW}(h:Hm P v D W)(k:Ad F W W')(hF:∀ x,D x->¬ F x):Hm P v D W':=
 ⟨h.at'.keeps k P v D hF,fun x e=>bE (h.lt x e) k.size⟩
theorem Hm.ext{W:vW}(h:Hm P v D W)(k:Af W W'):Hm P v D W':=h.keeps k fun _ _ e=>e
def Dj(D:Nat->Prop)(W W':vW):Nat->Prop:=fun x=>D x\/(W.heap.size<=x/\x < W'.heap.size)
theorem AY{W:vW}{F:Bf}(h:∀ x,D x->x < W.heap.size)(k:Ad F W W'):∀ x,Dj D W W' x->x < W'.heap.size
 | x,.inl hx=>bE (h x hx) k.size
 | x,.inr hx=>hx.2
def Bh(D:Nat->Prop)(W:vW)(P:PA)(e:Ending)(w':vW):Prop:=∃ v,e=.returned v/\Bw P v (Dj D W w') w'/\Ad D W w'
theorem Bh.own{W:vW}(h:Bw P v (Dj D W w') w')(k:Ad D W w')(hl:∀ x,D x->x < W.heap.size):Hm P v (Dj D W w') w':=⟨h,AY hl k⟩
def Lw(D:Nat->Prop)(W:vW)(P:PA)(e:Ending)(w':vW):Prop:=∃ v,e=.returned v/\Bw P v (Dj D W w') w'/\Af W w'
theorem jye(w:vW):(Instr.typeAssert (Zx b) 231 376 true).run Tryz.prog w=.ok (.tuple #[b,true]) w:=vY
theorem VZ(v:vV)(h:(∃ b,v=Nb b)\/(∃ b,v=Gm b)\/v=Mi)(w:vW):(Instr.typeAssert v 231 376 true).run Tryz.prog w=.ok (.tuple #[.pointer none,false]) w:=by
 rcases h with⟨b,rfl⟩ |⟨b,rfl⟩ | rfl <;> kernel_rfl
theorem wC(w:vW):(Instr.typeAssert (Nb b) 231 379 true).run Tryz.prog w=.ok (.tuple #[b,true]) w:=vY
theorem sK(v:vV)(h:(∃ b,v=Gm b)\/v=Mi)(w:vW):(Instr.typeAssert v 231 379 true).run Tryz.prog w=.ok (.tuple #[.pointer none,false]) w:=by
 rcases h with⟨b,rfl⟩ | rfl <;> kernel_rfl
theorem wY(w:vW):(Instr.typeAssert (Gm b) 231 382 true).run Tryz.prog w=.ok (.tuple #[b,true]) w:=vY
theorem wZ:(Instr.typeAssert Mi 231 382 true).run Tryz.prog w=.ok (.tuple #[.pointer none,false]) w:=vY
end
section
section mixz
variable {P:Program} {l:List Oper} {E D:vW->vW->Prop}
def Oc(P:Program)(ops:Array Oper)(z:Nat)(hd:List Nat)(E D:vW->vW->Prop)(Q:Act->vW->Prop):Nat->Array Bool->Act->vW->Prop
 | 0,listed,a,w=>listed.getD z true=true/\Region.ready .any ops listed=[]/\Q a w
 | fuel+1,listed,a,w=>∀ w1,(listed.getD z true=false->E w w1)->(listed.getD z true=true->w1=w) ->
  (Region.ready .any ops listed=[]->Q a w1) /\
  ∀ i∈Region.ready .any ops listed,wpOp P ops Ml i (fun a' w'=>(listed.getD z true=false->i≠z->D w1 w'/\(i ∉ hd->E w1 w'))/\(listed.getD z true=true->w'=w1)/\Oc P ops z hd E D Q fuel (listed.setIfInBounds i true) a' w') a w1
theorem pK(hT:∀ x y z,E x y->E y z->E x z){ops:Array Oper}{z:Nat}{hd:List Nat}{Q:Act->vW->Prop}:∀ (fuel:Nat) (listed:Array Bool) (a:Act) (w w1:vW),listed.getD z true=false->Oc P ops z hd E D Q fuel listed a w->E w w1->Oc P ops z hd E D Q fuel listed a w1
 | 0,_,_,_,_,hz,h,_=>by have:=h.1;rw[hz]at this;cases this
 | _+1,_,_,_,_,hz,h,he=>fun q A H=>h q (fun e=>hT _ _ _ he (A e)) (fun e=>absurd e (by rw[hz];decide))
theorem aL(hE:∀ w,E w w){ops:Array Oper}{z:Nat}{hd:List Nat}{Q:Act->vW->Prop}{Q':Exit->Act->vW->Prop}(hQ:∀ a w,Q a w->Q' .normal a w):∀ (fuel:Nat) (listed:Array Bool) (a:Act) (w:vW),Oc P ops z hd E D Q fuel listed a w->wpAny P .any ops Q' fuel listed a w
 | 0,_,_,w,h=>⟨h.2.1,hQ _ _ h.2.2⟩
 | fuel+1,_,_,w,h=>let ⟨h1,h2⟩:=h w (fun _=>hE w) (fun _=>rfl)
  ⟨fun e=>hQ _ _ (h1 e),fun i q=>NZ (fun A w' ⟨_,_,H⟩=>aL hE hQ fuel _ A w' H) (h2 i q)⟩
def EK(ops:Array Oper)(z i:Nat):Bool:=match ops[z]? with | some o=>o.after.toList.any fun e=>Region.binds .any e && e.on == i | none=>false
theorem jvb{ops:Array Oper}{z i:Nat}{listed:Array Bool}(he:EK ops z i=true)(hi:i∈Region.ready .any ops listed):z ∉ Region.ready .any ops listed:=by
 intro X;unfold EK at he
 obtain⟨Z,oz,H,q⟩:=mem_ready.1 X
 rw[H]at he
 obtain⟨e,J,K⟩:=gR.1 he
 rw[cI,beq_iff_eq]at K;have A:=q e (by simpa using J) K.1;have O:=(mem_ready.1 hi).1;rw[K.2]at A;rcases fA i listed.size with h' | h'
 ·simp[h']at O A;rw[O]at A;cases A
 ·simp[gF h']at A
theorem jpK(hE:∀ w,E w w)(hT:∀ x y z,E x y->E y z->E x z)(hD:∀ x y z,D x y->D y z->D x z)(hED:∀ x y,E x y->D x y){ops:Array Oper}{z:Nat}{hd:List Nat}{Q:Act->vW->Prop}{i:Nat}{oi:Oper}{v:vV}(hiz:i≠z)(he0:EK ops z i=true)(hi:ops[i]?=some oi)(hsel:∀ (j:Nat) (o:Oper) cs b,ops[j]?=some o->o.op≠.select cs b):∀ (A:Nat) (q:Array Bool) (a:Act) (w:vW),q.getD z true=false ->
   (∀ j Z,ops[j]?=some Z->j≠i->q.getD j true=false->(∀ e∈Z.after,Region.binds .any e=true->e.on≠i)->oi.apart ops Z=true) ->
   i∈Region.ready .any ops q->Rr P ops E D w oi v a ->
   Oc P ops z hd E D Q A (q.setIfInBounds i true) (a.put oi.dst v) w->Oc P ops z hd E D Q (A+1) q a w:=by
 intro A;induction A with
 | zero =>intro q a w hz _ hr hy H;have:=H.1;rw[getD_set_ne true hiz,hz]at this;cases this
 | succ A ih =>(intro q a w hz J hr hy H w1 a9 _;have he:=a9 hz;have a0:(q.setIfInBounds i true).getD z true=false:=by rw[getD_set_ne true hiz,hz]);refine⟨fun h=>(by rw[h]at hr;cases hr),fun j hj=>?_⟩;by_cases hji:j=i;{subst hji;exact hy.wpOp hi (hED _ _ he) hE (fun w' K=>⟨fun _ _=>⟨hED _ _ K,fun _=>K⟩,fun e=>absurd e (by rw[hz];decide),pK hT _ _ _ _ _ a0 H (hT _ _ _ he K)⟩)};have a7:j≠z:=fun e=>jvb he0 hr (e ▸ hj);have K:=(H w1 (fun _=>he) (fun e=>by rw[a0]at e;cases e)).2 j (ready_mono hj hji);obtain⟨X,Z,a3,a4⟩:=mem_ready.1 hj;(have a5:∀ e∈Z.after,Region.binds .any e=true->e.on≠i:=fun e he hb b0=>by have K:=a4 e he hb;have h0:=(mem_ready.1 hr).1;rw[b0]at K;rcases fA i q.size with h' | h';{simp[h']at h0 K;rw[h0]at K;cases K};simp[gF h']at K);have h2:=JG (v:=v) (Y:=fun a'=>execOp a'.eval oi=execOp a.eval oi/\Region.wanted oi (yielded ops a'.tmps)=Region.wanted oi (yielded ops a.tmps)) a3 (J j Z a3 hji X a5) (fun cs b=>hsel i oi cs b hi) (fun cs b=>hsel j Z cs b a3) (fun a1 a2 h e1 e2=>⟨e1.trans h.1,e2.trans h.2⟩) ⟨rfl,rfl⟩ K;(have O:∀ k ok,ops[k]?=some ok->k≠i->(q.setIfInBounds j true).getD k true=false ->(∀ e∈ok.after,Region.binds .any e=true->e.on≠i)->oi.apart ops ok=true:=fun k ok hk b1 a8 b2=>by refine J k ok hk b1 ?_ b2;by_cases hjk:j=k;{subst hjk;exact X};rw[getD_set_ne true hjk]at a8;exact a8);refine wpOp_mono (fun a' w' h3=>?_) h2;obtain⟨⟨e1,e2⟩,h4,_,h5⟩:=h3;have h4:=h4 a0 a7;refine⟨fun _ _=>h4,fun e=>absurd e (by rw[hz];decide),?_⟩;have b3:Rr P ops E D w' oi v a':=(hy.of_same e1 e2).st hD (hD _ _ _ (hED _ _ he) h4.1);refine ih (q.setIfInBounds j true) a' w' (by rw[getD_set_ne true a7,hz]) O (ready_mono hr (Ne.symm hji)) b3 ?_;rw[gU _ _ hji];exact h5
def FY(P:Program)(ops:Array Oper)(o:Oper)(v:vV)(a:Act):Prop:=
 (Region.wanted o (yielded ops a.tmps)=true/\∀ w1,EJ P (fun x y=>y=x) w1 v ((execOp a.eval o).run P w1))\/(Region.wanted o (yielded ops a.tmps)=false/\v=undef)
theorem FY.wpOp{ops:Array Oper}{i:Nat}{o:Oper}{v:vV}{a:Act}(hi:ops[i]?=some o)(hy:FY P ops o v a){K:Act->vW->Prop}{w1:vW}
  (h:K (a.put o.dst v) w1):wpOp P ops Ml i K a w1:=by
 have q:Pn P ops (fun x y=>y=x) w1 o v a:=by rcases hy with⟨h1,h2⟩ | h1;{exact .inl ⟨h1,fun w1 _=>h2 w1⟩};exact .inr h1
 exact q.wpOp hi (Eq.refl w1) (fun _=>rfl) (fun w' e=>by have e:w'=w1:=e;rw[e];exact h)
theorem jut(hE:∀ w,E w w)(hT:∀ x y z,E x y->E y z->E x z)(hED:∀ x y,E x y->D x y){ops:Array Oper}{z:Nat}{hd:List Nat}{Q:Act->vW->Prop}{i:Nat}{oi:Oper}{v:vV}(hiz:i≠z)(hi:ops[i]?=some oi)(hsel:∀ (j:Nat) (o:Oper) cs b,ops[j]?=some o->o.op≠.select cs b):∀ (A:Nat) (q:Array Bool) (a:Act) (w:vW),
   (∀ j oj,ops[j]?=some oj->j≠i->q.getD j true=false->(∀ e∈oj.after,Region.binds .any e=true->e.on≠i)->oi.apart ops oj=true) ->
   i∈Region.ready .any ops q->FY P ops oi v a ->
   Oc P ops z hd E D Q A (q.setIfInBounds i true) (a.put oi.dst v) w->Oc P ops z hd E D Q (A+1) q a w:=by
 intro A;have a0:∀ (A:Nat) (q:Array Bool) (a:Act) (w w1:vW),(q.getD z true=false->E w w1)->(q.getD z true=true->w1=w) ->Oc P ops z hd E D Q A (q.setIfInBounds i true) (a.put oi.dst v) w->Oc P ops z hd E D Q A (q.setIfInBounds i true) (a.put oi.dst v) w1:=by intro A q a w w1 K h2 H;cases hz:q.getD z true with| true=>rw[h2 hz];exact H| false=>exact pK hT _ _ _ _ _ (by rw[getD_set_ne true hiz,hz]) H (K hz)
 induction A with
 | zero =>(intro q a w J hr hy H w1 O X;have hz:q.getD z true=true:=by have:=H.1;rwa [getD_set_ne true hiz]at this);refine⟨fun h=>(by rw[h]at hr;cases hr),fun j hj=>?_⟩;by_cases hji:j=i;{subst hji;exact hy.wpOp hi ⟨fun _ _=>⟨hED _ _ (hE w1),fun _=>hE w1⟩,fun _=>rfl,a0 0 q a w w1 O X H⟩};have:=ready_mono hj hji;rw[H.2.1]at this;cases this
 | succ A ih =>intro q a w J hr hy H w1 O X;refine⟨fun h=>(by rw[h]at hr;cases hr),fun j hj=>?_⟩;by_cases hji:j=i;{subst hji;exact hy.wpOp hi ⟨fun _ _=>⟨hED _ _ (hE w1),fun _=>hE w1⟩,fun _=>rfl,a0 _ q a w w1 O X H⟩};have a4:(q.setIfInBounds i true).getD z true=q.getD z true:=getD_set_ne true hiz;have K:=(H w1 (fun e=>O (a4 ▸ e)) (fun e=>X (a4 ▸ e))).2 j (ready_mono hj hji);obtain⟨a3,oj,a5,a7⟩:=mem_ready.1 hj;(have a8:∀ e∈oj.after,Region.binds .any e=true->e.on≠i:=fun e he hb b1=>by have K:=a7 e he hb;have h0:=(mem_ready.1 hr).1;rw[b1]at K;rcases fA i q.size with h' | h';{simp[h']at h0 K;rw[h0]at K;cases K};simp[gF h']at K);have h2:=JG (v:=v) (Y:=fun a'=>execOp a'.eval oi=execOp a.eval oi/\Region.wanted oi (yielded ops a'.tmps)=Region.wanted oi (yielded ops a.tmps)) a5 (J j oj a5 hji a3 a8) (fun cs b=>hsel i oi cs b hi) (fun cs b=>hsel j oj cs b a5) (fun a1 a2 h e1 e2=>⟨e1.trans h.1,e2.trans h.2⟩) ⟨rfl,rfl⟩ K;(have Z:∀ k ok,ops[k]?=some ok->k≠i->(q.setIfInBounds j true).getD k true=false ->(∀ e∈ok.after,Region.binds .any e=true->e.on≠i)->oi.apart ops ok=true:=fun k ok hk b2 a9 b3=>by refine J k ok hk b2 ?_ b3;by_cases hjk:j=k;{subst hjk;exact a3};rw[getD_set_ne true hjk]at a9;exact a9);refine wpOp_mono (fun a' w' h3=>?_) h2;obtain⟨⟨e1,e2⟩,h4,b0,h5⟩:=h3;rw[a4]at h4 b0;refine⟨h4,b0,?_⟩;(have b4:FY P ops oi v a':=by unfold FY at *;rw[e1,e2];exact hy);refine ih (q.setIfInBounds j true) a' w' Z (ready_mono hr (Ne.symm hji)) b4 ?_;rw[gU _ _ hji];exact h5
def Ib(P:Program)(l:List Oper)(z:Nat)(hd:List Nat)(E D:vW->vW->Prop)(Q:Act->vW->Prop):List Nat->List Nat->Act->vW->Prop
 | [],done,a,w=>Region.ready .any l.toArray (Dy l done)=[z]/\(Dy l done).getD z true=false/\(Dy l (z :: done)).getD z true=true/\Region.ready .any l.toArray (Dy l (z :: done))=[]/\∀ w1,E w w1->wpOp P l.toArray Ml z Q a w1
 | k :: ord,done,a,w=>(Dy l done).getD z true=false/\k≠z /\
  ((k∈Region.ready .any l.toArray (Dy l done)/\Region.free .any l.toArray (Dy l done) k=true/\∃ o v,l[k]?=some o/\((EK l.toArray z k=true/\Rr P l.toArray E D w o v a)\/FY P l.toArray o v a)/\Ib P l z hd E D Q ord (k :: done) (a.put o.dst v) w) \/
  (Region.ready .any l.toArray (Dy l done)=[k]/\k∈hd/\∀ w1,E w w1->wpOp P l.toArray Ml k (fun a' w'=>D w1 w'/\Ib P l z hd E D Q ord (k :: done) a' w') a w1))
theorem LZ(hE:∀ w,E w w)(hT:∀ x y z,E x y->E y z->E x z)(hD:∀ x y z,D x y->D y z->D x z)(hED:∀ x y,E x y->D x y)(hs:Region.noSelect l.toArray=true){z:Nat}{hd:List Nat}{Q:Act->vW->Prop}:∀ (ord:List Nat) (done:List Nat) (a:Act) (w:vW),
  Ib P l z hd E D Q ord done a w->Oc P l.toArray z hd E D Q (ord.length+1) (Dy l done) a w
 | [],done,a,w,⟨h1,hz,hz2,K,h3⟩=>fun w1 A _=>by
  refine⟨fun H=>(by rw[h1]at H;cases H),fun i J=>?_⟩
  rw[h1]at J;obtain rfl:i=z:=by simpa using J
  exact wpOp_mono (fun O w' h=>⟨fun _ e=>absurd rfl e,fun e=>absurd e (by rw[hz];decide),hz2,K,h⟩) (h3 w1 (A hz))
 | k :: ord,done,a,w,⟨hz,hkz,h⟩=>by
  rcases h with⟨hr,hf,o,v,ho,hy,h⟩ |⟨hr,hkd,h⟩
  ·have q:l.toArray[k]?=some o:=by simpa using ho
   rcases hy with⟨A,hy⟩ | hy
   ·exact jpK hE hT hD hED hkz A q (gK hs) (ord.length+1) (Dy l done) a w hz (iF q hf) hr hy (LZ hE hT hD hED hs ord _ _ _ h)
   ·exact jut hE hT hED hkz q (gK hs) (ord.length+1) (Dy l done) a w (iF q hf) hr hy (LZ hE hT hD hED hs ord _ _ _ h)
  ·intro w1 A _
   refine⟨fun H=>(by rw[hr]at H;cases H),fun i J=>?_⟩
   rw[hr]at J;obtain rfl:i=k:=by simpa using J
   exact wpOp_mono (fun O w' K=>⟨fun _ _=>⟨K.1,fun X=>absurd hkd X⟩,fun e=>absurd e (by rw[hz];decide),LZ hE hT hD hED hs ord _ _ _ K.2⟩) (h w1 (A hz))
theorem BU(ord:List Nat)(z:Nat)(hd:List Nat)(E D:vW->vW->Prop)(hE:∀ w,E w w)(hT:∀ x y z,E x y->E y z->E x z)(hD:∀ x y z,D x y->D y z->D x z)(hED:∀ x y,E x y->D x y){id:Nat}{Q:Exit->Act->vW->Prop}{a:Act}{w:vW}
  (hm:P.follows .mixedOrders=true) (hs:Region.noSelect l.toArray=true) (hl:ord.length+1=l.toArray.size)
  (h:Ib P l z hd E D (fun a w=>Q .normal a w) ord [] a w.drew):(Code.region id l.toArray true).wp P Q a w:=by
 refine wp_region_any hm ?_;rw[<-hl]
 have:=LZ hE hT hD hED hs ord _ _ _ h
 unfold Dy at this;rw[hl]at this ⊢;exact aL hE (fun _ _ h=>h) _ _ _ _ this
variable {Q:Act->vW->Prop} {ord done hd:List Nat} {a:Act} {w:vW} {k z:Nat} {o:Oper}
def CO(l:List Oper)(z:Nat)(done:List Nat)(k:Nat):Bool:=(Region.ready .any l.toArray (Dy l done)).contains k && Region.free .any l.toArray (Dy l done) k && (Dy l done).getD z true == false && k != z
theorem SY(h:CO l z done k=true):(k∈Region.ready .any l.toArray (Dy l done)/\Region.free .any l.toArray (Dy l done) k=true)/\(Dy l done).getD z true=false/\k≠z:=by
 simp only[CO,cI,cJ,beq_iff_eq,bne_iff_ne]at h
 exact⟨h.1.1,h.1.2,h.2⟩
theorem js7(o:Oper)(ho:l[k]?=some o)(hk:CO l z done k=true)(hw:Region.wanted o (yielded l.toArray a.tmps)=true)(hq:EA o.op=true)
  (h:∀ K:Act->Prop,(∀ a',Ib P l z hd E D Q ord (k :: done) a' w->K a')->o.quiet P a (fun _=>True) K):Ib P l z hd E D Q (k :: ord) done a w:=by
 obtain⟨⟨q,A⟩,H,J⟩:=SY hk
 obtain⟨v,O,X⟩:=h _ (fun _ h=>h)
 refine⟨H,J,.inl ⟨q,A,o,v,ho,.inr (.inl ⟨hw,fun w1=>?_⟩),X⟩⟩
 have e:=O w1 trivial;unfold Oper.quietAt at e;have Z:=fun f args w'=>KF (ρ:=a.eval) hq P w1 w' f args;generalize (execOp a.eval o).run P w1=r at *;cases r with
 | ok n w'=>cases n <;> simp only[Oper.quietUpon]at e <;> first | exact e | exact absurd rfl (Z _ _ _)
 | halt x w'=>simp only[Oper.quietUpon]at e
theorem jvX(o:Oper)(v:vV)(ho:l[k]?=some o)(hk:CO l z done k=true)(hw:Region.wanted o (yielded l.toArray a.tmps)=true)
  (hv:∀ w1,(execOp a.eval o).run P w1=.ok (.value v) w1) (h:Ib P l z hd E D Q ord (k :: done) (a.put o.dst v) w):Ib P l z hd E D Q (k :: ord) done a w:=by
 obtain⟨⟨e,q⟩,A,H⟩:=SY hk
 exact⟨A,H,.inl ⟨e,q,o,v,ho,.inr (.inl ⟨hw,fun w1=>by rw[hv w1];exact⟨rfl,rfl⟩⟩),h⟩⟩
theorem Te(o:Oper)(v:vV)(ho:l[k]?=some o)(hv:∀ w1,(execOp a.eval o).run P w1=.ok (.value v) w1)(h:Ib P l z hd E D Q ord (k :: done) (a.put o.dst v) w)(hk:CO l z done k=true:=by kernel_rfl)(hw:Region.wanted o (yielded l.toArray a.tmps)=true:=by rfl):Ib P l z hd E D Q (k :: ord) done a w:=jvX o v ho hk hw hv h
theorem mZ(o:Oper)(v:vV)(ho:l[k]?=some o)(hk:CO l z done k=true)(he:EK l.toArray z k=true)(hw:Region.wanted o (yielded l.toArray a.tmps)=true)
  (hv:∀ w1,D w w1->(execOp a.eval o).run P w1=.ok (.value v) w1) (h:Ib P l z hd E D Q ord (k :: done) (a.put o.dst v) w):Ib P l z hd E D Q (k :: ord) done a w:=by
 obtain⟨⟨e,q⟩,A,H⟩:=SY hk
 exact⟨A,H,.inl ⟨e,q,o,v,ho,.inl ⟨he,.inl ⟨hw,fun w1 J=>by rw[hv w1 J];exact⟨rfl,rfl⟩⟩⟩,h⟩⟩
theorem js6(p:Addr)(v:vV){t:TypeId}{x:Operand}{d:Option Tmp}{ty:TypeId}{pos:String}{af:Array Edge}{g:Option (Nat × Bool)}(ho:l[k]?=some ⟨d,.load t x,ty,pos,af,g⟩)(hk:CO l z done k=true)(he:EK l.toArray z k=true)
  (hw:Region.wanted ⟨d,.load t x,ty,pos,af,g⟩ (yielded l.toArray a.tmps)=true) (hx:a.eval x=.pointer (some p))
  (hv:∀ w1,D w w1->(Instr.loadAt t p).run P w1=.ok v w1) (h:Ib P l z hd E D Q ord (k :: done) (a.put d v) w):Ib P l z hd E D Q (k :: ord) done a w:=by
 refine mZ _ v ho hk he hw (fun w1 e=>?_) h
 have:=hv w1 e
 simp only[execOp,hx,bQ,this,Result.andThen,cU]
theorem Ww{t:TypeId}{x:Operand}{d:Option Tmp}{ty:TypeId}{pos:String}{af:Array Edge}{g:Option (Nat × Bool)}(p:Addr)(v:vV)(ho:l[k]?=some ⟨d,.load t x,ty,pos,af,g⟩)(hv:∀ w1,D w w1->(Instr.loadAt t p).run P w1=.ok v w1)(h:Ib P l z hd E D Q ord (k :: done) (a.put d v) w)(hk:CO l z done k=true:=by kernel_rfl)(he:EK l.toArray z k=true:=by kernel_rfl)(hw:Region.wanted ⟨d,.load t x,ty,pos,af,g⟩ (yielded l.toArray a.tmps)=true:=by rfl)(hx:a.eval x=.pointer (some p):=by rfl):Ib P l z hd E D Q (k :: ord) done a w:=js6 p v ho hk he hw hx hv h
def rX(l:List Oper)(z:Nat)(hd done:List Nat)(k:Nat):Bool:=Region.ready .any l.toArray (Dy l done) == [k] && (Dy l done).getD z true == false && k != z && hd.contains k
theorem Zf(o:Oper)(ho:l[k]?=some o)(hk:rX l z hd done k=true)(hw:Region.wanted o (yielded l.toArray a.tmps)=true)
  (h:∀ w1,E w w1->∀ K:Act->vW->Prop,(∀ a' w',D w1 w'->Ib P l z hd E D Q ord (k :: done) a' w'->K a' w')->o.wp P a w1 K Ml):Ib P l z hd E D Q (k :: ord) done a w:=by
 simp only[rX,cI,beq_iff_eq,bne_iff_ne,cJ]at hk
 refine⟨hk.1.1.2,hk.1.2,.inr ⟨hk.1.1.1,hk.2,fun w1 q=>?_⟩⟩
 unfold wpOp;have e:l.toArray[k]?=some o:=by simpa using ho
 simp only[e,hw,if_true];exact .inl (h w1 q _ (fun _ _ A H=>⟨A,H⟩))
def XW(l:List Oper)(z:Nat)(done:List Nat):Bool:=Region.ready .any l.toArray (Dy l done) == [z] && (Dy l done).getD z true == false && (Dy l (z :: done)).getD z true == true && (Region.ready .any l.toArray (Dy l (z :: done))).isEmpty
theorem CE(o:Oper)(ho:l[z]?=some o)(hk:XW l z done=true)(hw:Region.wanted o (yielded l.toArray a.tmps)=true)
  (h:∀ w1,E w w1->∀ K:Act->vW->Prop,(∀ a' w',Q a' w'->K a' w')->o.wp P a w1 K Ml):Ib P l z hd E D Q [] done a w:=by
 simp only[XW,cI,beq_iff_eq,gQ]at hk
 refine⟨hk.1.1.1,hk.1.1.2,hk.1.2,hk.2,fun w1 q=>?_⟩
 unfold wpOp;have e:l.toArray[z]?=some o:=by simpa using ho
 simp only[e,hw,if_true];exact .inl (h w1 q _ (fun _ _ h=>h))
end mixz
end
section
attribute [local go_sem] Oper.semAt_some
theorem Wl{p:vB}(h:p.size≠0):p.toList.isEmpty=false:=by
 rw[dO];intro e;rw[gQ,cC]at e;exact h (by rw[<-Ix,e];rfl)
theorem Lw.mk1{W:vW}(h:Bw P v (Dj D W W') W')(e:Af W W'):Lw D W P (.returned v) W':=⟨v,rfl,h,e⟩
theorem uY(D:Nat->Prop)(P:PA)(v:vV)(h:Bw P v D W):vQ 291 #[.string ⟨#[]⟩,v] W (Lw D W P):=by
 have H:=Hd h;clear h;unfold vQ;go_in;have e:(⟨#[]⟩:vB).toList.isEmpty=true:=by rw[cC];rfl
 go_wp2_with fail
 go_ret;exact Lw.mk1 (H.o.mono (fun x q=>.inl q)) (Aa W)
theorem jyC(D:Nat->Prop)(a q u:vB)(b:Nat)(hB:Ae W b (.cells #[q,u] 378))(h0:a.size≠0)(ha:a.size<=1000000)(hq:q.size<=1000000):vQ 291 #[a,Zx b] W (Lw D W (.leaf (a++q) u)):=by
 have a0:=Wl h0;have q0:=hB.cell (i:=0) (v:=.string q) vF;have q1:=hB.cell (i:=1) (v:=.string u) vF;have Q0:=Hd q0;have Q1:=Hd q1;have hT:=jye b;unfold Zx at hT ⊢;clear hB h0 q0 q1;unfold vQ;go_in;go_wp2_with fail
 refine Ij [0,1,2,3,4,5,6,7,8,9,10,11,12,13] (Af) Aa Aq vY vY vY ?_;iterate 2 refine vK ?_
 refine Lo _ (b) rfl (fun w1 _=>by kernel_rfl) (vS ?_)
 refine vK ?_
 refine Dc b _ rfl (fun w1 X=>Dt (fun w=>by kernel_rfl) (Am Q0.o ((Ap _).trans X))) (vS ?_);iterate 2 refine vK ?_
 refine Lo _ (b) rfl (fun w1 _=>by kernel_rfl) (vS ?_)
 refine vK ?_
 refine Dc ⟨b,1,none⟩ _ rfl (fun w1 X=>Dt (fun w=>by kernel_rfl) (Am Q1.o ((Ap _).trans X))) (vS ?_)
 refine vK ?_
 refine CD _ rfl vY rfl (fun A hb K hK=>?_);refine Ra (v:=.pointer (some A)) (w':=A.alloc (.cells #[(a++q:),u] 378)) vY (hK _ _ ((Aa A).alloc _) ?_);clear hK K;have hN:=Ae.new A (.cells #[(a++q:),u] 378);refine vS ?_;iterate 2 refine vK ?_
 refine Hv (fun w5 Z=>?_);have J:Af W w5:=(((Ap W).trans hb).trans ((Aa A).alloc _)).trans Z;have e:=hN.keeps Z kI;have H:=hb.size;have H:W.heap.size<=A.heap.size:=H;have O:=e.lt;have HX:=Hd (bA J (bA e (bA H O)));clear Z hN hb J e H O;go_wp2_with fail
 go_ret
 obtain⟨J,e,H,O⟩:=HX.o
 exact Lw.mk1 ⟨_,rfl,.inr ⟨H,O⟩,e⟩ J
theorem uX(D:Nat->Prop)(a q:vB)(n:PA)(T:TypeId)(x:vV)(Dn:Nat->Prop)(b:Nat)(hB:Ae W b (.cells #[q,.iface T x] 381))(Z:Bw n (.iface T x) Dn W)(O:∀ x,Dn x->D x/\x < W.heap.size)(h0:a.size≠0)(ha:a.size<=1000000)(hq:q.size<=1000000):vQ 291 #[a,Nb b] W (Lw D W (.ext (a++q) n)):=by
 have a1:=Wl h0;have q0:=hB.cell (i:=0) (v:=.string q) vF;have q1:=hB.cell (i:=1) (v:=.iface T x) vF;have Q0:=Hd q0;have Q1:=Hd q1;have HV:=Hd (bA Z O);have hT:=wC b;have a0:=VZ (Nb b) (.inl ⟨b,rfl⟩);unfold Nb at hT a0 ⊢;clear hB h0 q0 q1 Z O;unfold vQ;go_in;go_wp2_with fail
 refine Ij [0,1,2,3,4,5,6,7,8,9,10,11,12,13] (Af) Aa Aq vY vY vY ?_;iterate 2 refine vK ?_
 refine Lo _ (b) rfl (fun w1 _=>by kernel_rfl) (vS ?_)
 refine vK ?_
 refine Dc b _ rfl (fun w1 h1=>Dt (fun w=>by kernel_rfl) (Am Q0.o ((Ap _).trans h1))) (vS ?_);iterate 2 refine vK ?_
 refine Lo _ (b) rfl (fun w1 _=>by kernel_rfl) (vS ?_)
 refine vK ?_
 refine Dc ⟨b,1,none⟩ _ rfl (fun w1 h1=>Dt (fun w=>by kernel_rfl) (Am Q1.o ((Ap _).trans h1))) (vS ?_)
 refine vK ?_
 refine CD _ rfl vY rfl (fun H hb K hK=>?_);refine Ra (v:=.pointer (some H)) (w':=H.alloc (.cells #[(a++q:),.iface T x] 381)) vY (hK _ _ ((Aa H).alloc _) ?_);clear hK K;have hN:=Ae.new H (.cells #[(a++q:),.iface T x] 381);refine vS ?_;iterate 2 refine vK ?_
 refine Hv (fun w5 he=>?_);have X:Af W w5:=(((Ap W).trans hb).trans ((Aa H).alloc _)).trans he;have A:=hN.keeps he kI;have J:=hb.size;have J:W.heap.size<=H.heap.size:=J;have hl:=A.lt;have HX:=Hd (bA X (bA A (bA J hl)));clear he hN hb X A J hl;go_wp2_with fail
 go_ret
 obtain⟨X,A,J,hl⟩:=HX.o
 obtain⟨Z,O⟩:=HV.o
 exact Lw.mk1 ⟨_,T,x,Dn,rfl,.inr ⟨J,hl⟩,A,Z.keeps X n (.iface T x) Dn (fun _ _ e=>e),fun e=>kL ((O _ e).2),fun x hx=>.inl (O x hx).1⟩ X
theorem xM(D:Nat->Prop)(a:vB)(u:vB)(ks:Nat->PA)(b:Nat)(h:Hm (.br u ks) (Gm b) D W)(h0:a.size≠0):vQ 291 #[a,Gm b] W (Lw D W (.ext a (.br u ks))):=by
 have O:=Wl h0;have H:=Hd h;have X:=wY b;have q:=VZ (Gm b) (.inr (.inl ⟨b,rfl⟩));have A:=sK (Gm b) (.inl ⟨b,rfl⟩);unfold Gm at X q A ⊢;clear h h0;unfold vQ;go_in;go_wp2_with fail
 go_ret;have J:=(Aa W).alloc (.cells #[a,Gm b] 381);have K:=Ae.new W (.cells #[a,Gm b] 381);exact Lw.mk1 ⟨_,_,_,D,rfl,.inr ⟨bP _,K.lt⟩,K,H.o.at'.keeps J _ _ _ (fun _ _ e=>e),fun e=>kL (H.o.lt _ e),fun x Z=>.inl Z⟩ J
theorem xN(D:Nat->Prop)(a:vB)(h0:a.size≠0):vQ 291 #[a,Mi] W (Lw D W .no):=by
 have H:=Wl h0;have e:=VZ Mi (.inr (.inr rfl));have q:=sK Mi (.inr rfl);have A:=wZ;unfold Mi at e q A ⊢;clear h0;unfold vQ;go_in;go_wp2_with fail
 go_ret;exact Lw.mk1 rfl (Aa W)
theorem Wu(D:Nat->Prop)(a:vB)(P:PA)(v:vV)(h:Hm P v D W)(hn:P.isNil=false)(ha:a.size<=1000000)(hd:Dp P 1000000):vQ 291 #[a,v] W (Lw D W (Jh a P)):=by
 unfold Jh
 by_cases h0:a.size=0
 ·rw[if_pos h0,Og h0];exact uY W D P v h.at'
 rw[if_neg h0];cases P with
 | nil=>cases hn
 | no=>obtain rfl:v=Mi:=h.at';exact xN W D a h0
 | leaf q u =>obtain⟨b,rfl,A,e⟩:=h.at';exact jyC W D a q u b e h0 ha hd
 | ext q n =>obtain⟨b,T,x,O,rfl,A,e,H,X,J⟩:=h.at';exact uX W D a q n T x O b e H (fun x K=>⟨J x K,h.lt x (J x K)⟩) h0 ha hd.1
 | br u ks =>obtain⟨b,Z,Dk,rfl,A,e,H,X⟩:=h.at';exact xM W D a u ks b h h0
end
section
attribute [local go_sem] Oper.semAt_some
theorem FC(h:P.isNil=false):(Jh a P).isNil=false:=by
 unfold Jh;split
 ·exact h
 ·cases P <;> rfl
theorem TG:∀ (P:PA) (p u:vB),(Dh P p u).isNil=false
 | .nil,_,_=>rfl
 | .no,_,_=>rfl
 | .leaf q v,p,u=>by
  unfold Dh;split
  ·rfl
  ·refine FC ?_
   rw[Vb];split
   ·rw[Vb];split <;> rfl
   ·rw[Vb];split <;> rfl
 | .ext q n,p,u=>by
  unfold Dh;split
  ·exact FC (TG n _ _)
  ·refine FC ?_
   rw[Vb];split <;> rfl
 | .br v ks,p,u=>by
  unfold Dh;split <;> rfl
theorem DI{P:Program}{a:Act}{w:vW}{d:Option Tmp}{x:Operand}{args:Array Operand}{ats:Array TypeId}{ty:TypeId}{af:Array Edge}{g:Option (Nat × Bool)}{T:TypeId}{r:vV}{f:FuncId}{vs:Array vV}(hx:a.eval x=.iface T v)
  (hm:(Go.method (P.types.size+Made.depth) T v name).run P w=.ok (f,r) w) (eg:∀ args w,(callFunc f args).run P w=.ok (.enter f args) w) (hv:args.map a.eval=vs) :
  (execOp a.eval ⟨d,.call { callee:=.invoke x name,args:=args,argTypes:=ats },ty,pos,af,g⟩).run P w=.ok (.enter f (#[r]++vs)) w:=by
 subst hv;have e:(#[Value.iface T v]++args.map a.eval)[0]?=some (.iface T v):=by simp[Array.getElem?_append]
 have q:(#[Value.iface T v]++args.map a.eval).extract 1 (#[Value.iface T v]++args.map a.eval).size=args.map a.eval:=by simp
 simp only[execOp,resolve,hx,bQ,cU,Result.andThen,invoke,e,q,callMethod,run_program,hm,eg]
def BJ:PA->FuncId
 | .leaf _ _=>289
 | .ext _ _=>295
 | .br _ _=>290
 | _=>303
def Yq:PA->FuncId
 | .leaf _ _=>286
 | .ext _ _=>292
 | .br _ _=>296
 | _=>300
def Vh:PA->FuncId
 | .leaf _ _=>287
 | .ext _ _=>293
 | .br _ _=>297
 | _=>301
def KY:PA->FuncId
 | .leaf _ _=>288
 | .ext _ _=>294
 | .br _ _=>298
 | _=>302
set_option maxRecDepth 100000
theorem TJ(P:PA):∀ args w,(callFunc (BJ P) args).run Tryz.prog w=.ok (.enter (BJ P) args) w:=by intro args w;cases P <;> kernel_rfl
theorem MN(P:PA):∀ args w,(callFunc (Yq P) args).run Tryz.prog w=.ok (.enter (Yq P) args) w:=by intro args w;cases P <;> kernel_rfl
theorem JL(P:PA):∀ args w,(callFunc (Vh P) args).run Tryz.prog w=.ok (.enter (Vh P) args) w:=by intro args w;cases P <;> kernel_rfl
theorem X_(P:PA):∀ args w,(callFunc (KY P) args).run Tryz.prog w=.ok (.enter (KY P) args) w:=by intro args w;cases P <;> kernel_rfl
structure sU(P:PA)(T:TypeId)(x:Value):Prop where
 put:∀ w,(Go.method (Tryz.prog.types.size+Made.depth) T x "guilloche/trie.put").run Tryz.prog w=.ok (BJ P,x) w
 drop:∀ w,(Go.method (Tryz.prog.types.size+Made.depth) T x "guilloche/trie.drop").run Tryz.prog w=.ok (Yq P,x) w
 ent:∀ w,(Go.method (Tryz.prog.types.size+Made.depth) T x "guilloche/trie.entries").run Tryz.prog w=.ok (Vh P,x) w
 form:∀ w,(Go.method (Tryz.prog.types.size+Made.depth) T x "guilloche/trie.form").run Tryz.prog w=.ok (KY P,x) w
theorem Bw.meth{T:TypeId}{x:vV}{W:vW}(h:Bw P (.iface T x) D W):sU P T x:=by
 cases P with
 | nil=>cases h
 | no =>have h:Value.iface T x=Mi:=h;unfold Mi at h;injection h with h1 h2;subst h1 h2;exact⟨fun w=>by kernel_rfl,fun w=>by kernel_rfl,fun w=>by kernel_rfl,fun w=>by kernel_rfl⟩
 | leaf q u =>obtain⟨b,h,_⟩:=h;unfold Zx at h;injection h with h1 h2;subst h1 h2;exact⟨fun w=>by kernel_rfl,fun w=>by kernel_rfl,fun w=>by kernel_rfl,fun w=>by kernel_rfl⟩
 | ext q n =>obtain⟨b,_,_,_,h,_⟩:=h;unfold Nb at h;injection h with h1 h2;subst h1 h2;exact⟨fun w=>by kernel_rfl,fun w=>by kernel_rfl,fun w=>by kernel_rfl,fun w=>by kernel_rfl⟩
 | br u ks =>obtain⟨b,_,_,h,_⟩:=h;unfold Gm at h;injection h with h1 h2;subst h1 h2;exact⟨fun w=>by kernel_rfl,fun w=>by kernel_rfl,fun w=>by kernel_rfl,fun w=>by kernel_rfl⟩
theorem jyr:sU .no 387 (.agg #[]):=Bw.meth (D:=fun _=>True) (W:={ (default:vW)with heap:=#[] }) rfl
def DA(P:PA):Prop:=∀ (W:vW) (T:TypeId) (x:vV) (D:Nat->Prop) (p u:vB),Hm P (.iface T x) D W->p.size<=900000->Dz p=true->Dp P 900000 ->
 vQ (BJ P) #[x,p,u] W (Bh D W (Dh P p u))
theorem Bh.mk1{W:vW}(h:Bw P v (Dj D W W') W')(e:Ad D W W'):Bh D W P (.returned v) W':=⟨v,rfl,h,e⟩
theorem VS(T:TypeId)(x:vV)(w:vW):(binOp .eql 231 (.iface T x) .nilIface).run Tryz.prog w=.ok false w:=vY
theorem vG:(binOp .eql 231 .nilIface .nilIface).run Tryz.prog w=.ok true w:=vY
theorem FZ:(Uh u vk).length=17:=by simp[Uh]
theorem AV(h:i < 16):(Uh u vk)[1+i]?=some (vk i):=by
 rw[iZ];show ((List.range 16).map vk)[i]?=_;rw[bY,fI h];rfl
def setV(vk:Nat->vV)(i:Nat)(v:vV):Nat->vV:=fun j=>if j=i then v else vk j
theorem pP(h:i < 16)(v:vV):(Uh u vk).toArray.setIfInBounds (1+i) v=(Uh u (setV vk i v)).toArray:=by
 have e:(Uh u vk).set (1+i) v=Uh u (setV vk i v):=by rw[iZ];show Value.string u ::((List.range 16).map vk).set i v=Value.string u ::(List.range 16).map (setV vk i v);congr 1;apply iV;intro j;rw[iS];by_cases hj:i=j;{subst hj;rw[if_pos rfl,if_pos (by simpa using h),bY,fI h];simp[setV]};rw[if_neg hj];by_cases hj16:j < 16;{rw[bY,bY,fI hj16];simp[setV,Ne.symm hj]};rw[jB (by simp;omega),jB (by simp;omega)]
 rw[<-e];simp
theorem jxF:(Uh u vk).toArray.setIfInBounds 0 u'=(Uh u' vk).toArray:=by simp[Uh]
structure Gn(u:vB)(ks:Nat->PA)(b:Nat)(vk:Nat->Value)(Dk:Nat->Nat->Prop)(D:Nat->Prop)(W:World):Prop where
 mem:D b
 blk:Ae W b (.cells (Uh u vk).toArray 385)
 kid:∀ i,i < 16->Bw (ks i) (vk i) (Dk i) W/\¬ Dk i b/\∀ x,Dk i x->D x
 apart:∀ i j,i < 16->j < 16->i≠j->∀ x,Dk i x->¬ Dk j x
 lt:∀ x,D x->x < W.heap.size
theorem Gn.pa{u:vB}{ks:Nat->PA}{b:Nat}{vk:Nat->vV}{W:vW}(h:Gn u ks b vk Dk D W):Hm (.br u ks) (Gm b) D W:=
 ⟨⟨b,vk,Dk,rfl,h.mem,h.blk,h.kid,h.apart⟩,h.lt⟩
theorem Hm.br{u:vB}{ks:Nat->PA}{b:Nat}{W:vW}(h:Hm (.br u ks) (Gm b) D W):∃ q A,Gn u ks b q A D W:=by
 obtain⟨X,q,A,e,H,J,K,O⟩:=h.at'
 unfold Gm at e;injection e with _ e;injection e with e;injection e with e;injection e with e;subst e
 exact⟨q,A,H,J,K,O,h.lt⟩
theorem Gn.keeps{F:Bf}{u:vB}{ks:Nat->PA}{b:Nat}{vk:Nat->vV}{W:vW}(h:Gn u ks b vk Dk D W)(k:Ad F W W')(hF:∀ x,D x->¬ F x):Gn u ks b vk Dk D W':=
 ⟨h.mem,h.blk.keeps k (hF b h.mem),fun i e=>⟨(h.kid i e).1.keeps k _ _ _ (fun x q=>hF x ((h.kid i e).2.2 x q)),(h.kid i e).2⟩,h.apart,fun x q=>bE (h.lt x q) k.size⟩
theorem Gn.val{u:vB}{ks:Nat->PA}{b:Nat}{vk:Nat->vV}{W:vW}(h:Gn u ks b vk Dk D W)(u':vB):Gn u' ks b vk Dk D (W.setCell b u'):=by
 have K:=Ad.oneSet W b u';have H:=h.blk.set_same (i:=0) u';rw[jxF]at H
 exact⟨h.mem,H,fun i q=>⟨(h.kid i q).1.keeps K _ _ _ (fun x A e=>(h.kid i q).2.1 (by have e:x=b:=e;rw[<-e];exact A)),(h.kid i q).2⟩,h.apart,fun x A=>bE (h.lt x A) K.size⟩
theorem Gn.turn{u:vB}{ks:Nat->PA}{b:Nat}{vk:Nat->vV}{W:vW}(h:Gn u ks b vk Dk D W)(hi:i < 16)(k:Ad (Dk i) W W1)(hP:Bw P v (Dj (Dk i) W W1) W1):Gn u (Ca ks i P) b (setV vk i v) (fun j=>if j=i then Dj (Dk i) W W1 else Dk j) (Dj D W W1) (W1.setCell ⟨b,1+i,none⟩ v):=by
 have K:=Ad.oneSet W1 ⟨b,1+i,none⟩ v;have hB:=(h.blk.keeps k (h.kid i hi).2.1).set_same (i:=1+i) v;rw[pP u vk hi]at hB;have a0:=h.lt b h.mem
 refine⟨.inl h.mem,hB,fun j H=>?_,fun j l H Z O x q A=>?_,fun x q=>?_⟩
 ·by_cases e:j=i;{subst e;simp only[if_pos,Yi];rw[show setV vk j v j=v from if_pos rfl];refine⟨hP.keeps K _ _ _ (fun x q e=>?_),fun e=>?_,fun x q=>?_⟩;{have e:x=b:=e;rw[e]at q;rcases q with q | q;{exact (h.kid j hi).2.1 q};omega};{rcases e with e | e;{exact (h.kid j hi).2.1 e};omega};rcases q with q | q;{exact .inl ((h.kid j hi).2.2 x q)};exact .inr q};simp only[if_neg e];rw[BC _ _ e,show setV vk i v j=vk j from if_neg e];refine⟨((h.kid j H).1.keeps k _ _ _ (fun x q A=>h.apart j i H hi e x q A)).keeps K _ _ _ (fun x q e=>?_),(h.kid j H).2.1,fun x q=>.inl ((h.kid j H).2.2 x q)⟩;have e:x=b:=e;rw[e]at q;exact (h.kid j H).2.1 q
 ·have X:∀ m,m < 16->Dk m x->¬(W.heap.size<=x/\x < W1.heap.size):=fun m hm hd e=>kL (h.lt x ((h.kid m hm).2.2 x hd));by_cases e:j=i;{subst e;(have g1:Dj (Dk j) W W1 x:=by simpa using q);(have J:Dk l x:=by simpa [Ne.symm O]using A);rcases g1 with g1 | g1;{exact h.apart j l H Z O x g1 J};exact X l Z J g1};(have g1:Dk j x:=by simpa [e]using q);by_cases e2:l=i;{subst e2;(have J:Dj (Dk l) W W1 x:=by simpa using A);rcases J with J | J;{exact h.apart j l H Z O x g1 J};exact X j H g1 J};(have J:Dk l x:=by simpa [e2]using A);exact h.apart j l H Z O x g1 J
 ·exact bE (AY h.lt k x q) K.size
theorem Gn.turn_keeps{u:vB}{ks:Nat->PA}{b:Nat}{vk:Nat->vV}{W:vW}(h:Gn u ks b vk Dk D W)(hi:i < 16)(k:Ad (Dk i) W W1)(v:vV):Ad D W (W1.setCell ⟨b,1+i,none⟩ v):=
 (k.mono (fun x _ q=>(h.kid i hi).2.2 x q)).trans' (Ad.oneSet W1 ⟨b,1+i,none⟩ v) (fun x _ e=>by have e:x=b:=e;rw[e];exact h.mem)
theorem rA(D:Nat->Prop)(p u:vB):vQ 303 #[.agg #[],p,u] W (Bh D W (.leaf p u)):=by
 unfold vQ;go_in;go_wp2_with fail
 go_ret;have A:=((Aa W).alloc (.cells #[] 387)).alloc (.cells #[p,u] 378);have q:=Ae.new (W.alloc (.cells #[] 387)) (.cells #[p,u] 378);rw[bG]at q;exact Bh.mk1 ⟨_,rfl,.inr ⟨Nat.le_succ _,q.lt⟩,q⟩ (A.mono kZ)
theorem lF(D:Nat->Prop)(u0 u:vB)(ks:Nat->PA)(b:Nat)(h:Hm (.br u0 ks) (Gm b) D W):vQ 290 #[b,.string ⟨#[]⟩,u] W (fun e w'=>e=.returned (Gm b)/\Bh D W (.br u ks) e w'):=by
 obtain⟨A,J,hb⟩:=h.br
 have O:=hb.blk.cellL (i:=0) (v:=.string u0) vF;have X:W.frozen? b=false:=hb.blk.frozen;have H:=Hd hb;clear h hb;unfold vQ;go_in;go_wp2_with fail
 go_ret;have K:=Ad.oneSet W b u
 exact⟨rfl,Bh.mk1 ((H.o.val u).pa.at'.mono (fun x q=>.inl q)) (K.mono (fun x _ e=>by have e:x=b:=e;rw[e];exact H.o.mem))⟩
theorem juH(D:Nat->Prop)(u0 u:vB)(ks:Nat->PA)(b:Nat)(h:Hm (.br u0 ks) (Gm b) D W)(p:vB)(h0:p.size≠0)(hp:Dz p=true)(hs:p.size<=900000)(hn:(ks (Ax p)).isNil=false)(hd:Dp (ks (Ax p)) 900000)(hk:DA (ks (Ax p))):vQ 290 #[b,p,u] W (fun e w'=>e=.returned (Gm b)/\Bh D W (.br u0 (Ca ks (Ax p) (Dh (ks (Ax p)) (Ft p) u))) e w'):=by
 obtain⟨vk,Dk,hb⟩:=h.br
 obtain⟨y,t,hy⟩:=Sx h0
 obtain⟨e1,e2⟩:=Rp hy
 have q:=Yl hp h0
 obtain⟨g0,a8⟩:=AR hy
 have b2:=Wl h0;have X:=AQ hp;have a4:(Ft p).size<=900000:=by unfold Ft;rw[Jp];omega
 have hI:Ax p=(p[0]'g0).toNat:=by rw[e1,a8]
 have J:=hb.kid (Ax p) q
 obtain⟨T,x,a2⟩:=J.1.form hn
 have q1:=hb.blk.cellL (AV u0 vk q);rw[a2]at q1;have HK:=Hd hk;have HB:=Hd hb;have HM:=Hd ((show Bw (ks (Ax p)) (.iface T x) (Dk (Ax p)) W by rw[<-a2];exact J.1).meth);have a9:=Hd (show Bw (ks (Ax p)) (.iface T x) (Dk (Ax p)) W by rw[<-a2];exact J.1);have b0:=Hd hd;clear hb J hk hd;have a0:=Hd (show ∀ Z,Af W Z->vQ (BJ (ks (Ax p))) #[x,Ft p,u] Z (Bh (Dk (Ax p)) Z (Dh (ks (Ax p)) (Ft p) u))from fun Z e=>HK.o Z T x _ _ _ ⟨a9.o.keeps e _ _ _ (fun _ _ e=>e),fun z hz=>bE (HB.o.lt z ((HB.o.kid _ q).2.2 z hz)) e.size⟩ a4 X b0.o);have hQ:=VS T x;have Q1:=Hd q1;have b1:=Hd (show ¬(Dk (Ax p) b\/W.heap.size<=b)from fun e=>e.elim (HB.o.kid _ q).2.1 (fun e=>kL (HB.o.lt b HB.o.mem)));have a5:=Hd hI;have A:=Hd q;have b3:=Hd (bA X a4);have c1:(0:Int) < (p.size:Int):=vO
 have c2:((p[0]'g0).toNat:Int) < 16:=vO
 have c3:(1:Int)<=(p.size:Int):=vO
 rw[hI]at q1
 obtain⟨i,hi⟩:=vE (p[0]'g0).toNat
 clear h a2 hy e1 e2 h0 hp hn a8 X a4 q hI hi;unfold vQ;go_in;go_wp2_with fail
 refine BU [0,1,2,3,4,5,6,7,8,9,10,11,12,14,15,13,16] 17 [13] Af (Ad (fun z=>Dk (Ax p) z\/W.heap.size<=z)) Aa Aq (fun x y z h k=>Ad.trans h k) (fun x y h=>h.mono kZ) vY vY vY ?_;iterate 4 refine vZ ?_
 refine Te _ (b) rfl (fun w1=>by kernel_rfl) (vS ?_);iterate 2 refine vZ ?_
 refine Ww ⟨b,1+(p[0]'g0).toNat,none⟩ _ rfl (fun w1 h1=>Dt (fun w=>by kernel_rfl) (by rw[<-a5.o];exact Dw Q1.o (((Ad.refl (fun z=>Dk (Ax p) z\/W.heap.size<=z) W).drew).trans h1) (by exact b1.o))) ?_;refine vS ?_;iterate 3 refine vZ ?_
 refine Te _ (.iface T x) rfl (fun w1=>by kernel_rfl) (vS ?_)
 refine vZ ?_
 refine Te _ (b) rfl (fun w1=>by kernel_rfl) (vS ?_)
 refine vZ ?_
 refine Zf _ rfl vY rfl (fun Z hb K hK=>?_);have kb:Af W Z:=(Ap _).trans hb;refine Oe (DI (f:=BJ (ks (Ax p))) (vs:=#[Ft p,u]) rfl (HM.o.put _) (TJ _) vY) ?_;refine (a0.o Z kb).mono ?_;rintro e w2 ⟨v2,rfl,a1,O⟩
 refine⟨v2,rfl,hK _ _ (O.mono (fun z _ hz=>.inl hz)) ?_⟩
 have HS:=Hd (bA kb (bA a1 O));clear hK K hb kb a1 O;refine vS ?_
 refine vZ ?_
 refine CE _ rfl vY rfl (fun wc hc K hK=>?_)
 obtain⟨hb,a1,O⟩:=HS.o
 have H:=HB.o.keeps (F:=fun _=>False) (hb) (fun _ _ e=>e);have kc:Ad (Dk (Ax p)) Z wc:=O.trans (hc.mono kZ);have a7:Bw (Dh (ks (Ax p)) (Ft p) u) v2 (Dj (Dk (Ax p)) Z wc) wc:=(a1.keeps hc _ _ _ (fun _ _ e=>e)).mono (fun z hz=>hz.imp id (fun e=>⟨e.1,bE e.2 hc.size⟩))
 obtain⟨T2,x2,rfl⟩:=a7.form (TG _ _ _)
 have ht:=H.turn A.o kc a7;have a3:=H.turn_keeps A.o kc (.iface T2 x2)
 obtain⟨old,q7⟩:∃ v,wc.cell? ⟨b,1+Ax p,none⟩=some v:=⟨_,(H.blk.keeps kc (H.kid _ A.o).2.1).cellL (bB (by rw[FZ];have:=A.o;omega))⟩
 have f7:wc.frozen? ⟨b,1+Ax p,none⟩=false:=(H.blk.keeps kc (H.kid _ A.o).2.1).frozen;have HT:=Hd (bA ht (bA a3 hb));rw[a5.o]at q7 f7;clear hb a1 O H kc a7 ht a3 hc;go_simp;refine hK _ _ ?_;clear hK K q7 f7;go_wp2_with fail
 go_ret
 obtain⟨ht,a3,hb⟩:=HT.o
 rw[<-a5.o]
 exact⟨rfl,Bh.mk1 (ht.pa.at'.mono (fun z hz=>hz.imp id (fun e=>⟨bF hb.size e.1,bE e.2 (Ad.oneSet wc ⟨b,1+Ax p,none⟩ (.iface T2 x2)).size⟩))) (((hb.mono kZ):Ad D W Z).trans a3)⟩
theorem lE(D:Nat->Prop)(u0 u:vB)(ks:Nat->PA)(b:Nat)(h:Hm (.br u0 ks) (Gm b) D W)(p:vB)(h0:p.size≠0)(hp:Dz p=true)(hs:p.size<=900000)(hn:(ks (Ax p)).isNil=true):vQ 290 #[b,p,u] W (fun e w'=>e=.returned (Gm b)/\Bh D W (.br u0 (Ca ks (Ax p) (.leaf (Ft p) u))) e w'):=by
 obtain⟨vk,Dk,hb⟩:=h.br
 obtain⟨y,t,hy⟩:=Sx h0
 obtain⟨e1,e2⟩:=Rp hy
 have q:=Yl hp h0
 obtain⟨g0,b2⟩:=AR hy
 have c4:=Wl h0;have a4:=AQ hp;have b3:(Ft p).size<=900000:=by unfold Ft;rw[Jp];omega
 have hI:Ax p=(p[0]'g0).toNat:=by rw[e1,b2]
 have a5:=hb.kid (Ax p) q;have b4:vk (Ax p)=.nilIface:=by have:=a5.1;rw[Py hn]at this;exact this
 have q1:=hb.blk.cellL (AV u0 vk q);rw[b4]at q1;have f1:W.frozen? ⟨b,1+Ax p,none⟩=false:=hb.blk.frozen
 obtain⟨W1,O⟩:=vE (W.setCell ⟨b,1+Ax p,none⟩ Mi)
 have a2:=hb.turn q (P:=.no) (v:=Mi) (Ad.refl _ W) rfl;rw[<-O]at a2
 obtain⟨X,a7⟩:=vE (fun j=>if j=Ax p then Dj (Dk (Ax p)) W W else Dk j)
 obtain⟨b8,a0⟩:=vE (Ca ks (Ax p) .no)
 have a8:Ca b8 (Ax p) (.leaf (Ft p) u)=Ca ks (Ax p) (.leaf (Ft p) u):=by funext j;unfold Ca;rw[a0];unfold Ca;by_cases e:j=Ax p;{rw[if_pos e,if_pos e]};rw[if_neg e,if_neg e,if_neg e]
 rw[<-a7, <-a0]at a2;have b5:W1.cell? ⟨b,1+Ax p,none⟩=some Mi:=by have:=a2.blk.cellL (AV u0 _ q);rw[this];show some (setV vk (Ax p) Mi (Ax p))=_;unfold setV;rw[if_pos rfl]
 have c5:=Hd O;have b9:=Hd a8;have b6:Hid (∀ z,Dj D W W z->D z):=(fun z J=>J.elim id (fun e=>by omega));have b7:=Hd (show Ad D W W1 by rw[O];exact (Ad.oneSet W ⟨b,1+Ax p,none⟩ Mi).mono (fun z _ e=>by have e:z=b:=e;rw[e];exact hb.mem));have HB:=Hd a2;have Q1:=Hd b5;clear a7 a0 a2 b5 a8 hb a5;unfold Mi at O Q1;have a1:=Hd (show ∀ wb,Af W1 wb->vQ 303 #[.agg #[],Ft p,u] wb (Bh (X (Ax p)) wb (.leaf (Ft p) u))from fun wb _=>rA wb _ _ _);have c0:=Hd (show ¬(X (Ax p) b\/W1.heap.size<=b)from fun e=>e.elim (HB.o.kid _ q).2.1 (fun e=>kL (HB.o.lt b HB.o.mem)));have b0:=Hd hI;have A:=Hd q;have c7:=Hd (bA a4 b3);have c1:(0:Int) < (p.size:Int):=vO
 have c2:((p[0]'g0).toNat:Int) < 16:=vO
 have c3:(1:Int)<=(p.size:Int):=vO
 rw[hI]at q1 f1 O
 obtain⟨i,hi⟩:=vE (p[0]'g0).toNat
 clear h b4 hy e1 e2 h0 hp hn b2 a4 b3 q hI hi;unfold vQ;go_in;go_wp2_with fail
 rw[<-O];refine BU [0,1,2,3,4,5,6,7,8,9,10,11,12,14,15,13,16] 17 [13] Af (Ad (fun z=>X (Ax p) z\/W1.heap.size<=z)) Aa Aq (fun x y z h k=>Ad.trans h k) (fun x y h=>h.mono kZ) vY vY vY ?_;iterate 4 refine vZ ?_
 refine Te _ (b) rfl (fun w1=>by kernel_rfl) (vS ?_);iterate 2 refine vZ ?_
 refine Ww ⟨b,1+(p[0]'g0).toNat,none⟩ _ rfl (fun w1 h1=>Dt (fun w=>by kernel_rfl) (by rw[<-b0.o];exact Dw Q1.o (((Ad.refl (fun z=>X (Ax p) z\/W1.heap.size<=z) W1).drew).trans h1) (by exact c0.o))) ?_;refine vS ?_;iterate 3 refine vZ ?_
 refine Te _ (.iface 387 (.agg #[])) rfl (fun w1=>by kernel_rfl) (vS ?_)
 refine vZ ?_
 refine Te _ (b) rfl (fun w1=>by kernel_rfl) (vS ?_)
 refine vZ ?_
 refine Zf _ rfl vY rfl (fun wb hb K hK=>?_);have kb:Af W1 wb:=(Ap _).trans hb;refine Oe (DI (f:=303) (vs:=#[Ft p,u]) rfl (jyr.put _) (fun args w=>by kernel_rfl) vY) ?_;refine (a1.o wb kb).mono ?_;rintro e w2 ⟨v2,rfl,a3,Z⟩
 refine⟨v2,rfl,hK _ _ (Z.mono (fun z _ J=>.inl J)) ?_⟩
 have HS:=Hd (bA kb (bA a3 Z));clear hK K hb kb a3 Z;refine vS ?_
 refine vZ ?_
 refine CE _ rfl vY rfl (fun wc hc K hK=>?_)
 obtain⟨hb,a3,Z⟩:=HS.o
 have H:=HB.o.keeps (F:=fun _=>False) (hb) (fun _ _ e=>e);have kc:Ad (X (Ax p)) wb wc:=Z.trans (hc.mono kZ);have b1:Bw (PA.leaf (Ft p) u) v2 (Dj (X (Ax p)) wb wc) wc:=(a3.keeps hc _ _ _ (fun _ _ e=>e)).mono (fun z J=>J.imp id (fun e=>⟨e.1,bE e.2 hc.size⟩))
 obtain⟨T2,x2,rfl⟩:=b1.form rfl
 have ht:=H.turn A.o kc b1;have a9:=H.turn_keeps A.o kc (.iface T2 x2)
 obtain⟨old,q7⟩:∃ v,wc.cell? ⟨b,1+Ax p,none⟩=some v:=⟨_,(H.blk.keeps kc (H.kid _ A.o).2.1).cellL (bB (by rw[FZ];have:=A.o;omega))⟩
 have f7:wc.frozen? ⟨b,1+Ax p,none⟩=false:=(H.blk.keeps kc (H.kid _ A.o).2.1).frozen;have HT:=Hd (bA ht (bA a9 hb));rw[b0.o]at q7 f7;clear hb a3 Z H kc b1 ht a9 hc;go_simp;refine hK _ _ ?_;clear hK K q7 f7;go_wp2_with fail
 go_ret
 obtain⟨ht,a9,hb⟩:=HT.o
 rw[<-b0.o];have a8:=b9.o
 refine⟨rfl,Bh.mk1 (Bw.mono (fun z J=>?_) (by rw[<-a8];exact ht.pa.at')) ((b7.o.trans (hb.mono kZ)).trans (a9.mono (fun z _ J=>b6.o z J)))⟩
 rcases J with J | J
 ·exact .inl (b6.o z J)
 ·exact .inr ⟨bF (bF b7.o.size hb.size) J.1,bE J.2 (Ad.oneSet wc ⟨b,1+Ax p,none⟩ (.iface T2 x2)).size⟩
end
section
attribute [local go_sem] Oper.semAt_some
def Xr(D:Nat->Prop)(W:vW)(b:Nat)(P:PA)(e:Ending)(w':vW):Prop:=e=.returned (Gm b)/\Bw P (Gm b) (Dj D W w') w'/\Ad D W w'
theorem US(D:Nat->Prop)(v:vB)(ks:Nat->PA)(b:Nat)(h:Hm (.br v ks) (Gm b) D W)(p u:vB)(hp:Dz p=true)(hs:p.size<=900000)(hf:∀ x t,p.data.toList=x :: t->(ks x.toNat).isNil=true):vQ 290 #[b,p,u] W (Xr D W b (Hs (.br v ks) p u)):=by
 rw[Vb]
 by_cases h0:p.size=0
 ·rw[if_pos h0,Og h0];refine (lF W D v u ks b h).mono ?_;rintro e w' ⟨rfl,J,e,q,A⟩;injection e with e;subst e;exact⟨rfl,q,A⟩
 ·rw[if_neg h0];obtain⟨x,t,H⟩:=Sx h0;refine (lE W D v u ks b h p h0 hp hs (by rw[(Rp H).1];exact hf x t H)).mono ?_;rintro e w' ⟨rfl,J,e,q,A⟩;injection e with e;subst e;exact⟨rfl,q,A⟩
theorem sG{W:vW}{b:Nat}(h:Ae W b (.cells #[.string ⟨#[]⟩,.nilIface,.nilIface,.nilIface,.nilIface,.nilIface,.nilIface,.nilIface,.nilIface,.nilIface,.nilIface,.nilIface,.nilIface,.nilIface,.nilIface,.nilIface,.nilIface] 385)):Gn ⟨#[]⟩ (fun _=>.nil) b (fun _=>.nilIface) (fun _ _=>False) (fun x=>x=b) W:=
 ⟨rfl,h,fun i _=>⟨rfl,fun e=>e,fun _ e=>e.elim⟩,fun _ _ _ _ _ _ e=>e.elim,fun x e=>by rw[e];exact h.lt⟩
theorem Xr.br{W:vW}{b:Nat}(h:Bw P (Gm b) (Dj D W w') w')(k:Ad D W w')(hl:∀ x,D x->x < W.heap.size):Hm P (Gm b) (Dj D W w') w':=⟨h,AY hl k⟩
theorem jsQ(D:Nat->Prop)(q v u:vB)(b:Nat)(A:Ae W b (.cells #[q,v] 378)):vQ 289 #[b,q,u] W (Bh D W (.leaf q u)):=by
 have J:=A.cell (i:=0) (v:=.string q) vF;clear A;have H:(q.toList == q.toList)=true:=by simp
 unfold vQ;go_in;go_wp2_with fail
 go_ret;have A:=Ae.new W (.cells #[q,u] 378);exact Bh.mk1 ⟨_,rfl,.inr ⟨bP _,A.lt⟩,A⟩ (((Aa W).alloc _).mono kZ)
theorem jwG(v:vB):(∀ x t,(q.extract (Cy q p) q.size).data.toList=x :: t->PA.isNil ((fun _=>PA.nil) x.toNat)=true)/\∃ v1 ks1,Hs (.br ⟨#[]⟩ fun _=>.nil) (q.extract (Cy q p) q.size) v=.br v1 ks1/\∀ x t,(p.extract (Cy q p) p.size).data.toList=x :: t->(ks1 x.toNat).isNil=true:=by
 refine⟨fun _ _ _=>rfl,?_⟩
 obtain⟨X,Z,ha,hb,A,H,J⟩:=EY q.data.toList p.data.toList
 have e:(q.extract (Cy q p) q.size).data.toList=X:=by rw[Oj,A];rfl
 have K:(p.extract (Cy q p) p.size).data.toList=Z:=by rw[Oj,H];rfl
 obtain⟨x1,e1⟩:∃ x,x=q.extract (Cy q p) q.size:=⟨_,rfl⟩
 rw[<-e1]at e ⊢;rw[Vb]
 by_cases h0:x1.size=0
 ·rw[if_pos h0];exact⟨_,_,rfl,fun _ _ _=>rfl⟩
 ·rw[if_neg h0];refine⟨_,_,rfl,fun y t hy=>?_⟩;obtain⟨x,s,O⟩:=Sx h0;unfold Ca;rw[(Rp O).1,if_neg (Zp (Ne.symm (J x s y t (by rw[<-e,O]) (by rw[<-K,hy]))))];rfl
theorem jqo(D:Nat->Prop)(q v p u:vB)(b:Nat)(hB:Ae W b (.cells #[q,v] 378))(hne:p≠q)(hq:Dz q=true)(hp:Dz p=true)(hqs:q.size<=900000)(hps:p.size<=900000):vQ 289 #[b,p,u] W (Bh D W (Dh (.leaf q v) p u)):=by
 have q0:=hB.cell (i:=0) (v:=.string q) vF;have Q0:=Hd q0;have Q1:=Hd (hB.cell (i:=1) (v:=.string v) vF);have HB:=Hd hB;have d7:(p.toList == q.toList)=false:=by rw[UH];exact decide_eq_false hne
 obtain⟨c1,c2⟩:=JI q p
 have Z:Dh (.leaf q v) p u=Jh (p.extract 0 (Cy q p)) (Hs (Hs (.br ⟨#[]⟩ fun _=>.nil) (q.extract (Cy q p) q.size) v) (p.extract (Cy q p) p.size) u):=by show (if p=q then PA.leaf p u else _)=_;rw[if_neg hne]
 have a0:=jwG q p v;have a1:=fun w=>FR w q p vO vO
 obtain⟨m,hm⟩:=vE (Cy q p)
 rw[<-hm]at c1 c2 Z a0 a1;rw[Z];have b3:(q.extract m q.size).size<=900000:=by rw[Jp];omega
 have b4:(p.extract m p.size).size<=900000:=by rw[Jp];omega
 have b5:(p.extract 0 m).size<=900000:=by rw[dI];omega
 have b6:Dz (q.extract m q.size)=true:=Px hq _ _;have b7:Dz (p.extract m p.size)=true:=Px hp _ _
 obtain⟨H,v1,a3,e1,J⟩:=a0
 have b8:Dp (Hs (.br v1 a3) (p.extract m p.size) u) 1000000:=EF (by rw[<-e1];exact EF (NJ _ _) vO _) vO _;have b9:(Hs (.br v1 a3) (p.extract m p.size) u).isNil=false:=by rw[Vb];split <;> rfl
 rw[e1];have HF:=Hd (bA (bA H (bA e1 J)) (bA b3 (bA b4 (bA b5 (bA b6 b7)))));have c0:=Hd (bA b8 b9);have HC:=Hd a1;have d8:(m:Int)<=(q.size:Int):=vO
 have d9:(m:Int)<=(p.size:Int):=vO
 clear hB hne hq hp Z hm H J e1 b8 b9 b3 b4 b5 b6 b7 a1;unfold vQ;go_in;go_wp2_with fail
 refine (HC.o _).mono ?_;rintro e w1 ⟨rfl,n,rfl⟩;go_wp2_with fail
 obtain⟨A,a4⟩:=vE W.heap.size
 obtain⟨W2,a5⟩:=vE ((W.drewN n).alloc (.cells #[.string ⟨#[]⟩,.nilIface,.nilIface,.nilIface,.nilIface,.nilIface,.nilIface,.nilIface,.nilIface,.nilIface,.nilIface,.nilIface,.nilIface,.nilIface,.nilIface,.nilIface,.nilIface] 385))
 have c3:Af W W2:=by rw[a5];exact ((Aa W).drewN n).alloc _
 have c4:Gn ⟨#[]⟩ (fun _=>.nil) A (fun _=>.nilIface) (fun _ _=>False) (fun x=>x=A) W2:=by rw[a5,a4];exact sG (Ae.new (W.drewN n) _)
 have c5:W.heap.size<=A:=by rw[a4];exact bP _
 have a7:=Hd c3;have c7:=Hd c4;have b1:=Hd c5;have c8:=Hd (show ¬ W.heap.size<=b from kL HB.o.lt);rw[<-a5, <-a4];clear a4 a5 c3 c4 c5;refine Nc [0,1,2,3,4,5,6,7,8,9,10,11] [11] Af (Ad (fun z=>W.heap.size<=z)) Aa Aq (fun x y z h k=>Ad.trans h k) (fun x y h=>h.mono kZ) vY vY vY ?_;iterate 2 refine vD ?_
 refine Lr _ (b) rfl (fun w1 _=>by kernel_rfl) (vS ?_)
 refine vD ?_
 refine Fc b _ rfl (fun w1 h1=>Dt (fun w=>by kernel_rfl) (Dw (Am Q0.o a7.o) (((Ad.refl (fun z=>W.heap.size<=z) W2).drew).trans h1) (by exact c8.o))) (vS ?_);iterate 3 refine vD ?_
 refine Lr _ (b) rfl (fun w1 _=>by kernel_rfl) (vS ?_)
 refine vD ?_
 refine Fc ⟨b,1,none⟩ _ rfl (fun w1 h1=>Dt (fun w=>by kernel_rfl) (Dw (Am Q1.o a7.o) (((Ad.refl (fun z=>W.heap.size<=z) W2).drew).trans h1) (by exact c8.o))) (vS ?_);refine Hl _ rfl (fun wb hb K hK=>?_);have kb:Af W2 wb:=(Ap _).trans hb
 obtain⟨H,e1,J⟩:=HF.o.1
 refine Oe (Ex (vX 290) vY) ((US wb (fun x=>x=A) ⟨#[]⟩ (fun _=>.nil) A ((c7.o.keeps kb (fun _ _ e=>e)).pa) (q.extract m q.size) v HF.o.2.2.2.2.1 HF.o.2.1 H).mono ?_);rintro e w3 ⟨rfl,O,X⟩
 refine⟨_,rfl,hK _ _ (X.mono (fun z _ e=>by have e:z=A:=e;rw[e];exact b1.o)) ?_⟩
 rw[e1]at O;have HS:=Hd (bA kb (bA O X));clear hK K hb kb O X e1;refine vS ?_;refine Mr (fun wc hc=>?_)
 obtain⟨kb,O,X⟩:=HS.o
 have kc:Ad (fun x=>x=A) wb wc:=X.trans (hc.mono kZ);have c9:Bw (.br v1 a3) (Gm A) (Dj (fun x=>x=A) wb wc) wc:=(O.keeps hc _ _ _ (fun _ _ e=>e)).mono (fun z hz=>hz.imp id (fun e=>⟨e.1,bE e.2 hc.size⟩));have d0:=Xr.br c9 kc (fun x e=>by have e:x=A:=e;rw[e];exact bE c7.o.blk.lt kb.size);have d1:Af W wc:=(a7.o.trans kb).trans' kc (fun x hx e=>by have e:x=A:=e;have:=b1.o;omega);have a8:=Hd (bA d0 d1);have d2:Hid (∀ x,Dj (fun x=>x=A) wb wc x->W.heap.size<=x):=(fun x hx=>hx.elim (fun e=>by rw[e];exact b1.o) (fun e=>bF (bF a7.o.size kb.size) e.1));clear hc kb O X kc c9 d0 d1 HS;go_wp2_with fail
 obtain⟨H,e1,J⟩:=HF.o.1
 refine (US wc _ v1 a3 A a8.o.1 (p.extract m p.size) u HF.o.2.2.2.2.2 HF.o.2.2.1 J).mono ?_;rintro e w4 ⟨rfl,d3,b2⟩;have d4:=Xr.br d3 b2 a8.o.1.lt;have d5:Af W w4:=a8.o.2.trans' b2 (fun x hx e=>kL (d2.o x e));have d6:Hid (∀ x,Dj (Dj (fun x=>x=A) wb wc) wc w4 x->W.heap.size<=x):=fun x hx=>hx.elim (d2.o x) (fun e=>bF a8.o.2.size e.1);have a9:=Hd (bA d4 d5);clear d3 b2 d4 d5 e1 H J;unfold Gm;go_wp2_with fail
 refine (Wu w4 _ (p.extract 0 m) _ (Gm A) a9.o.1 c0.o.2 (kL HF.o.2.2.2.1) c0.o.1).mono ?_;rintro e w5 ⟨v5,rfl,b0,a2⟩;have HZ:=Hd (bA b0 a2);clear b0 a2;go_wp2_with fail
 go_ret
 obtain⟨b0,a2⟩:=HZ.o
 exact Bh.mk1 (b0.mono (fun x hx=>.inr ⟨hx.elim (d6.o x) (fun e=>bF a9.o.2.size e.1),(AY a9.o.1.lt a2) x hx⟩)) ((a9.o.2.trans a2).mono kZ)
theorem Gn.give{u:vB}{ks:Nat->PA}{b:Nat}{vk:Nat->vV}{W:vW}(h:Gn u ks b vk Dk D W)(hi:i < 16)(hP:Bw P v E W)(hE:∀ x,E x->¬ D x/\x < W.heap.size):Gn u (Ca ks i P) b (setV vk i v) (fun j=>if j=i then E else Dk j) (fun x=>D x\/E x) (W.setCell ⟨b,1+i,none⟩ v):=by
 have K:=Ad.oneSet W ⟨b,1+i,none⟩ v;have X:=h.blk.set_same (i:=1+i) v;rw[pP u vk hi]at X
 refine⟨.inl h.mem,X,fun j A=>?_,fun j l A Z J x q H=>?_,fun x q=>?_⟩
 ·by_cases e:j=i;{subst e;simp only[if_pos,Yi];rw[show setV vk j v j=v from if_pos rfl];refine⟨hP.keeps K _ _ _ (fun x q e=>?_),fun e=>(hE b e).1 h.mem,fun x q=>.inr q⟩;have e:x=b:=e;rw[e]at q;exact (hE b q).1 h.mem};simp only[if_neg e];rw[BC _ _ e,show setV vk i v j=vk j from if_neg e];refine⟨(h.kid j A).1.keeps K _ _ _ (fun x q e=>?_),(h.kid j A).2.1,fun x q=>.inl ((h.kid j A).2.2 x q)⟩;have e:x=b:=e;rw[e]at q;exact (h.kid j A).2.1 q
 ·by_cases e:j=i;{subst e;(have g1:E x:=by simpa using q);(have O:Dk l x:=by simpa [Ne.symm J]using H);exact (hE x g1).1 ((h.kid l Z).2.2 x O)};(have g1:Dk j x:=by simpa [e]using q);by_cases e2:l=i;{subst e2;(have O:E x:=by simpa using H);exact (hE x O).1 ((h.kid j A).2.2 x g1)};(have O:Dk l x:=by simpa [e2]using H);exact h.apart j l A Z J x g1 O
 ·rcases q with q | q;{exact bE (h.lt x q) K.size};exact bE (hE x q).2 K.size
theorem jx9{q:vB}(h:m < q.size):Ax (q.extract m q.size)=(q[m]).toNat:=by
 unfold Ax;have e:m < q.data.toList.length:=by rw[Ix];exact h
 rw[Oj,gT e];rfl
theorem jxW(D:Nat->Prop)(q:vB)(n:PA)(T:TypeId)(x:vV)(Dn:Nat->Prop)(b:Nat)(hB:Ae W b (.cells #[q,.iface T x] 381))(hv:Bw n (.iface T x) Dn W)(hbn:¬ Dn b)(hD:∀ x,Dn x->D x/\x < W.heap.size)(p u:vB)(hq:Dz q=true)(hp:Dz p=true)(hqs:q.size<=900000)(hps:p.size<=900000)(hd:Dp n 900000)(hk:DA n)(hnil:n.isNil=false)(hf:Cy q p=q.size):vQ 295 #[b,p,u] W (Bh D W (Jh q (Dh n (p.extract q.size p.size) u))):=by
 have q0:=hB.cell (i:=0) (v:=.string q) vF;have q1:=hB.cell (i:=1) (v:=.iface T x) vF;have Q0:=Hd q0;have Q1:=Hd q1;have HD:Hid (∀ z,Dn z->D z/\z < W.heap.size):=hD
 obtain⟨c1,c2⟩:=JI q p
 have O:=fun w=>FR w q p vO vO;rw[hf]at c1 c2 O;have HC:=Hd O;have b0:=hB.lt;have a5:=Hd (show ¬(Dn b\/W.heap.size<=b)from fun e=>e.elim hbn (fun e=>by omega));have a1:Dz (p.extract q.size p.size)=true:=Px hp _ _;have a3:(p.extract q.size p.size).size<=900000:=by rw[Jp];omega
 have HM:=Hd hv.meth;have a0:=Hd (show ∀ X,Af W X->vQ (BJ n) #[x,p.extract q.size p.size,u] X (Bh Dn X (Dh n (p.extract q.size p.size) u))from fun X e=>hk X T x Dn _ _ ⟨hv.keeps e _ _ _ (fun _ _ e=>e),fun z A=>bE (hD z A).2 e.size⟩ a3 a1 hd);have b1:Hid (Dp (Dh n (p.extract q.size p.size) u) 1000000):=(Sv _ _ _ (OV n 900000 _ u hd a3) vO);have b3:(q.size:Int)<=(p.size:Int):=vO
 clear hB hv hbn hD hq hp hd hk hf a1 a3 O b0;unfold vQ;go_in;go_wp2_with fail
 refine (HC.o _).mono ?_;rintro e w1 ⟨rfl,k,rfl⟩;have a7:=Hd (show Ad (fun z=>Dn z\/W.heap.size<=z) W ((W.drewN k).drew)from((Ad.refl _ W).drewN k).drew);go_wp2_with fail
 refine Nc [0,1,2,3,4,5,6,7,8,9,10,11,12,13,14,15,16] [14,15] Af (Ad (fun z=>Dn z\/W.heap.size<=z)) Aa Aq (fun x y z h k=>Ad.trans h k) (fun x y h=>h.mono kZ) vY vY vY ?_
 refine vD ?_
 refine Lr _ (b) rfl (fun w1 _=>by kernel_rfl) (vS ?_)
 refine vD ?_
 refine Fc b _ rfl (fun w1 h1=>Dt (fun w=>by kernel_rfl) (Dw Q0.o (a7.o.trans h1) (by exact a5.o))) (vS ?_)
 refine vD ?_
 refine Lr _ (b) rfl (fun w1 _=>by kernel_rfl) (vS ?_)
 refine vD ?_
 refine Fc ⟨b,1,none⟩ _ rfl (fun w1 h1=>Dt (fun w=>by kernel_rfl) (Dw Q1.o (a7.o.trans h1) (by exact a5.o))) (vS ?_);iterate 4 refine vD ?_
 refine Lr _ (.iface T x) rfl (fun w1 _=>by kernel_rfl) (vS ?_)
 refine vD ?_
 refine Hl _ rfl (fun X hb K hK=>?_);have kb:Af W X:=(((Aa W).drewN k).drew).trans hb;refine Oe (DI (f:=BJ n) (vs:=#[p.extract q.size p.size,u]) rfl (HM.o.put _) (TJ _) vY) ?_;refine (a0.o X kb).mono ?_;rintro e w2 ⟨v2,rfl,Z,H⟩
 refine⟨v2,rfl,hK _ _ (H.mono (fun z _ A=>.inl A)) ?_⟩
 have HS:=Hd (bA kb (bA Z H));clear hK K hb kb Z H;refine vS ?_;refine Hl _ rfl (fun wc hc K hK=>?_)
 obtain⟨kb,Z,H⟩:=HS.o
 have kc:Ad Dn X wc:=H.trans (hc.mono kZ);have a8:Bw (Dh n (p.extract q.size p.size) u) v2 (Dj Dn X wc) wc:=(Z.keeps hc _ _ _ (fun _ _ e=>e)).mono (fun z A=>A.imp id (fun e=>⟨e.1,bE e.2 hc.size⟩));have a4:=Bh.own a8 kc (fun z A=>bE (HD.o z A).2 kb.size);refine Oe (Ex (vX 291) vY) ((Wu wc _ q _ v2 a4 (TG _ _ _) vO b1.o).mono ?_);rintro e w5 ⟨v5,rfl,a2,J⟩
 refine⟨v5,rfl,hK _ _ (J.mono kZ) ?_⟩
 have HZ:=Hd (bA kc (bA a2 (bA J (AY a4.lt J))));clear hK K hc kb Z H kc a8 a4 a2 J;refine vS ?_
 refine vD ?_
 refine Mr (fun wd hd=>?_);have HQ:=Hd hd;clear hd;go_wp2_with fail
 go_ret
 obtain⟨kb,_,_⟩:=HS.o
 obtain⟨kc,a2,J,b2⟩:=HZ.o
 have hd:=HQ.o;refine Bh.mk1 ((a2.keeps hd _ _ _ (fun _ _ e=>e)).mono (fun z A=>?_)) (((kb.mono kZ:Ad D W X).trans (kc.mono (fun z _ A=>(HD.o z A).1))).trans ((J.trans hd).mono kZ));have a9:=bE (b2 z A) hd.size;rcases A with (A | A) | A
 ·exact .inl (HD.o z A).1
 ·exact .inr ⟨bF kb.size A.1,a9⟩
 ·exact .inr ⟨bF (bF kb.size kc.size) A.1,a9⟩
theorem jvh(n:PA)(h:Cy q p < q.size):∀ x t,(p.extract (Cy q p) p.size).data.toList=x :: t->(Ca (fun _=>.nil) (Ax (q.extract (Cy q p) q.size)) (Jh (q.extract (Cy q p+1) q.size) n) x.toNat).isNil=true:=by
 obtain⟨X,Z,ha,hb,e,A,H⟩:=EY q.data.toList p.data.toList
 have J:(q.extract (Cy q p) q.size).data.toList=X:=by rw[Oj,e];rfl
 have K:(p.extract (Cy q p) p.size).data.toList=Z:=by rw[Oj,A];rfl
 have h0:(q.extract (Cy q p) q.size).size≠0:=by rw[Jp];omega
 intro y t hy
 obtain⟨x,s,O⟩:=Sx h0
 unfold Ca;rw[(Rp O).1,if_neg (Zp (Ne.symm (H x s y t (by rw[<-J,O]) (by rw[<-K,hy]))))];rfl
theorem jvg(D:Nat->Prop)(q:vB)(n:PA)(T:TypeId)(x:vV)(Dn:Nat->Prop)(b:Nat)(hB:Ae W b (.cells #[q,.iface T x] 381))(hv:Bw n (.iface T x) Dn W)(hbn:¬ Dn b)(hD:∀ x,Dn x->D x/\x < W.heap.size)(p u:vB)(hq:Dz q=true)(hp:Dz p=true)(hqs:q.size<=900000)(hps:p.size<=900000)(hd:Dp n (900000 - q.size))(hnil:n.isNil=false)(hf:Cy q p≠q.size):vQ 295 #[b,p,u] W (Bh D W (Jh (p.extract 0 (Cy q p)) (Hs (.br ⟨#[]⟩ (Ca (fun _=>.nil) (Ax (q.extract (Cy q p) q.size)) (Jh (q.extract (Cy q p+1) q.size) n))) (p.extract (Cy q p) p.size) u))):=by
 have q0:=hB.cell (i:=0) (v:=.string q) vF;have q1:=hB.cell (i:=1) (v:=.iface T x) vF;have Q0:=Hd q0;have Q1:=Hd q1;have HV:=Hd hv;have HD:Hid (∀ z,Dn z->D z/\z < W.heap.size):=hD
 obtain⟨c1,c2⟩:=JI q p
 have a0:=fun w=>FR w q p vO vO;have J:=jvh q p n (show Cy q p < q.size by omega)
 obtain⟨m,hm⟩:=vE (Cy q p)
 rw[<-hm]at c1 c2 a0 hf J ⊢;have HC:=Hd a0;have d8:=hB.lt;have b5:=Hd (show ¬ W.heap.size<=b from by omega);have c3:m < q.size:=vO
 have c4:Ax (q.extract m q.size) < 16:=Yl (Px hq _ _) (by rw[Jp];omega);have b6:=jx9 c3;have b7:=Hd (bA c4 b6);have c5:=Hd (bA (Px hp m p.size) (show (p.extract m p.size).size<=900000 by rw[Jp];omega));have a8:=Hd (bA hnil (bA (show (q.extract (m+1) q.size).size<=900000 by rw[Jp];omega) hd));have c7:Dp (Jh (q.extract (m+1) q.size) n) (900000 - m - 1):=DV (Sv _ _ _ hd (by rw[Jp];omega)) (by rw[Jp];omega);have c8:Dp (Hs (.br ⟨#[]⟩ (Ca (fun _=>.nil) (Ax (q.extract m q.size)) (Jh (q.extract (m+1) q.size) n))) (p.extract m p.size) u) (900000 - m):=EF (EG (NJ ⟨#[]⟩ _) vO c7 _) (by rw[Jp];omega) _;have c9:(Hs (.br ⟨#[]⟩ (Ca (fun _=>.nil) (Ax (q.extract m q.size)) (Jh (q.extract (m+1) q.size) n))) (p.extract m p.size) u).isNil=false:=by rw[Vb];split <;> rfl
 have d0:=Hd (bA c8 c9);have d9:=Hd J;have a5:(p.extract 0 m).size<=900000:=by rw[dI];omega
 have e0:=Hd a5;have e1:(m:Int)<=(q.size:Int):=vO
 have e2:(m:Int)<=(p.size:Int):=vO
 have e3:(m:Int) < (q.size:Int):=vO
 have e4:(m:Int)+1<=(q.size:Int):=vO
 have e5:((q[m]'c3).toNat:Int) < 16:=by rw[<-b6];omega
 have e6:((m:Int) ==(q.size:Int))=false:=by simp;omega
 clear hB hv hbn hD hq hp hd hf a0 d8 J c4 b6 c7 c8 c9 hnil hm a5;unfold vQ;go_in;go_wp2_with fail
 refine (HC.o _).mono ?_;rintro e w1 ⟨rfl,k,rfl⟩;go_wp2_with fail
 obtain⟨H,a9⟩:=vE W.heap.size
 obtain⟨W2,b0⟩:=vE ((W.drewN k).alloc (.cells #[.string ⟨#[]⟩,.nilIface,.nilIface,.nilIface,.nilIface,.nilIface,.nilIface,.nilIface,.nilIface,.nilIface,.nilIface,.nilIface,.nilIface,.nilIface,.nilIface,.nilIface,.nilIface] 385))
 have d1:Af W W2:=by rw[b0];exact ((Aa W).drewN k).alloc _
 have d2:Gn ⟨#[]⟩ (fun _=>.nil) H (fun _=>.nilIface) (fun _ _=>False) (fun x=>x=H) W2:=by rw[b0,a9];exact sG (Ae.new (W.drewN k) _)
 have d3:W.heap.size<=H:=by rw[a9];exact bP _
 have X:=Hd d1;have b1:=Hd d2;have b2:=Hd d3;rw[<-b0, <-a9];clear a9 b0 d1 d2 d3;refine Nc [0,1,2,3,4,5,6,7,8,9,10,11,12,13,14,15,16,17,19,20,18,21,22] [18,22] Af (Ad (fun z=>W.heap.size<=z)) Aa Aq (fun x y z h k=>Ad.trans h k) (fun x y h=>h.mono kZ) vY vY vY ?_;iterate 2 refine vD ?_
 refine Lr _ (b) rfl (fun w1 _=>by kernel_rfl) (vS ?_)
 refine vD ?_
 refine Fc b _ rfl (fun w1 h1=>Dt (fun w=>by kernel_rfl) (Dw (Am Q0.o X.o) (((Ad.refl (fun z=>W.heap.size<=z) W2).drew).trans h1) (by exact b5.o))) (vS ?_);iterate 3 refine vD ?_
 refine Lr _ (b) rfl (fun w1 _=>by kernel_rfl) (vS ?_)
 refine vD ?_
 refine Fc b _ rfl (fun w1 h1=>Dt (fun w=>by kernel_rfl) (Dw (Am Q0.o X.o) (((Ad.refl (fun z=>W.heap.size<=z) W2).drew).trans h1) (by exact b5.o))) (vS ?_);iterate 4 refine vD ?_
 refine Lr _ (b) rfl (fun w1 _=>by kernel_rfl) (vS ?_)
 refine vD ?_
 refine Fc ⟨b,1,none⟩ _ rfl (fun w1 h1=>Dt (fun w=>by kernel_rfl) (Dw (Am Q1.o X.o) (((Ad.refl (fun z=>W.heap.size<=z) W2).drew).trans h1) (by exact b5.o))) (vS ?_);refine Lr _ (H) rfl (fun w1 _=>by kernel_rfl) (vS ?_)
 refine vD ?_
 refine Hl _ rfl (fun wb hb K hK=>?_);have kb:Af W2 wb:=(Ap _).trans hb;have kw:Af W wb:=X.o.trans kb;refine Oe (Ex (vX 291) vY) ((Wu wb Dn (q.extract (m+1) q.size) n (.iface T x) ⟨HV.o.keeps kw _ _ _ (fun _ _ e=>e),fun z A=>bE (HD.o z A).2 kw.size⟩ a8.o.1 (kL a8.o.2.1) (Sv _ _ _ a8.o.2.2 vO)).mono ?_);rintro e w3 ⟨v3,rfl,a1,O⟩
 refine⟨v3,rfl,hK _ _ (O.mono kZ) ?_⟩
 have HS:=Hd (bA kb (bA a1 O));clear hK K hb kb a1 O kw;refine vS ?_
 refine vD ?_
 refine Hl _ rfl (fun wc hc K hK=>?_)
 obtain⟨kb,a1,O⟩:=HS.o
 have b8:=a1.keeps hc _ _ _ (fun _ _ e=>e);have kc:Af W2 wc:=(kb.trans O).trans hc
 obtain⟨T3,x3,rfl⟩:=b8.form (FC a8.o.1)
 have a2:∀ z,Dj Dn wb w3 z->¬ z=H/\z < wc.heap.size:=fun z A=>by have h1:=b1.o.lt H rfl;have h2:=b2.o;have h3:=kb.size;have h4:=O.size;have h5:=hc.size;rcases A with A | A;{have:=(HD.o z A).2;omega};have:=A.1;have:=A.2;omega
 have hg:=(b1.o.keeps kc (fun _ _ e=>e)).give b7.o.1 b8 a2
 obtain⟨old,q7⟩:∃ v,wc.cell? ⟨H,1+Ax (q.extract m q.size),none⟩=some v:=⟨_,(b1.o.keeps kc (fun _ _ e=>e)).blk.cellL (bB (by rw[FZ];have:=b7.o.1;omega))⟩
 have f7:wc.frozen? ⟨H,1+Ax (q.extract m q.size),none⟩=false:=(b1.o.keeps kc (fun _ _ e=>e)).blk.frozen
 obtain⟨WW,a3⟩:=vE (wc.setCell ⟨H,1+Ax (q.extract m q.size),none⟩ (.iface T3 x3))
 rw[<-a3]at hg;have Z:Ad (fun z=>z=H) wc WW:=by rw[a3];exact Ad.oneSet wc ⟨H,1+Ax (q.extract m q.size),none⟩ (.iface T3 x3)
 have HG:=Hd (bA hg (bA Z (bA kc (bA a2 (show ∀ z,Dj Dn wb w3 z->D z\/W.heap.size<=z from fun z A=>A.elim (fun e=>.inl (HD.o z e).1) (fun e=>.inr (bF (bF X.o.size kb.size) e.1)))))));rw[b7.o.2]at q7 f7 a3;clear kb a1 O b8 kc a2 hg hc;go_simp;rw[<-a3];refine hK _ _ (Z.mono (fun z _ e=>by have e:z=H:=e;rw[e];exact b2.o)) ?_;clear hK K q7 f7 a3 Z;refine Mr (fun wd hd=>?_)
 obtain⟨hg,Z,kc,a2,d4⟩:=HG.o
 have d5:=hg.keeps hd (fun _ _ e=>e);have HX:=Hd (bA d5 (show Af W wd from((X.o.trans kc).trans' Z (fun z A e=>by have e:z=H:=e;have:=b2.o;omega)).trans hd));have HY:Hid (∀ z,(z=H\/Dj Dn wb w3 z)->D z\/W.heap.size<=z):=(fun z A=>A.elim (fun e=>.inr (by rw[e];exact b2.o)) (d4 z));clear hg Z kc a2 d4 d5 hd;go_wp2_with fail
 refine (US wd _ ⟨#[]⟩ _ H HX.o.1.pa (p.extract m p.size) u c5.o.1 c5.o.2 d9.o).mono ?_;rintro e w4 ⟨rfl,d6,b9⟩;have d7:=Xr.br d6 b9 HX.o.1.lt;have a7:Ad D W w4:=(HX.o.2.mono kZ).trans' b9 (fun z A e=>by rcases HY.o z e with h | h;{exact h};omega)
 have b3:=Hd (bA d7 a7);clear d6 b9 d7 a7;unfold Gm;go_wp2_with fail
 refine (Wu w4 _ (p.extract 0 m) _ (Gm H) b3.o.1 d0.o.2 (kL e0.o) (Sv _ _ _ d0.o.1 vO)).mono ?_;rintro e w5 ⟨v5,rfl,b4,a4⟩;have HZ:=Hd (bA b4 a4);clear b4 a4;go_wp2_with fail
 go_ret
 obtain⟨b4,a4⟩:=HZ.o
 refine Bh.mk1 (b4.mono (fun z A=>?_)) (b3.o.2.trans (a4.mono kZ));have c0:=AY b3.o.1.lt a4 z A;rcases A with (A | A) | A
 ·rcases HY.o z A with h | h;{exact .inl h};exact .inr ⟨h,c0⟩
 ·exact .inr ⟨bF HX.o.2.size A.1,c0⟩
 ·exact .inr ⟨bF b3.o.2.size A.1,c0⟩
end
def EU:PA->Prop
 | .nil=>True
 | .no=>True
 | .leaf q _=>Dz q=true
 | .ext q n=>Dz q=true/\EU n
 | .br _ ks=>∀ i,EU (ks i)
theorem WI:∀ (P:PA),Dd P->EU P
 | .nil,h=>h.elim
 | .no,h=>h.elim
 | .leaf q v,h=>h.1
 | .ext q n,h=>⟨h.2.1,WI n h.2.2.2⟩
 | .br v ks,h=>fun i=>by
  cases hn:(ks i).isNil with
  | true=>rw[Py hn];trivial
  | false=>exact WI (ks i) (h.2.1 i hn)
theorem VJ:∀ (P:PA),EU P->DA P
 | .nil,_=>fun W T x D p u h _ _ _=>by cases h.at'
 | .no,_=>fun W T x D p u h _ _ _=>by
  have e:Value.iface T x=Mi:=h.at';unfold Mi at e;injection e with e1 e2;subst e1 e2;exact rA W D p u
 | .leaf q v,hv=>fun W T x D p u h J K A=>by
  obtain⟨b,e,h1,O⟩:=h.at'
  unfold Zx at e;injection e with e1 e2;subst e1 e2
  by_cases hpq:p=q
  ·subst hpq
   show Calls _ _ _ W (Bh D W (Dh (.leaf p v) p u));unfold Dh;rw[if_pos rfl];exact jsQ W D p v u b O
  ·exact jqo W D q v p u b O hpq hv K A J
 | .ext q n,hv=>fun W T x D p u h J K A=>by
  obtain⟨b,T',x',Z,e,h1,O,h3,h4,h5⟩:=h.at'
  unfold Nb at e;injection e with e1 e2;subst e1 e2;have H:n.isNil=false:=by
   cases n with
   | nil=>cases h3
   | _=>rfl
  have X:∀ z,Z z->D z/\z < W.heap.size:=fun z hz=>⟨h5 z hz,h.lt z (h5 z hz)⟩
  by_cases hf:Cy q p=q.size
  ·have:=jxW W D q n T' x' Z b O h3 h4 X p u hv.1 K A.1 J (Sv _ _ _ A.2 vO) (VJ n hv.2) H hf
   show Calls _ _ _ W (Bh D W (Dh (.ext q n) p u));unfold Dh;rw[if_pos hf,hf];exact this
  ·have:=jvg W D q n T' x' Z b O h3 h4 X p u hv.1 K A.1 J A.2 H hf
   show Calls _ _ _ W (Bh D W (Dh (.ext q n) p u));unfold Dh;rw[if_neg hf];exact this
 | .br v ks,hv=>fun W T x D p u h J K A=>by
  obtain⟨b,vk,Dk,e,_⟩:=h.at'
  have e0:=e;unfold Gm at e;injection e with e1 e2;subst e1 e2;show Calls _ _ _ W (Bh D W (Dh (.br v ks) p u));unfold Dh
  by_cases h0:p.size=0
  ·rw[if_pos h0,Og h0]
   exact (lF W D v u ks b h).mono fun e w' h=>h.2
  ·rw[if_neg h0]
   cases hk:(ks (Ax p)).isNil with
   | true =>
    rw[Py hk];exact (lE W D v u ks b h p h0 K J hk).mono fun e w' h=>h.2
   | false =>
    have a0:=A (Ax p) hk;exact (juH W D v u ks b h p h0 K J hk (Sv _ _ _ a0.2 vO) (VJ (ks (Ax p)) (hv _))).mono fun e w' h=>h.2
section
attribute [local go_sem] Oper.semAt_some
def Wf(s p:vB):vV:=if Fb p s then .tuple #[s.extract p.size s.size,true]else .tuple #[s,false]
theorem zX(s p:vB)(hs:s.size<=1000000)(hp:p.size<=1000000):vQ 240 #[s,p] w fun e w'=>e=.returned (Wf s p)/\w'=w:=by
 unfold Wf;cases hb:Fb p s with
 | true =>have A:=jwd hb;have H:(p.size:Int)<=(s.size:Int):=vO;(have q:=Hd hb;clear hb;unfold vQ;go_in;go_wp2_with fail);(refine (TY w s p hs hp).mono ?_;rintro e w1 ⟨rfl,rfl⟩;rw[q.o];go_wp2_with fail);go_ret2;exact⟨rfl,rfl⟩
 | false =>(have q:=Hd hb;clear hb;unfold vQ;go_in;go_wp2_with fail);(refine (TY w s p hs hp).mono ?_;rintro e w1 ⟨rfl,rfl⟩;rw[q.o];go_wp2_with fail);go_ret2;exact⟨rfl,rfl⟩
theorem YX(s p:vB)(hs:s.size<=1000000)(hp:p.size<=1000000):vQ 229 #[s,p] w fun e w'=>e=.returned (Wf s p)/\w'=w:=by
 have H:=Hd (zX w s p hs hp);unfold Wf at *;cases hb:Fb p s with
 | true =>(rw[hb,if_pos rfl]at H;rw[if_pos rfl];clear hb;unfold vQ;go_in;go_wp2_with fail);(refine H.o.mono ?_;rintro e w1 ⟨rfl,rfl⟩;go_wp2_with fail);go_ret2;exact⟨rfl,rfl⟩
 | false =>(rw[hb,if_neg ff]at H;rw[if_neg ff];clear hb;unfold vQ;go_in;go_wp2_with fail);(refine H.o.mono ?_;rintro e w1 ⟨rfl,rfl⟩;go_wp2_with fail);go_ret2;exact⟨rfl,rfl⟩
def PF(P:PA):Prop:=∀ (W:vW) (T:TypeId) (x:vV) (D:Nat->Prop) (p:vB),Hm P (.iface T x) D W->p.size<=900000->Dz p=true->Dp P 900000 ->
 vQ (Yq P) #[x,p] W (Bh D W (Ho P p))
theorem jv2(D:Nat->Prop)(p:vB):vQ 300 #[.agg #[],p] W (Bh D W .no):=by
 unfold vQ;go_in;go_wp2_with fail
 go_ret;exact Bh.mk1 rfl (((Aa W).alloc _).mono kZ)
theorem jyd(D:Nat->Prop)(q v p:vB)(b:Nat)(hB:Ae W b (.cells #[q,v] 378))(hD:D b):vQ 286 #[b,p] W (Bh D W (Ho (.leaf q v) p)):=by
 have K:=hB.cell (i:=0) (v:=.string q) vF;have H:=Hd hB;have J:=Hd hD;have A:Ho (.leaf q v) p=if p=q then .no else .leaf q v:=rfl
 rw[A];clear hB hD A
 by_cases hpq:p=q
 ·rw[if_pos hpq];(have e:(p.toList == q.toList)=true:=by rw[UH];exact decide_eq_true hpq);(clear hpq;unfold vQ;go_in;go_wp2_with fail);go_ret;exact Bh.mk1 rfl (Ad.refl _ W)
 ·rw[if_neg hpq];(have e:(p.toList == q.toList)=false:=by rw[UH];exact decide_eq_false hpq);(clear hpq;unfold vQ;go_in;go_wp2_with fail);go_ret;exact Bh.mk1 ⟨b,rfl,.inl J.o,H.o⟩ (Ad.refl _ W)
theorem MM:∀ (P:PA) (p:vB),(Ho P p).isNil=false
 | .nil,_=>rfl
 | .no,_=>rfl
 | .leaf q v,p=>by
  unfold Ho;split <;> rfl
 | .ext q n,p=>by
  unfold Ho;split
  ·exact FC (MM n _)
  ·rfl
 | .br v ks,p=>by
  have A:∀ v ks,(Tm v ks).isNil=false:=by
   intro v ks;have H:∀ i∈Gs ks,(ks i).isNil=false:=fun i J=>by
    have:=(cG.1 J).2
    simpa using this
   unfold Tm;cases e:Gs ks with
   | nil =>
    show (if v.size=0 then PA.no else .leaf ⟨#[]⟩ v).isNil=false;split <;> rfl
   | cons i r =>
    cases r with
    | nil =>
     show (if v.size=0 then Jh ⟨#[UInt8.ofNat i]⟩ (ks i)else .br v ks).isNil=false;split
     ·exact FC (H i (by rw[e];exact bO))
     ·rfl
    | cons j r=>rfl
  unfold Ho;split
  ·exact A _ _
  ·split
   ·rfl
   ·exact A _ _
theorem jvd(D:Nat->Prop)(q:vB)(n:PA)(T:TypeId)(x:vV)(Dn:Nat->Prop)(b:Nat)(hB:Ae W b (.cells #[q,.iface T x] 381))(hDb:D b)(hv:Bw n (.iface T x) Dn W)(hbn:¬ Dn b)(hD:∀ x,Dn x->D x/\x < W.heap.size)(p:vB)(hp:Dz p=true)(hqs:q.size<=900000)(hps:p.size<=900000)(hf:Fb q p=false):vQ 292 #[b,p] W (Bh D W (.ext q n)):=by
 have J:=hB.cell (i:=0) (v:=.string q) vF;have K:=hB.cell (i:=1) (v:=.iface T x) vF;have Q0:=Hd J;have Q1:=Hd K;have O:=Hd hB;have X:=Hd hv;have Z:Hid (∀ z,Dn z->D z/\z < W.heap.size):=hD;have H:=Hd (bA hDb hbn);have A:=YX W p q vO vO;unfold Wf at A;rw[hf,if_neg ff]at A;have HC:=Hd A;clear hB hDb hv hbn hD hp hf A;unfold vQ;go_in;go_wp2_with fail
 refine HC.o.mono ?_;rintro e w1 ⟨rfl,rfl⟩;go_wp2_with fail
 go_ret;exact Bh.mk1 ⟨b,T,x,Dn,rfl,.inl H.o.1,O.o,X.o,H.o.2,fun z hz=>.inl (Z.o z hz).1⟩ (Ad.refl _ _)
theorem jvc(D:Nat->Prop)(q:vB)(n:PA)(T:TypeId)(x:vV)(Dn:Nat->Prop)(b:Nat)(hB:Ae W b (.cells #[q,.iface T x] 381))(hDb:D b)(hv:Bw n (.iface T x) Dn W)(hbn:¬ Dn b)(hD:∀ x,Dn x->D x/\x < W.heap.size)(p:vB)(hp:Dz p=true)(hqs:q.size<=900000)(hps:p.size<=900000)(Z:Dp n 900000)(hk:PF n)(hf:Fb q p=true):vQ 292 #[b,p] W (Bh D W (Jh q (Ho n (p.extract q.size p.size)))):=by
 have q0:=hB.cell (i:=0) (v:=.string q) vF;have q1:=hB.cell (i:=1) (v:=.iface T x) vF;have Q0:=Hd q0;have Q1:=Hd q1;have HB:=Hd hB;have HV:=Hd hv;have HD:Hid (∀ z,Dn z->D z/\z < W.heap.size):=hD;have a2:=YX W p q vO vO;unfold Wf at a2;rw[hf,if_pos rfl]at a2;have HC:=Hd a2;have b0:=hB.lt;have a5:=Hd (show ¬(Dn b\/W.heap.size<=b)from fun e=>e.elim hbn (fun e=>by omega));have a1:Dz (p.extract q.size p.size)=true:=Px hp _ _;have a7:(p.extract q.size p.size).size<=900000:=by rw[Jp];omega
 have HM:=Hd hv.meth;have a0:=Hd (show ∀ O,Af W O->vQ (Yq n) #[x,p.extract q.size p.size] O (Bh Dn O (Ho n (p.extract q.size p.size)))from fun O e=>hk O T x Dn _ ⟨hv.keeps e _ _ _ (fun _ _ e=>e),fun z A=>bE (hD z A).2 e.size⟩ a7 a1 Z);have b1:Hid (Dp (Ho n (p.extract q.size p.size)) 1000000):=(Sv _ _ _ (KN n 900000 _ Z) vO);clear hB hDb hv hbn hD hp Z hk hf a1 a7 a2 b0;unfold vQ;go_in;go_wp2_with fail
 refine HC.o.mono ?_;rintro e Wk ⟨rfl,rfl⟩;go_wp2_with fail
 refine Nc [0,1,2,3,4,5,6,7,8,9,10,11] [9,10] Af (Ad (fun z=>Dn z\/Wk.heap.size<=z)) Aa Aq (fun x y z h k=>Ad.trans h k) (fun x y h=>h.mono kZ) vY vY vY ?_
 refine vD ?_
 refine Lr _ (b) rfl (fun w1 _=>by kernel_rfl) (vS ?_)
 refine vD ?_
 refine Fc b _ rfl (fun w1 h1=>Dt (fun w=>by kernel_rfl) (Dw Q0.o (((Ad.refl (fun z=>Dn z\/Wk.heap.size<=z) Wk).drew).trans h1) (by exact a5.o))) (vS ?_)
 refine vD ?_
 refine Lr _ (b) rfl (fun w1 _=>by kernel_rfl) (vS ?_)
 refine vD ?_
 refine Fc ⟨b,1,none⟩ _ rfl (fun w1 h1=>Dt (fun w=>by kernel_rfl) (Dw Q1.o (((Ad.refl (fun z=>Dn z\/Wk.heap.size<=z) Wk).drew).trans h1) (by exact a5.o))) (vS ?_)
 refine vD ?_
 refine Hl _ rfl (fun O hb K hK=>?_);have kb:Af Wk O:=((Aa Wk).drew).trans hb;refine Oe (DI (f:=Yq n) (vs:=#[p.extract q.size p.size]) rfl (HM.o.drop _) (MN _) vY) ?_;refine (a0.o O kb).mono ?_;rintro e w2 ⟨v2,rfl,X,H⟩
 refine⟨v2,rfl,hK _ _ (H.mono (fun z _ A=>.inl A)) ?_⟩
 have HS:=Hd (bA kb (bA X H));clear hK K hb kb X H;refine vS ?_;refine Hl _ rfl (fun wc hc K hK=>?_)
 obtain⟨kb,X,H⟩:=HS.o
 have kc:Ad Dn O wc:=H.trans (hc.mono kZ);have a8:Bw (Ho n (p.extract q.size p.size)) v2 (Dj Dn O wc) wc:=(X.keeps hc _ _ _ (fun _ _ e=>e)).mono (fun z A=>A.imp id (fun e=>⟨e.1,bE e.2 hc.size⟩));have a4:=Bh.own a8 kc (fun z A=>bE (HD.o z A).2 kb.size);refine Oe (Ex (vX 291) vY) ((Wu wc _ q _ v2 a4 (MM _ _) vO b1.o).mono ?_);rintro e w5 ⟨v5,rfl,a3,J⟩
 refine⟨v5,rfl,hK _ _ (J.mono kZ) ?_⟩
 have HZ:=Hd (bA kc (bA a3 (bA J (AY a4.lt J))));clear hK K hc kb X H kc a8 a4 a3 J;refine vS ?_
 refine vD ?_
 refine Mr (fun wd Z=>?_);have HQ:=Hd Z;clear Z;go_wp2_with fail
 go_ret
 obtain⟨kb,_,_⟩:=HS.o
 obtain⟨kc,a3,J,b2⟩:=HZ.o
 have Z:=HQ.o;refine Bh.mk1 ((a3.keeps Z _ _ _ (fun _ _ e=>e)).mono (fun z A=>?_)) (((kb.mono kZ:Ad D Wk O).trans (kc.mono (fun z _ A=>(HD.o z A).1))).trans ((J.trans Z).mono kZ));have a9:=bE (b2 z A) Z.size;rcases A with (A | A) | A
 ·exact .inl (HD.o z A).1
 ·exact .inr ⟨bF kb.size A.1,a9⟩
 ·exact .inr ⟨bF (bF kb.size kc.size) A.1,a9⟩
theorem Oa:Tryz.prog.underlying 383=some (.array 16 231):=vY
theorem Tr:(Tryz.prog.info? 383).map (·.size)=some 16:=vY
theorem Qr:(Tryz.prog.info? 231).map (·.size)=some 1:=vY
theorem Qq:(isAgg 231).run Tryz.prog w=.ok false w:=vY
def IA(vk:Nat->vV):List vV:=(List.range 16).map vk
theorem jvL(h:i < 16):(IA vk)[i]?=some (vk i):=by
 unfold IA;rw[bY,fI h];rfl
theorem Xe{W:vW}{b:Nat}{u:vB}{vk:Nat->vV}(hB:Ae W b (.cells (Uh u vk).toArray 385)):(Instr.loadAt 383 (.pointer (some ⟨b,1,none⟩))).run Tryz.prog W=.ok (.agg (IA vk).toArray) W:=by
 have e:W.rangeAt b 1 (IA vk):=fun j v A=>hB.cellL (by rw[iZ];exact A);have q:=run_loadVar_mid (P:=Tryz.prog) W b 1 383 _ _ e Oa rfl (by unfold IA;simp only[bU,iB];exact Tr);simp[Instr.loadAt,Instr.sureAddr,bQ,Result.andThen,q]
theorem BB(h:i < 16)(w:vW):(Instr.index 383 (.agg (IA vk).toArray) (i:Int)).run Tryz.prog w=.ok (vk i) w:=
 LV Oa Qr Qq _ i h _ (jvL vk h) w
theorem AS(T:TypeId)(x:vV)(w:vW):(binOp .neq 231 (.iface T x) .nilIface).run Tryz.prog w=.ok true w:=vY
theorem OG:(binOp .neq 231 .nilIface .nilIface).run Tryz.prog w=.ok false w:=vY
def Yc(ks:Nat->PA)(k:Nat):List Nat:=(List.range k).filter fun i => !(ks i).isNil
theorem JP(k:Nat):Yc ks (k+1)=Yc ks k++(if (ks k).isNil then []else [k]):=by
 unfold Yc;rw[gG,List.filter_append]
 congr 1
 cases h:(ks k).isNil <;> simp[h]
theorem Bw.kid{W:vW}(h:Bw P v D W):(P.isNil=true/\v=.nilIface)\/(P.isNil=false/\∃ T x,v=.iface T x):=by
 cases hn:P.isNil with
 | true=>rw[Py hn]at h;exact .inl ⟨rfl,h⟩
 | false=>exact .inr ⟨rfl,h.form hn⟩
def LC(ks:Nat->PA)(W:vW)(cv ov iv:vV)(wr:vW):Prop:=∃ (k c o:Nat),k<=16/\iv=.int .i64 (k:Int)/\cv=.int .i64 (c:Int)/\ov=.int .i64 (o:Int)/\wr=W/\c=(Yc ks k).length/\o=(Yc ks k).getLast?.getD 0
theorem jqj(D:Nat->Prop)(v:vB)(ks:Nat->PA)(b:Nat)(h:Hm (.br v ks) (Gm b) D wr)(hi:Gs ks=[])(hv:v.size=0):vQ 299 #[b] wr (Bh D wr .no):=by
 obtain⟨vk,Dk,hb⟩:=h.br
 have K:=Xe hb.blk;have q0:=hb.blk.cellL (i:=0) (v:=.string v) vF;have H:=Hd hb
 obtain⟨W,hW⟩:=vE wr
 have Z:=Og hv;subst Z;have HI:=Hd hi;clear h hb hi hv;rw[<-hW]at K q0 H ⊢;clear hW;unfold vQ;go_in;go_wp2_with (refine Gv 383 (.tmp 9) rfl rfl _ _ rfl K ?_)
 go_loopw [3,4,11] (fun cv ov iv wr=>LC ks W cv ov iv wr) (fun _ _ iv _=>16 - (intOf iv).toNat)
 case atStart=>exact⟨0,0,0,by omega,rfl,rfl,rfl,rfl,rfl,rfl⟩
 case round =>obtain⟨k,c,o,hk,rfl,rfl,rfl,rfl,J,O⟩:=hrel;by_cases hlt:k < 16;{have X:=BB vk hlt;(have e:=JP ks k;have a1:c<=16:=by rw[J];exact bF (dY _ _) (by rw[iB];omega));have q:=Hd (bA J O);rcases (H.o.kid k hlt).1.kid with⟨hn,hv⟩ |⟨hn,T,x,hv⟩;{rw[hn,if_pos rfl,cB]at e;rw[hv]at X;have A:=Hd e;clear e J O hn hv;go_wp2;go_roundw;(case rel=>exact⟨k+1,c,o,by omega,by go_num,rfl,rfl,rfl,by rw[A.o];exact q.o.1,by rw[A.o];exact q.o.2⟩);case measure=>exact vJ};rw[hn,if_neg ff]at e;rw[hv]at X;have hq:=AS T x;have A:=Hd e;clear e J O hn hv;go_wp2;go_roundw;(case rel=>exact⟨k+1,c+1,k,by omega,by go_num,by go_num,rfl,rfl,by rw[A.o,bK, <-q.o.1];rfl,by rw[A.o];simp⟩);case measure=>exact vJ};obtain rfl:k=16:=vO;(have q:=Hd (bA J O);clear J O;have a0:c=0:=by rw[q.o.1];show (Gs ks).length=0;rw[HI.o];rfl);(subst a0;go_wp2_with fail);go_ret;exact Bh.mk1 rfl (Ad.refl _ _)
theorem jqi(D:Nat->Prop)(v:vB)(ks:Nat->PA)(b:Nat)(h:Hm (.br v ks) (Gm b) D wr)(hi:Gs ks=[])(hv:v.size≠0):vQ 299 #[b] wr (Bh D wr (.leaf ⟨#[]⟩ v)):=by
 obtain⟨vk,Dk,hb⟩:=h.br
 have O:=Xe hb.blk;have q0:=hb.blk.cellL (i:=0) (v:=.string v) vF;have H:=Hd hb;have a1:=Wl hv;clear hv
 obtain⟨W,hW⟩:=vE wr
 have HI:=Hd hi;rw[<-hW]at O q0 H ⊢;clear h hb hi hW;unfold vQ;go_in;go_wp2_with (refine Gv 383 (.tmp 9) rfl rfl _ _ rfl O ?_)
 go_loopw [3,4,11] (fun cv ov iv wr=>LC ks W cv ov iv wr) (fun _ _ iv _=>16 - (intOf iv).toNat)
 case atStart=>exact⟨0,0,0,by omega,rfl,rfl,rfl,rfl,rfl,rfl⟩
 case round =>obtain⟨k,c,o,hk,rfl,rfl,rfl,rfl,K,X⟩:=hrel;by_cases hlt:k < 16;{have Z:=BB vk hlt;(have q:=JP ks k;have a2:c<=16:=by rw[K];exact bF (dY _ _) (by rw[iB];omega));have A:=Hd (bA K X);rcases (H.o.kid k hlt).1.kid with⟨hn,hv⟩ |⟨hn,T,x,hv⟩;{rw[hn,if_pos rfl,cB]at q;rw[hv]at Z;have J:=Hd q;clear q K X hn hv;go_wp2;go_roundw;(case rel=>exact⟨k+1,c,o,by omega,by go_num,rfl,rfl,rfl,by rw[J.o];exact A.o.1,by rw[J.o];exact A.o.2⟩);case measure=>exact vJ};rw[hn,if_neg ff]at q;rw[hv]at Z;have hq:=AS T x;have J:=Hd q;clear q K X hn hv;go_wp2;go_roundw;(case rel=>exact⟨k+1,c+1,k,by omega,by go_num,by go_num,rfl,rfl,by rw[J.o,bK, <-A.o.1];rfl,by rw[J.o];simp⟩);case measure=>exact vJ};obtain rfl:k=16:=vO;(have A:=Hd (bA K X);clear K X;have a0:c=0:=by rw[A.o.1];show (Gs ks).length=0;rw[HI.o];rfl);(subst a0;go_wp2_with fail);go_ret;have hB:=Ae.new wr (.cells #[.string ⟨#[]⟩,v] 378);exact Bh.mk1 ⟨_,rfl,.inr ⟨bP _,hB.lt⟩,hB⟩ (((Aa wr).alloc _).mono kZ)
theorem N_(D:Nat->Prop)(v:vB)(ks:Nat->PA)(b:Nat)(h:Hm (.br v ks) (Gm b) D wr)(i:Nat)(hi:Gs ks=[i])(hv:v.size≠0):vQ 299 #[b] wr (Bh D wr (.br v ks)):=by
 obtain⟨vk,Dk,hb⟩:=h.br
 have K:=Xe hb.blk;have q0:=hb.blk.cellL (i:=0) (v:=.string v) vF;have H:=Hd hb;have a1:=Wl hv;clear hv
 obtain⟨W,hW⟩:=vE wr
 have HI:=Hd hi;rw[<-hW]at K q0 H ⊢;clear h hb hi hW;unfold vQ;go_in;go_wp2_with (refine Gv 383 (.tmp 9) rfl rfl _ _ rfl K ?_)
 go_loopw [3,4,11] (fun cv ov Z wr=>LC ks W cv ov Z wr) (fun _ _ Z _=>16 - (intOf Z).toNat)
 case atStart=>exact⟨0,0,0,by omega,rfl,rfl,rfl,rfl,rfl,rfl⟩
 case round =>obtain⟨k,c,o,hk,rfl,rfl,rfl,rfl,J,O⟩:=hrel;by_cases hlt:k < 16;{have X:=BB vk hlt;(have e:=JP ks k;have a2:c<=16:=by rw[J];exact bF (dY _ _) (by rw[iB];omega));have q:=Hd (bA J O);rcases (H.o.kid k hlt).1.kid with⟨hn,hv⟩ |⟨hn,T,x,hv⟩;{rw[hn,if_pos rfl,cB]at e;rw[hv]at X;have A:=Hd e;clear e J O hn hv;go_wp2;go_roundw;(case rel=>exact⟨k+1,c,o,by omega,by go_num,rfl,rfl,rfl,by rw[A.o];exact q.o.1,by rw[A.o];exact q.o.2⟩);case measure=>exact vJ};rw[hn,if_neg ff]at e;rw[hv]at X;have hq:=AS T x;have A:=Hd e;clear e J O hn hv;go_wp2;go_roundw;(case rel=>exact⟨k+1,c+1,k,by omega,by go_num,by go_num,rfl,rfl,by rw[A.o,bK, <-q.o.1];rfl,by rw[A.o];simp⟩);case measure=>exact vJ};obtain rfl:k=16:=vO;(have q:=Hd (bA J O);clear J O;have a0:c=1:=by rw[q.o.1];show (Gs ks).length=1;rw[HI.o];rfl);(subst a0;go_wp2_with fail);go_ret;exact Bh.mk1 (H.o.pa.at'.mono (fun x hx=>.inl hx)) (Ad.refl _ _)
theorem O_(D:Nat->Prop)(v:vB)(ks:Nat->PA)(b:Nat)(h:Hm (.br v ks) (Gm b) D wr)(hi:2<=(Gs ks).length):vQ 299 #[b] wr (Bh D wr (.br v ks)):=by
 obtain⟨vk,Dk,hb⟩:=h.br
 have K:=Xe hb.blk;have q0:=hb.blk.cellL (i:=0) (v:=.string v) vF;have H:=Hd hb
 obtain⟨W,hW⟩:=vE wr
 have HI:=Hd hi;rw[<-hW]at K q0 H ⊢;clear h hb hi hW;unfold vQ;go_in;go_wp2_with (refine Gv 383 (.tmp 9) rfl rfl _ _ rfl K ?_)
 go_loopw [3,4,11] (fun cv ov Z wr=>LC ks W cv ov Z wr) (fun _ _ Z _=>16 - (intOf Z).toNat)
 case atStart=>exact⟨0,0,0,by omega,rfl,rfl,rfl,rfl,rfl,rfl⟩
 case round =>obtain⟨k,c,o,hk,rfl,rfl,rfl,rfl,J,O⟩:=hrel;by_cases hlt:k < 16;{have X:=BB vk hlt;(have e:=JP ks k;have a1:c<=16:=by rw[J];exact bF (dY _ _) (by rw[iB];omega));have q:=Hd (bA J O);rcases (H.o.kid k hlt).1.kid with⟨hn,hv⟩ |⟨hn,T,x,hv⟩;{rw[hn,if_pos rfl,cB]at e;rw[hv]at X;have A:=Hd e;clear e J O hn hv;go_wp2;go_roundw;(case rel=>exact⟨k+1,c,o,by omega,by go_num,rfl,rfl,rfl,by rw[A.o];exact q.o.1,by rw[A.o];exact q.o.2⟩);case measure=>exact vJ};rw[hn,if_neg ff]at e;rw[hv]at X;have hq:=AS T x;have A:=Hd e;clear e J O hn hv;go_wp2;go_roundw;(case rel=>exact⟨k+1,c+1,k,by omega,by go_num,by go_num,rfl,rfl,by rw[A.o,bK, <-q.o.1];rfl,by rw[A.o];simp⟩);case measure=>exact vJ};obtain rfl:k=16:=vO;(have q:=Hd (bA J O);clear J O;have a0:2<=c:=by rw[q.o.1];exact HI.o);(have g0:((c:Int) == 0)=false:=by simp;omega);(have g1:((c:Int) == 1)=false:=by simp;omega);(clear a0;go_wp2_with fail);go_ret;exact Bh.mk1 (H.o.pa.at'.mono (fun x hx=>.inl hx)) (Ad.refl _ _)
theorem jsL(D:Nat->Prop)(v:vB)(ks:Nat->PA)(b:Nat)(h:Hm (.br v ks) (Gm b) D wr)(i:Nat)(hi:Gs ks=[i])(hv:v.size=0)(hd:Dp (.br v ks) 900000):vQ 299 #[b] wr (Bh D wr (Jh (Ee i) (ks i))):=by
 obtain⟨vk,Dk,hb⟩:=h.br
 have a4:=Xe hb.blk;have q0:=hb.blk.cellL (i:=0) (v:=.string v) vF;have H:=Hd hb;have b0:=Og hv;subst b0;have b1:=Hd hd;clear hv hd
 obtain⟨W,hW⟩:=vE wr
 have HI:=Hd hi;rw[<-hW]at a4 q0 H ⊢;clear h hb hi hW;unfold vQ;go_in;go_wp2_with (refine Gv 383 (.tmp 9) rfl rfl _ _ rfl a4 ?_)
 go_loopw [3,4,11] (fun cv ov iv wr=>LC ks W cv ov iv wr) (fun _ _ iv _=>16 - (intOf iv).toNat)
 case atStart=>exact⟨0,0,0,by omega,rfl,rfl,rfl,rfl,rfl,rfl⟩
 case round =>obtain⟨k,c,o,hk,rfl,rfl,rfl,rfl,hc,ho⟩:=hrel;by_cases hlt:k < 16;{have a9:=BB vk hlt;(have J:=JP ks k;have b6:c<=16:=by rw[hc];exact bF (dY _ _) (by rw[iB];omega));have O:=Hd (bA hc ho);rcases (H.o.kid k hlt).1.kid with⟨hn,hv⟩ |⟨hn,T,x,hv⟩;{rw[hn,if_pos rfl,cB]at J;rw[hv]at a9;have X:=Hd J;clear J hc ho hn hv;go_wp2;go_roundw;(case rel=>exact⟨k+1,c,o,by omega,by go_num,rfl,rfl,rfl,by rw[X.o];exact O.o.1,by rw[X.o];exact O.o.2⟩);case measure=>exact vJ};rw[hn,if_neg ff]at J;rw[hv]at a9;have hq:=AS T x;have X:=Hd J;clear J hc ho hn hv;go_wp2;go_roundw;(case rel=>exact⟨k+1,c+1,k,by omega,by go_num,by go_num,rfl,rfl,by rw[X.o,bK, <-O.o.1];rfl,by rw[X.o];simp⟩);case measure=>exact vJ};obtain rfl:k=16:=vO;(have O:=Hd (bA hc ho);clear hc ho;have b2:c=1:=by rw[O.o.1];show (Gs ks).length=1;rw[HI.o];rfl);(have a5:o=i:=by rw[O.o.2];show (Gs ks).getLast?.getD 0=i;rw[HI.o];rfl);(subst b2;have a1:i∈Gs ks:=by rw[HI.o];exact bO);(have q:i < 16:=dZ.1 (cG.1 a1).1;have Z:(ks i).isNil=false:=by have:=(cG.1 a1).2;simpa using this);rw[<-a5]at a1 q Z;have b3:=Hd a5;have A:=H.o.kid o q;obtain⟨T,x,a7⟩:=A.1.form Z;have qk:=H.o.blk.cellL (AV ⟨#[]⟩ vk q);rw[a7]at qk;have QK:=Hd qk;have a2:=Hd (show Bw (ks o) (.iface T x) (Dk o) wr/\(∀ z,Dk o z->z < wr.heap.size)/\(ks o).isNil=false/\Dp (ks o) 1000000 from⟨by rw[<-a7];exact A.1,fun z hz=>H.o.lt z (A.2.2 z hz),Z,Sv _ _ _ (b1.o o Z).2 vO⟩);have b4:=Hd A.2.2;have a8:o < 16:=q;have c1:(o:Int) < 16:=vO;(clear a1 q Z A a7 qk a5 a4;go_wp2_with fail);(refine Ij [0,1,4,5,6,7,8,9,2,3,10,11] (Af) Aa Aq vY vY vY ?_;iterate 4 refine vK ?_);(refine Lo _ (b) rfl (fun w1 _=>by kernel_rfl) (vS ?_);iterate 2 refine vK ?_);refine Dc ⟨b,1+o,none⟩ _ rfl (fun w1 h1=>Dt (fun w=>by kernel_rfl) (Am (Am QK.o (Ap _)) h1)) (vS ?_);refine CD _ rfl vY rfl (fun w2 he K hK=>?_);have b5:=Hd (show Af wr w2 from(Ap _).trans he);clear he;go_simp;refine hK _ _ ((Ad.refl _ w2).alloc _) ?_;clear hK K;refine Lo _ (Ee o) rfl (fun w3 h3=>zQ vY h3 kI a8) (vS ?_);refine CD _ rfl vY rfl (fun wc hc K hK=>?_);have kc:Af wr wc:=(b5.o.alloc _).trans hc;refine Oe (Ex (vX 291) vY) ((Wu wc (Dk o) (Ee o) (ks o) (.iface T x) ⟨a2.o.1.keeps kc _ _ _ (fun _ _ e=>e),fun z hz=>bE (a2.o.2.1 z hz) kc.size⟩ a2.o.2.2.1 (by show 1<=_;omega) a2.o.2.2.2).mono ?_);rintro e w5 ⟨v5,rfl,a3,a0⟩;refine⟨v5,rfl,hK _ _ a0 ?_⟩;have HZ:=Hd (bA kc (bA a3 a0));clear hK K hc kc a3 a0;refine vS ?_;refine vK ?_;(refine Hv (fun wd hd=>?_);have HQ:=Hd hd;clear hd;go_wp2_with fail);go_ret;obtain⟨kc,a3,a0⟩:=HZ.o;have hd:=HQ.o;rw[<-b3.o];refine Bh.mk1 ((a3.keeps hd _ _ _ (fun _ _ e=>e)).mono (fun z hz=>?_)) (((kc.trans a0).trans hd).mono kZ);rcases hz with hz | hz;{exact .inl (b4.o z hz)};exact .inr ⟨bF kc.size hz.1,bE hz.2 hd.size⟩
theorem WA(D:Nat->Prop)(v:vB)(ks:Nat->PA)(b:Nat)(h:Hm (.br v ks) (Gm b) D W)(hd:Dp (.br v ks) 900000):vQ 299 #[b] W (Bh D W (Tm v ks)):=by
 unfold Tm;cases hi:Gs ks with
 | nil =>show Calls _ _ _ W (Bh D W (if v.size=0 then PA.no else .leaf ⟨#[]⟩ v));by_cases h0:v.size=0;{rw[if_pos h0];exact jqj W D v ks b h hi h0};rw[if_neg h0];exact jqi W D v ks b h hi h0
 | cons i r =>cases r with| nil =>show Calls _ _ _ W (Bh D W (if v.size=0 then Jh ⟨#[UInt8.ofNat i]⟩ (ks i)else .br v ks));by_cases h0:v.size=0;{rw[if_pos h0];exact jsL W D v ks b h i hi h0 hd};rw[if_neg h0];exact N_ W D v ks b h i hi h0| cons j r=>exact O_ W D v ks b h (by rw[hi];simp)
theorem jrk(D:Nat->Prop)(v:vB)(ks:Nat->PA)(b:Nat)(h:Hm (.br v ks) (Gm b) D W)(hd:Dp (.br v ks) 900000):vQ 296 #[b,.string ⟨#[]⟩] W (Bh D W (Tm ⟨#[]⟩ ks)):=by
 obtain⟨vk,Dk,hb⟩:=h.br
 have q0:=hb.blk.cellL (i:=0) (v:=.string v) vF;have f0:W.frozen? b=false:=hb.blk.frozen;have H:=Hd hb;have HD:Hid (Dp (.br ⟨#[]⟩ ks) 900000):=hd;have a0:(⟨#[]⟩:vB).toList.isEmpty=true:=by rw[cC];rfl
 clear h hb hd;unfold vQ;go_in;go_wp2_with fail
 obtain⟨Z,J⟩:=vE (W.setCell b (.string ⟨#[]⟩))
 have O:Ad D W Z:=by rw[J];exact (Ad.oneSet W b (.string ⟨#[]⟩)).mono (fun x _ e=>by have e:x=b:=e;rw[e];exact H.o.mem)
 have K:=H.o.val ⟨#[]⟩;rw[<-J]at K ⊢;have X:=Hd (bA K O);clear K O J;refine (WA Z D ⟨#[]⟩ ks b X.o.1.pa HD.o).mono ?_;rintro e w2 ⟨v2,rfl,q,A⟩;have HZ:=Hd (bA q A);clear q A;go_wp2_with fail
 go_ret
 obtain⟨q,A⟩:=HZ.o
 exact Bh.mk1 (q.mono (fun x hx=>hx.imp id (fun e=>⟨bF X.o.2.size e.1,e.2⟩))) (X.o.2.trans A)
theorem juA(D:Nat->Prop)(v:vB)(ks:Nat->PA)(b:Nat)(h:Hm (.br v ks) (Gm b) D W)(p:vB)(h0:p.size≠0)(hp:Dz p=true)(hs:p.size<=900000)(hn:(ks (Ax p)).isNil=true):vQ 296 #[b,p] W (Bh D W (.br v ks)):=by
 obtain⟨Z,Dk,hb⟩:=h.br
 obtain⟨y,t,K⟩:=Sx h0
 obtain⟨e1,e2⟩:=Rp K
 have e:=Yl hp h0
 obtain⟨g0,A⟩:=AR K
 have a1:=Wl h0;have H:=AQ hp;have O:(Ft p).size<=900000:=by unfold Ft;rw[Jp];omega
 have X:Ax p=(p[0]'g0).toNat:=by rw[e1,A]
 have q:=hb.kid (Ax p) e;have J:Z (Ax p)=.nilIface:=by have:=q.1;rw[Py hn]at this;exact this
 have q1:=hb.blk.cellL (AV v Z e);rw[J]at q1;have HB:=Hd hb;have a2:=Hd X;have a0:=Hd e;have c1:(0:Int) < (p.size:Int):=vO
 have c2:((p[0]'g0).toNat:Int) < 16:=vO
 have c3:(1:Int)<=(p.size:Int):=vO
 rw[X]at q1;have hq:=vG;clear h J K e1 e2 h0 hp hn A H O e X hb q;unfold vQ;go_in;go_wp2_with fail
 go_ret;exact Bh.mk1 (HB.o.pa.at'.mono (fun x hx=>.inl hx)) (Ad.refl _ _)
theorem jts{T:TypeId}{x:vV}{W:vW}(h:Bw P (.iface T x) D W)(hn:P.isNo=false)(w:vW):(Instr.typeAssert (.iface T x) 231 387 true).run Tryz.prog w=.ok (.tuple #[.agg #[],false]) w:=by
 cases P with
 | nil=>cases h
 | no=>cases hn
 | leaf q u=>obtain⟨b,h,_⟩:=h;unfold Zx at h;injection h with h1 h2;subst h1 h2;kernel_rfl
 | ext q n=>obtain⟨b,_,_,_,h,_⟩:=h;unfold Nb at h;injection h with h1 h2;subst h1 h2;kernel_rfl
 | br u ks=>obtain⟨b,_,_,h,_⟩:=h;unfold Gm at h;injection h with h1 h2;subst h1 h2;kernel_rfl
theorem jrj(D:Nat->Prop)(v:vB)(ks:Nat->PA)(b:Nat)(h:Hm (.br v ks) (Gm b) D W)(p:vB)(h0:p.size≠0)(hp:Dz p=true)(hs:p.size<=900000)(hn:(ks (Ax p)).isNil=false)(hd:Dp (.br v ks) 900000)(hk:PF (ks (Ax p)))(hno:(Ho (ks (Ax p)) (Ft p)).isNo=false):vQ 296 #[b,p] W (Bh D W (Tm v (Ca ks (Ax p) (Ho (ks (Ax p)) (Ft p))))):=by
 obtain⟨vk,Dk,hb⟩:=h.br
 obtain⟨y,t,hy⟩:=Sx h0
 obtain⟨e1,e2⟩:=Rp hy
 have A:=Yl hp h0
 obtain⟨g0,b6⟩:=AR hy
 have d1:=Wl h0;have a8:=AQ hp;have b7:(Ft p).size<=900000:=by unfold Ft;rw[Jp];omega
 have hI:Ax p=(p[0]'g0).toNat:=by rw[e1,b6]
 have H:=hb.kid (Ax p) A
 obtain⟨T,x,b0⟩:=H.1.form hn
 have q1:=hb.blk.cellL (AV v vk A);rw[b0]at q1;have Q1:=Hd q1;have HB:=Hd hb;have HM:=Hd ((show Bw (ks (Ax p)) (.iface T x) (Dk (Ax p)) W by rw[<-b0];exact H.1).meth);have b1:=hd (Ax p) hn;have a1:=Hd (show ∀ X,Af W X->vQ (Yq (ks (Ax p))) #[x,Ft p] X (Bh (Dk (Ax p)) X (Ho (ks (Ax p)) (Ft p)))from fun X e=>hk X T x _ _ ⟨(show Bw (ks (Ax p)) (.iface T x) (Dk (Ax p)) W by rw[<-b0];exact H.1).keeps e _ _ _ (fun _ _ e=>e),fun z J=>bE (hb.lt z (H.2.2 z J)) e.size⟩ b7 a8 (Sv _ _ _ b1.2 vO));have b9:Hid (Dp (.br v (Ca ks (Ax p) (Ho (ks (Ax p)) (Ft p)))) 900000):=EG hd b1.1 (KN _ _ _ b1.2) v;have c0:=Hd (show ¬(Dk (Ax p) b\/W.heap.size<=b)from fun e=>e.elim (hb.kid _ A).2.1 (fun e=>kL (hb.lt b hb.mem)));have hQ:=VS T x;have b8:=Hd hI;have q:=Hd A;have c1:(0:Int) < (p.size:Int):=vO
 have c2:((p[0]'g0).toNat:Int) < 16:=vO
 have c3:(1:Int)<=(p.size:Int):=vO
 rw[hI]at q1;have c4:=Hd hno;clear h b0 hy e1 e2 h0 hp hn b6 a8 b7 A hI hb H hd b1 hk hno;unfold vQ;go_in;go_wp2_with fail
 refine BU [0,1,2,3,4,5,6,7,8,9,10,11,13,14,12,15] 16 [12] Af (Ad (fun z=>Dk (Ax p) z\/W.heap.size<=z)) Aa Aq (fun x y z h k=>Ad.trans h k) (fun x y h=>h.mono kZ) vY vY vY ?_;iterate 4 refine vZ ?_
 refine Te _ (b) rfl (fun w1=>by kernel_rfl) (vS ?_);iterate 2 refine vZ ?_
 refine Ww ⟨b,1+(p[0]'g0).toNat,none⟩ _ rfl (fun w1 h1=>Dt (fun w=>by kernel_rfl) (by rw[<-b8.o];exact Dw Q1.o (((Ad.refl (fun z=>Dk (Ax p) z\/W.heap.size<=z) W).drew).trans h1) (by exact c0.o))) ?_;refine vS ?_;iterate 2 refine vZ ?_
 refine Te _ (.iface T x) rfl (fun w1=>by kernel_rfl) (vS ?_)
 refine vZ ?_
 refine Te _ (b) rfl (fun w1=>by kernel_rfl) (vS ?_)
 refine vZ ?_
 refine Zf _ rfl vY rfl (fun X hb K hK=>?_);have kb:Af W X:=(Ap _).trans hb;refine Oe (DI (f:=Yq (ks (Ax p))) (vs:=#[Ft p]) rfl (HM.o.drop _) (MN _) vY) ?_;refine (a1.o X kb).mono ?_;rintro e w2 ⟨v2,rfl,a4,Z⟩
 refine⟨v2,rfl,hK _ _ (Z.mono (fun z _ J=>.inl J)) ?_⟩
 have HS:=Hd (bA kb (bA a4 Z));clear hK K hb kb a4 Z;refine vS ?_
 refine vZ ?_
 refine CE _ rfl vY rfl (fun wc hc K hK=>?_)
 obtain⟨hb,a4,Z⟩:=HS.o
 have O:=HB.o.keeps (F:=fun _=>False) (hb) (fun _ _ e=>e);have kc:Ad (Dk (Ax p)) X wc:=Z.trans (hc.mono kZ);have b2:Bw (Ho (ks (Ax p)) (Ft p)) v2 (Dj (Dk (Ax p)) X wc) wc:=(a4.keeps hc _ _ _ (fun _ _ e=>e)).mono (fun z J=>J.imp id (fun e=>⟨e.1,bE e.2 hc.size⟩))
 obtain⟨T2,x2,rfl⟩:=b2.form (MM _ _)
 have ht:=O.turn q.o kc b2;have a2:=O.turn_keeps q.o kc (.iface T2 x2)
 obtain⟨old,q7⟩:∃ v,wc.cell? ⟨b,1+Ax p,none⟩=some v:=⟨_,(O.blk.keeps kc (O.kid _ q.o).2.1).cellL (bB (by rw[FZ];have:=q.o;omega))⟩
 have f7:wc.frozen? ⟨b,1+Ax p,none⟩=false:=(O.blk.keeps kc (O.kid _ q.o).2.1).frozen
 obtain⟨W3,a5⟩:=vE (wc.setCell ⟨b,1+Ax p,none⟩ (.iface T2 x2))
 rw[<-a5]at ht a2
 obtain⟨c5,a0⟩:=vE (setV vk (Ax p) (.iface T2 x2))
 obtain⟨d2,a9⟩:=vE (fun j=>if j=Ax p then Dj (Dk (Ax p)) X wc else Dk j)
 rw[<-a0, <-a9]at ht;have c7:W3.cell? ⟨b,1+Ax p,none⟩=some (.iface T2 x2):=by have:=ht.blk.cellL (AV v c5 q.o);rw[this,a0];show some (setV vk (Ax p) (.iface T2 x2) (Ax p))=_;unfold setV;rw[if_pos rfl]
 have HT:=Hd (bA ht (bA a2 (bA hb (show W3.heap.size=wc.heap.size by rw[a5];exact fO _ _ _))));have c8:=Hd b2;rw[b8.o]at q7 f7 a5 c7;clear hb a4 Z O kc b2 ht a2 hc;go_simp;rw[<-a5];refine hK _ _ ?_;clear hK K q7 f7 a5 a0 a9;have d3:∀ w,(Instr.typeAssert (.iface T2 x2) 231 387 true).run Tryz.prog w=.ok (.tuple #[.agg #[],false]) w:=jts c8.o c4.o;go_wp2_with fail
 obtain⟨W4,b4⟩:=vE (W3.alloc (.cells #[] 387))
 have a3:Af W3 W4:=by rw[b4];exact (Aa W3).alloc _
 rw[<-b4];have b5:=Hd (bA (HT.o.1.keeps a3 (fun _ _ e=>e)) a3);clear a3 b4;refine (WA W4 _ v _ b b5.o.1.pa b9.o).mono ?_;rintro e w6 ⟨v6,rfl,b3,a7⟩;have HZ:=Hd (bA b3 (bA a7 (AY b5.o.1.lt a7)));clear b3 a7;go_wp2_with fail
 go_ret
 obtain⟨b3,a7,c9⟩:=HZ.o
 obtain⟨ht,a2,hb,d4⟩:=HT.o
 obtain⟨_,a3⟩:=b5.o
 have d5:W.heap.size<=W3.heap.size:=by have:=hb.size;have:=a2.size;omega
 have d0:=a3.size;have g1:∀ z,Dj D X wc z->D z\/W.heap.size<=z:=fun z J=>J.imp id (fun e=>bF hb.size e.1);refine Bh.mk1 (b3.mono (fun z J=>?_)) ?_
 ·have hl:=c9 z J;rcases J with J | J;{exact (g1 z J).imp id (fun e=>⟨e,hl⟩)};exact .inr ⟨kL J.1,hl⟩
 ·have k1:Ad D W W3:=(hb.mono kZ:Ad D W X).trans a2;have k2:Ad D W W4:=k1.trans (a3.mono kZ);exact k2.trans' a7 (fun z J e=>(g1 z e).elim id (fun e=>by omega))
theorem jpM(D:Nat->Prop)(v:vB)(ks:Nat->PA)(b:Nat)(h:Hm (.br v ks) (Gm b) D W)(p:vB)(h0:p.size≠0)(hp:Dz p=true)(hs:p.size<=900000)(hn:(ks (Ax p)).isNil=false)(hd:Dp (.br v ks) 900000)(hk:PF (ks (Ax p)))(hno:(Ho (ks (Ax p)) (Ft p)).isNo=true):vQ 296 #[b,p] W (Bh D W (Tm v (Ca ks (Ax p) .nil))):=by
 obtain⟨vk,Dk,hb⟩:=h.br
 obtain⟨y,t,hy⟩:=Sx h0
 obtain⟨e1,e2⟩:=Rp hy
 have H:=Yl hp h0
 obtain⟨g0,c7⟩:=AR hy
 have d8:=Wl h0;have a9:=AQ hp;have c8:(Ft p).size<=900000:=by unfold Ft;rw[Jp];omega
 have hI:Ax p=(p[0]'g0).toNat:=by rw[e1,c7]
 have J:=hb.kid (Ax p) H
 obtain⟨T,x,b2⟩:=J.1.form hn
 have q1:=hb.blk.cellL (AV v vk H);rw[b2]at q1;have Q1:=Hd q1;have HB:=Hd hb;have HM:=Hd ((show Bw (ks (Ax p)) (.iface T x) (Dk (Ax p)) W by rw[<-b2];exact J.1).meth);have b7:=hd (Ax p) hn;have a1:=Hd (show ∀ X,Af W X->vQ (Yq (ks (Ax p))) #[x,Ft p] X (Bh (Dk (Ax p)) X (Ho (ks (Ax p)) (Ft p)))from fun X e=>hk X T x _ _ ⟨(show Bw (ks (Ax p)) (.iface T x) (Dk (Ax p)) W by rw[<-b2];exact J.1).keeps e _ _ _ (fun _ _ e=>e),fun z A=>bE (hb.lt z (J.2.2 z A)) e.size⟩ c8 a9 (Sv _ _ _ b7.2 vO));have d1:Hid (Dp (.br v (Ca ks (Ax p) .nil)) 900000):=EG hd b7.1 ((show Dp PA.nil (900000 - 1)from trivial)) v;have d2:=Hd (show ¬(Dk (Ax p) b\/W.heap.size<=b)from fun e=>e.elim (hb.kid _ H).2.1 (fun e=>kL (hb.lt b hb.mem)));have hQ:=VS T x;have b8:=Hd hI;have q:=Hd H;have c1:(0:Int) < (p.size:Int):=vO
 have c2:((p[0]'g0).toNat:Int) < 16:=vO
 have c3:(1:Int)<=(p.size:Int):=vO
 rw[hI]at q1;have d3:=Hd hno;clear h b2 hy e1 e2 h0 hp hn c7 a9 c8 H hI hb J hd b7 hk hno;unfold vQ;go_in;go_wp2_with fail
 refine BU [0,1,2,3,4,5,6,7,8,9,10,11,13,14,12,15] 16 [12] Af (Ad (fun z=>Dk (Ax p) z\/W.heap.size<=z)) Aa Aq (fun x y z h k=>Ad.trans h k) (fun x y h=>h.mono kZ) vY vY vY ?_;iterate 4 refine vZ ?_
 refine Te _ (b) rfl (fun w1=>by kernel_rfl) (vS ?_);iterate 2 refine vZ ?_
 refine Ww ⟨b,1+(p[0]'g0).toNat,none⟩ _ rfl (fun w1 h1=>Dt (fun w=>by kernel_rfl) (by rw[<-b8.o];exact Dw Q1.o (((Ad.refl (fun z=>Dk (Ax p) z\/W.heap.size<=z) W).drew).trans h1) (by exact d2.o))) ?_;refine vS ?_;iterate 2 refine vZ ?_
 refine Te _ (.iface T x) rfl (fun w1=>by kernel_rfl) (vS ?_)
 refine vZ ?_
 refine Te _ (b) rfl (fun w1=>by kernel_rfl) (vS ?_)
 refine vZ ?_
 refine Zf _ rfl vY rfl (fun X hb K hK=>?_);have kb:Af W X:=(Ap _).trans hb;refine Oe (DI (f:=Yq (ks (Ax p))) (vs:=#[Ft p]) rfl (HM.o.drop _) (MN _) vY) ?_;refine (a1.o X kb).mono ?_;rintro e w2 ⟨v2,rfl,a5,Z⟩
 refine⟨v2,rfl,hK _ _ (Z.mono (fun z _ A=>.inl A)) ?_⟩
 have HS:=Hd (bA kb (bA a5 Z));clear hK K hb kb a5 Z;refine vS ?_
 refine vZ ?_
 refine CE _ rfl vY rfl (fun wc hc K hK=>?_)
 obtain⟨hb,a5,Z⟩:=HS.o
 have O:=HB.o.keeps (F:=fun _=>False) (hb) (fun _ _ e=>e);have kc:Ad (Dk (Ax p)) X wc:=Z.trans (hc.mono kZ);have b3:Bw (Ho (ks (Ax p)) (Ft p)) v2 (Dj (Dk (Ax p)) X wc) wc:=(a5.keeps hc _ _ _ (fun _ _ e=>e)).mono (fun z A=>A.imp id (fun e=>⟨e.1,bE e.2 hc.size⟩))
 obtain⟨T2,x2,rfl⟩:=b3.form (MM _ _)
 have ht:=O.turn q.o kc b3;have a2:=O.turn_keeps q.o kc (.iface T2 x2)
 obtain⟨old,q7⟩:∃ v,wc.cell? ⟨b,1+Ax p,none⟩=some v:=⟨_,(O.blk.keeps kc (O.kid _ q.o).2.1).cellL (bB (by rw[FZ];have:=q.o;omega))⟩
 have f7:wc.frozen? ⟨b,1+Ax p,none⟩=false:=(O.blk.keeps kc (O.kid _ q.o).2.1).frozen
 obtain⟨W3,a7⟩:=vE (wc.setCell ⟨b,1+Ax p,none⟩ (.iface T2 x2))
 rw[<-a7]at ht a2
 obtain⟨d4,a0⟩:=vE (setV vk (Ax p) (.iface T2 x2))
 obtain⟨d9,b0⟩:=vE (fun j=>if j=Ax p then Dj (Dk (Ax p)) X wc else Dk j)
 rw[<-a0, <-b0]at ht;have b9:W3.cell? ⟨b,1+Ax p,none⟩=some (.iface T2 x2):=by have:=ht.blk.cellL (AV v d4 q.o);rw[this,a0];show some (setV vk (Ax p) (.iface T2 x2) (Ax p))=_;unfold setV;rw[if_pos rfl]
 have HT:=Hd (bA ht (bA a2 (bA hb (show W3.heap.size=wc.heap.size by rw[a7];exact fO _ _ _))));have d5:=Hd b3;rw[b8.o]at q7 f7 a7 b9;clear hb a5 Z O kc b3 ht a2 hc;go_simp;rw[<-a7];refine hK _ _ ?_;clear hK K q7 f7 a7 a0 b0;have c9:Value.iface T2 x2=Mi:=by have:=d5.o;rw[pV d3.o]at this;exact this
 unfold Mi at c9;injection c9 with hn1 hn2;subst hn1 hn2;have e0:∀ w,(Instr.typeAssert (.iface 387 (.agg #[])) 231 387 true).run Tryz.prog w=.ok (.tuple #[.agg #[],true]) w:=fun w=>by kernel_rfl
 have q4:(W3.alloc (.cells #[] 387)).cell? ⟨b,1+(p[0]'g0).toNat,none⟩=some (.iface 387 (.agg #[])):=Am b9 ((Aa W3).alloc _);have f4:(W3.alloc (.cells #[] 387)).frozen? ⟨b,1+(p[0]'g0).toNat,none⟩=false:=(HT.o.1.blk.alloc _).frozen;clear q4;have q4:=Am b9 ((Aa W3).alloc (.cells #[] 387));go_wp2_with fail
 obtain⟨W4,c0⟩:=vE (W3.alloc (.cells #[] 387))
 have a3:Af W3 W4:=by rw[c0];exact (Aa W3).alloc _
 rw[<-c0]at q4 f4 ⊢;have c4:=HT.o.1.keeps a3 (fun _ _ e=>e);have b4:=c4.turn q.o (P:=.nil) (v:=.nilIface) (Ad.refl _ W4) rfl;have a4:=c4.turn_keeps q.o (Ad.refl _ W4) .nilIface
 obtain⟨W5,b5⟩:=vE (W4.setCell ⟨b,1+Ax p,none⟩ .nilIface)
 rw[<-b5]at b4 a4;rw[b8.o]at b5;rw[<-b5];have d0:Ca (Ca ks (Ax p) (Ho (ks (Ax p)) (Ft p))) (Ax p) .nil=Ca ks (Ax p) .nil:=by funext j;unfold Ca;by_cases e:j=Ax p;{rw[if_pos e,if_pos e]};rw[if_neg e,if_neg e,if_neg e]
 rw[d0]at b4;have b1:W4.heap.size<=W5.heap.size:=a4.size;have c5:=Hd (bA b4 (bA a4 (bA a3 b1)));clear c4 b4 a4 a3 c0 b5 q4 f4 d0 b1;refine (WA W5 _ v _ b c5.o.1.pa d1.o).mono ?_;rintro e w6 ⟨v6,rfl,b6,a8⟩;have HZ:=Hd (bA b6 (bA a8 (AY c5.o.1.lt a8)));clear b6 a8;go_wp2_with fail
 go_ret
 obtain⟨b6,a8,d6⟩:=HZ.o
 obtain⟨ht,a2,hb,e3⟩:=HT.o
 obtain⟨_,a4,a3,e4⟩:=c5.o
 have e5:W.heap.size<=W3.heap.size:=by have:=hb.size;have:=a2.size;omega
 have d7:=a3.size;have g1:∀ z,Dj D X wc z->D z\/W.heap.size<=z:=fun z A=>A.imp id (fun e=>bF hb.size e.1);have g2:∀ z,Dj (Dj D X wc) W4 W4 z->D z\/W.heap.size<=z:=fun z A=>A.elim (g1 z) (fun e=>by omega);refine Bh.mk1 (b6.mono (fun z A=>?_)) ?_
 ·have hl:=d6 z A;rcases A with A | A;{exact (g2 z A).imp id (fun e=>⟨e,hl⟩)};exact .inr ⟨kL A.1,hl⟩
 ·have k1:Ad D W W3:=(hb.mono kZ:Ad D W X).trans a2;have k2:Ad D W W4:=k1.trans (a3.mono kZ);have k3:Ad D W W5:=k2.trans' a4 (fun z A e=>(g1 z e).elim id (fun e=>by omega));exact k3.trans' a8 (fun z A e=>(g2 z e).elim id (fun e=>by omega))
theorem NX:∀ (P:PA),EU P->PF P
 | .nil,_=>fun W T x D p h _ _ _=>by cases h.at'
 | .no,_=>fun W T x D p h _ _ _=>by
  have e:Value.iface T x=Mi:=h.at';unfold Mi at e;injection e with e1 e2;subst e1 e2;exact jv2 W D p
 | .leaf q v,hv=>fun W T x D p h H J A=>by
  obtain⟨b,e,O,X⟩:=h.at'
  unfold Zx at e;injection e with e1 e2;subst e1 e2;exact jyd W D q v p b X O
 | .ext q n,hv=>fun W T x D p h H J A=>by
  obtain⟨b,T',x',Z,e,O,X,h3,h4,h5⟩:=h.at'
  unfold Nb at e;injection e with e1 e2;subst e1 e2;have K:∀ z,Z z->D z/\z < W.heap.size:=fun z hz=>⟨h5 z hz,h.lt z (h5 z hz)⟩;show Calls _ _ _ W (Bh D W (Ho (.ext q n) p));unfold Ho;cases hf:Fb q p with
  | true =>
   rw[if_pos rfl];exact jvc W D q n T' x' Z b X O h3 h4 K p J A.1 H (Sv _ _ _ A.2 vO) (NX n hv.2) hf
  | false =>
   rw[if_neg ff];exact jvd W D q n T' x' Z b X O h3 h4 K p J A.1 H hf
 | .br v ks,hv=>fun W T x D p h H J A=>by
  obtain⟨b,vk,Dk,e,_⟩:=h.at'
  unfold Gm at e;injection e with e1 e2;subst e1 e2;show Calls _ _ _ W (Bh D W (Ho (.br v ks) p));unfold Ho
  by_cases h0:p.size=0
  ·rw[if_pos h0,Og h0]
   exact jrk W D v ks b h A
  ·rw[if_neg h0]
   cases hk:(ks (Ax p)).isNil with
   | true=>rw[if_pos rfl];exact juA W D v ks b h p h0 J H hk
   | false =>
    rw[if_neg ff];unfold Uv;cases hno:(Ho (ks (Ax p)) (Ft p)).isNo with
    | true=>rw[if_pos rfl];exact jpM W D v ks b h p h0 J H hk A (NX (ks (Ax p)) (hv _)) hno
    | false=>rw[if_neg ff];exact jrj W D v ks b h p h0 J H hk A (NX (ks (Ax p)) (hv _)) hno
def Bp:PA->Nat
 | .nil=>0
 | .no=>1
 | .leaf _ _=>1
 | .ext _ n=>1+Bp n
 | .br _ ks=>1+Cb (fun i=>Bp (ks i)) 16
theorem mM(v:vB):(Iv p v).length<=1:=by unfold Iv;split <;> simp
theorem JV{α:Type}(g:Nat->List α)(f:Nat->Nat)(h:∀ i,(g i).length<=f i):∀ n,((List.range n).flatMap g).length<=Cb f n
 | 0=>by simp
 | n+1=>by
  rw[gG,dW,bK]
  have:=JV g f h n
  have:=h n
  simp only[dN,List.flatMap_nil,cB,Cb];omega
theorem VR:∀ (P:PA) (p:vB),(Ii P p).length<=Bp P
 | .nil,_=>bP _
 | .no,_=>cE _
 | .leaf q v,p=>mM _ _
 | .ext q n,p=>bF (VR n (p++q)) (Nat.le_add_left _ _)
 | .br v ks,p=>by
  show ((if v.size=0 then []else Iv p v)++(List.range 16).flatMap fun i=>if (ks i).isNil then []else Ii (ks i) (p++Ee i)).length<=1+Cb (fun i=>Bp (ks i)) 16;rw[bK];have e:(if v.size=0 then []else Iv p v:vL).length<=1:=by
   split
   ·simp
   ·exact mM _ _
  have A:=JV (fun i=>if (ks i).isNil then []else Ii (ks i) (p++Ee i)) (fun i=>Bp (ks i)) (fun i=>by
   show (if (ks i).isNil=true then ([]:vL)else Ii (ks i) (p++Ee i)).length<=Bp (ks i);split
   ·simp
   ·exact VR (ks i) _) 16
  omega
theorem Ey.len'{w0 w:vW}(h:Ey w0 w v n xs):n=xs.length:=by have:=h.len;rw[MH]at this;omega
def Vn(w0:vW)(xs:vL)(e:Ending)(w':vW):Prop:=∃ v n,e=.returned v/\Ey w0 w' v n xs
def Vo(P:PA):Prop:=∀ (w0 W:vW) (T:TypeId) (x:vV) (D:Nat->Prop) (p:vB) (v:vV) (n k:Nat) (E:vL),Hm P (.iface T x) D w0->Ey w0 W v n E->Dp P k->p.size+k<=900000->n+Bp P<=100000 ->
 vQ (Vh P) #[x,p,v] W (Vn w0 (E++Ii P p))
theorem jyt(v:vV)(n:Nat)(E:vL)(h:Ey w0 W v n E):vQ 301 #[.agg #[],p,v] W (Vn w0 E):=by
 have H:=Hd h
 obtain⟨a,c,rfl⟩:=h.sl
 clear h;unfold vQ;go_in;go_wp2_with fail
 go_ret
 exact⟨_,n,rfl,H.o.mono ((Aa W).alloc _)⟩
theorem ZK(k v:vB):Pz [(k,v)]=[.string k,.string v]:=rfl
theorem uG(q u p:vB)(b:Nat)(hB:Ae w0 b (.cells #[q,u] 378))(v:vV)(n:Nat)(E:vL)(h:Ey w0 W v n E)(hs:p.size+q.size<=900000)(hn:n<=100000):vQ 287 #[b,p,v] W (Vn w0 (E++Iv (p++q) u)):=by
 have q0:=Am (hB.cell (i:=0) (v:=.string q) vF) h.ext;have Q1:=Hd (Am (hB.cell (i:=1) (v:=.string u) vF) h.ext);have H:=Hd h
 obtain⟨a,c,rfl⟩:=h.sl
 have e:=fun w=>EN w (p++q) (by rw[Zk];omega);unfold Kw at e;unfold Iv;cases hok:Mf (p++q)with
 | false =>(rw[if_neg ff,cB];rw[hok,if_neg ff]at e;have J:=Hd e;clear h hB e hok;unfold vQ;go_in;go_wp2_with fail);(refine vH (J.o W) fun w1 X=>?_;go_wp2_with fail);go_ret;exact⟨_,n,rfl,H.o.mono X.o⟩
 | true =>(rw[if_pos rfl];rw[hok,if_pos rfl]at e;have J:=Hd e;clear h hB e hok;unfold vQ;go_in;go_wp2_with fail);(refine vC (J.o W) fun w1 A=>?_;have X:=Hd A;have q1:=Am Q1.o A;have HR:=Hd (H.o.mono A);clear A;go_wp2_with (at_builtin;refine Rc Ff (HR.o.mono ((Aa w1).alloc _)) (.tmp 20) (.tmp 27) rfl rfl rfl (Jx (Ae.new w1 _)) (news:=[Iz (p++q),u]) (by intro u Z;simp at Z;rcases Z with rfl | rfl <;> rfl) rfl rfl (by unfold maxLen;omega) vO (fun v' w' r1 r2 r3=>?_);obtain⟨a5,c5,K⟩:=r1.sl;subst K;have O:=Hd r1));go_ret;exact⟨_,n+1,rfl,by have:=O.o;rw[<-ZK, <-EZ]at this;exact this⟩
def LA(w0 a b:vW):Prop:=Af w0 a->Af w0 b
theorem h_(x y z:vW)(h:LA w0 x y)(k:LA w0 y z):LA w0 x z:=fun e=>k (h e)
theorem jra(x y:vW)(h:Af x y):LA w0 x y:=fun e=>e.trans h
theorem vA(q:vB)(n:PA)(T:TypeId)(x:vV)(Dn:Nat->Prop)(b:Nat)(hB:Ae w0 b (.cells #[q,.iface T x] 381))(hv:Bw n (.iface T x) Dn w0)(hD:∀ x,Dn x->x < w0.heap.size)(p:vB)(v:vV)(m k:Nat)(E:vL)(h:Ey w0 W v m E)(O:Dp n k)(hs:(p++q).size+k<=900000)(hn:m+Bp n<=100000)(hk:Vo n):vQ 293 #[b,p,v] W (Vn w0 (E++Ii n (p++q))):=by
 have Q0:=Hd (hB.cell (i:=0) (v:=.string q) vF);have Q1:=Hd (hB.cell (i:=1) (v:=.iface T x) vF);have X:=Hd h.ext;have HM:=Hd hv.meth;have hz:p.size+q.size<=900000:=by rw[<-Zk];omega
 obtain⟨a,c,Z⟩:=h.sl
 have A:=Hd (show ∀ H,Af W H->vQ (Vh n) #[x,(p++q:),v] H (Vn w0 (E++Ii n (p++q)))from fun H e=>hk w0 H T x Dn (p++q) v m k E ⟨hv,hD⟩ (h.mono e) O hs hn);subst Z;clear hB hv hD h O hs hn hk;unfold vQ;go_in;go_wp2_with fail
 refine Nc [0,1,2,3,4,5,6,7,8,9,10,11,12,13,14] [13] Af (LA w0) Aa Aq (h_ w0) (jra w0) vY vY vY ?_
 refine vD ?_
 refine Lr _ (b) rfl (fun w1 _=>by kernel_rfl) (vS ?_)
 refine vD ?_
 refine Fc ⟨b,1,none⟩ _ rfl (fun w1 h1=>Dt (fun w=>by kernel_rfl) (Am Q1.o (h1 (X.o.trans (Ap _))))) (vS ?_);iterate 2 refine vD ?_
 refine Lr _ (b) rfl (fun w1 _=>by kernel_rfl) (vS ?_)
 refine vD ?_
 refine Fc b _ rfl (fun w1 h1=>Dt (fun w=>by kernel_rfl) (Am Q0.o (h1 (X.o.trans (Ap _))))) (vS ?_);iterate 2 refine vD ?_
 refine Lr _ (.iface T x) rfl (fun w1 _=>by kernel_rfl) (vS ?_)
 refine vD ?_
 refine Hl _ rfl (fun H hb K hK=>?_);have kb:Af W H:=(Ap _).trans hb;refine Oe (DI (f:=Vh n) (vs:=#[(p++q:),.slice a m c]) rfl (HM.o.ent _) (JL _) vY) ?_;refine (A.o H kb).mono ?_;rintro e w2 ⟨v2,m2,rfl,J⟩
 refine⟨v2,rfl,hK _ _ (fun _=>J.ext) ?_⟩
 have HS:=Hd J;clear hK K hb kb J;refine vS ?_
 refine vD ?_
 refine Mr (fun wd O=>?_);have HQ:=Hd O;clear O;go_wp2_with fail
 go_ret
 exact⟨_,_,rfl,HS.o.mono HQ.o⟩
def Ko(ks:Nat->PA)(p:vB)(k:Nat):vL:=(List.range k).flatMap fun i=>if (ks i).isNil then []else Ii (ks i) (p++Ee i)
theorem TI(k:Nat):Ko ks p (k+1)=Ko ks p k++(if (ks k).isNil then []else Ii (ks k) (p++Ee k)):=by
 unfold Ko;rw[gG,dW]
 simp
theorem UB(k:Nat):(Ko ks p k).length<=Cb (fun i=>Bp (ks i)) k:=JV _ _ (fun i=>by
 show (if (ks i).isNil=true then ([]:vL)else Ii (ks i) (p++Ee i)).length<=Bp (ks i);split
 ·simp
 ·exact VR (ks i) _) k
theorem FO(f:Nat->Nat)(k:Nat):∀ d,Cb f k<=Cb f (k+d)
 | 0=>bP _
 | d+1=>bF (FO f k d) (Nat.le_add_right _ _)
def WX(w0:vW)(ks:Nat->PA)(p:vB)(E:vL)(tv iv:vV)(wr:vW):Prop:=∃ (k m:Nat),k<=16/\iv=.int .i64 (k:Int)/\Ey w0 wr tv m (E++Ko ks p k)
theorem UU(hm:m < 16):(convert 84 9 (.slice (some w) 1 1)).run Tryz.prog (w.alloc (.cells #[.int .u8 (m:Int)] 5))=.ok (Ee m) (w.alloc (.cells #[.int .u8 (m:Int)] 5)):=by
 have e:(m:Int)=((UInt8.ofNat m).toNat:Int):=by rw[GZ m vO]
 rw[e];exact Kb w (UInt8.ofNat m)
structure Vm(u:vB)(ks:Nat->PA)(b:Nat)(vk:Nat->Value)(Dk:Nat->Nat->Prop)(W:World):Prop where
 blk:Ae W b (.cells (Uh u vk).toArray 385)
 kid:∀ i,i < 16->Hm (ks i) (vk i) (Dk i) W
theorem pN(u p:vB)(ks:Nat->PA)(b:Nat)(vk:Nat->vV)(Dk:Nat->Nat->Prop)(hb:Vm u ks b vk Dk w0)(v:vV)(n kk:Nat)(E:vL)(h:Ey w0 W v n E)(hd:Dp (.br u ks) kk)(hs:p.size+kk<=900000)(hn:n+1+Cb (fun i=>Bp (ks i)) 16<=100000)(ih:∀ i,i < 16->(ks i).isNil=false->Vo (ks i))(ho:Mf p=false):vQ 297 #[b,p,v] W (Vn w0 (E++Ko ks p 16)):=by
 have H:=Hd hb;have b1:=Hd hd;have a7:=Hd hs;have b3:=Hd ih;have b4:=Hd h.ext;have H0:=Hd h;have b5:=h.len';have q0:=Am (hb.blk.cellL (i:=0) (v:=.string u) vF) h.ext;have O:=Xe (hb.blk.keeps h.ext kI);have c4:=OG;have A:=EN W p vO;unfold Kw at A
 obtain⟨a,c,a5⟩:=h.sl
 rw[ho,if_neg ff]at A;have HK:=Hd A;have b6:=Hd (show E.length+Cb (fun i=>Bp (ks i)) 16<=100000 by omega);have hB:=Hd hb.blk;clear hb hd hs ih h hn ho A O;subst a5;unfold vQ;go_in;go_wp2_with fail
 refine HK.o.mono ?_;rintro e w1 ⟨rfl,hE⟩;have O:=Xe (hB.o.keeps (b4.o.trans hE) kI);have b7:=Hd (H0.o.mono hE);clear hE q0;clear b5;go_wp2_with (refine Gv 383 (.tmp 35) rfl rfl _ _ rfl O ?_)
 go_loopw [2,37] (fun tv iv wr=>WX w0 ks p E tv iv wr) (fun _ iv _=>16 - (intOf iv).toNat)
 case atStart=>exact⟨0,n,by omega,rfl,by rw[show Ko ks p 0=[]from rfl,cB];exact b7.o⟩
 case round =>obtain⟨k,m,hk,rfl,hR⟩:=hrel;(have X:=Hd hR;have a8:m<=E.length+Cb (fun i=>Bp (ks i)) k:=by have h1:=hR.len';have h2:=UB ks p k;rw[bK]at h1;omega);have b8:=Hd a8;obtain⟨a2,c2,J⟩:=hR.sl;clear hR a8;by_cases hlt:k < 16;{have a9:=BB vk hlt;have q:=TI ks p k;rcases (H.o.kid k hlt).at'.kid with⟨hn,hv⟩ |⟨hn,T,x,hv⟩;{rw[hn,if_pos rfl,cB]at q;rw[hv]at a9;have Z:=Hd q;clear q hn hv;subst J;go_wp2;go_roundw;(case rel=>exact⟨k+1,m,by omega,by go_num,by rw[Z.o];exact X.o⟩);case measure=>exact vJ};rw[hn,if_neg ff]at q;(rw[hv]at a9;have hq:=AS T x;have K:=H.o.kid k hlt;rw[hv]at K;have b0:=K.at'.meth;have c5:∀ w,(Go.method (522+1) T x "guilloche/trie.entries").run Tryz.prog w=.ok (Vh (ks k),x) w:=b0.ent;have c7:=JL (ks k);have c8:=UU wr hlt;have a1:=b1.o k hn;have b9:Cb (fun i=>Bp (ks i)) k+Bp (ks k)<=Cb (fun i=>Bp (ks i)) 16:=by have h1:=FO (fun i=>Bp (ks i)) (k+1) (15 - k);rw[show k+1+(15 - k)=16 by omega]at h1;exact h1);(have a0:=Hd (show ∀ wb,Af wr wb->vQ (Vh (ks k)) #[x,(p++Ee k:),.slice a2 m c2] wb (Vn w0 (E++Ko ks p k++Ii (ks k) (p++Ee k)))from fun wb e=>b3.o k hlt hn w0 wb T x (Dk k) (p++Ee k) _ m (kk - 1) _ K (by rw[<-J];exact X.o.mono e) a1.2 (by rw[Zk];have:(Ee k).size=1:=rfl;have:=a7.o;have:=a1.1;omega) (by have:=b8.o;have:=b6.o;omega));have Z:=Hd q;have c9:p.size+(Ee k).size<=900001:=by have:(Ee k).size=1:=rfl;have:=a7.o;omega);have b2:(k:Int) < 16:=vO;(clear q hn hv K b0 a1 b9;subst J;go_wp2_with fail);refine (a0.o _ ((Aa wr).alloc _)).mono ?_;rintro e w2 ⟨v2,m2,rfl,a4⟩;have c0:=Hd a4;obtain⟨a3,c3,c1⟩:=a4.sl;(subst c1;clear a4;go_wp2_with fail);go_roundw;(case rel=>exact⟨k+1,m2,by omega,by go_num,by rw[Z.o, <-bZ];exact c0.o⟩);case measure=>exact vJ};obtain rfl:k=16:=vO;(subst J;go_wp2_with fail);go_ret;exact⟨_,_,rfl,X.o⟩
theorem juC(u p:vB)(ks:Nat->PA)(b:Nat)(vk:Nat->vV)(Dk:Nat->Nat->Prop)(hb:Vm u ks b vk Dk w0)(v:vV)(n kk:Nat)(E:vL)(h:Ey w0 W v n E)(hd:Dp (.br u ks) kk)(hs:p.size+kk<=900000)(hn:n+1+Cb (fun i=>Bp (ks i)) 16<=100000)(ih:∀ i,i < 16->(ks i).isNil=false->Vo (ks i))(ho:Mf p=true)(hu:u.size≠0):vQ 297 #[b,p,v] W (Vn w0 ((E++[(Iz p,u)])++Ko ks p 16)):=by
 have H:=Hd hb;have b4:=Hd hd;have a8:=Hd hs;have b5:=Hd ih;have H0:=Hd h;have b6:=h.len';have q0:=Am (hb.blk.cellL (i:=0) (v:=.string u) vF) h.ext;have O:=Xe (hb.blk.keeps h.ext kI);have c9:=OG;have A:=EN W p vO;unfold Kw at A
 obtain⟨a,c,a7⟩:=h.sl
 rw[ho,if_pos rfl]at A;have HK:=Hd A;have d0:=Wl hu;have b7:=Hd (show (E++[(Iz p,u)]).length+Cb (fun i=>Bp (ks i)) 16<=100000 by rw[bK,List.length_singleton];omega);have hB:=Hd hb.blk;have Q0:=Hd q0;have c8:n<=100000:=vO
 clear hb hd hs ih h hn ho A O hu q0;subst a7;unfold vQ;go_in;go_wp2_with fail
 refine HK.o.mono ?_;rintro e w1 ⟨rfl,hE⟩;have q0:=Am Q0.o hE;have b8:=Hd (H0.o.mono hE);clear hE b6;go_wp2_with (first |(at_builtin;refine Rc Ff (b8.o.mono ((Aa w1).alloc _)) (.tmp 24) (.tmp 31) rfl rfl rfl (Jx (Ae.new w1 _)) (news:=[Iz p,u]) (by intro u hu;simp at hu;rcases hu with rfl | rfl <;> rfl) rfl rfl (by unfold maxLen;omega) vO (fun v' w' r1 r2 r3=>?_);obtain⟨a5,c5,b9⟩:=r1.sl;subst b9;have a9:Hid (Ey w0 w' (.slice a5 (n+1) c5) (n+1) (E++[(Iz p,u)])):=Hd (by rw[<-ZK, <-EZ]at r1;exact r1);have O:=Xe (hB.o.keeps a9.o.ext kI)) |(refine Gv 383 (.tmp 35) rfl rfl _ _ rfl O ?_))
 go_loopw [2,37] (fun tv iv wr=>WX w0 ks p (E++[(Iz p,u)]) tv iv wr) (fun _ iv _=>16 - (intOf iv).toNat)
 case atStart=>exact⟨0,(n+1),by omega,rfl,by rw[show Ko ks p 0=[]from rfl,cB];exact a9.o⟩
 case round =>obtain⟨k,m,hk,rfl,hR⟩:=hrel;(have X:=Hd hR;have b0:m<=(E++[(Iz p,u)]).length+Cb (fun i=>Bp (ks i)) k:=by have h1:=hR.len';have h2:=UB ks p k;rw[bK]at h1;omega);have c0:=Hd b0;obtain⟨a2,c2,J⟩:=hR.sl;clear hR b0;by_cases hlt:k < 16;{have b1:=BB vk hlt;have q:=TI ks p k;rcases (H.o.kid k hlt).at'.kid with⟨hn,hv⟩ |⟨hn,T,x,hv⟩;{rw[hn,if_pos rfl,cB]at q;rw[hv]at b1;have Z:=Hd q;clear q hn hv;subst J;go_wp2;go_roundw;(case rel=>exact⟨k+1,m,by omega,by go_num,by rw[Z.o];exact X.o⟩);case measure=>exact vJ};rw[hn,if_neg ff]at q;(rw[hv]at b1;have hq:=AS T x;have K:=H.o.kid k hlt;rw[hv]at K;have b3:=K.at'.meth;have d1:∀ w,(Go.method (522+1) T x "guilloche/trie.entries").run Tryz.prog w=.ok (Vh (ks k),x) w:=b3.ent;have d2:=JL (ks k);have d3:=UU wr hlt;have a1:=b4.o k hn;have c1:Cb (fun i=>Bp (ks i)) k+Bp (ks k)<=Cb (fun i=>Bp (ks i)) 16:=by have h1:=FO (fun i=>Bp (ks i)) (k+1) (15 - k);rw[show k+1+(15 - k)=16 by omega]at h1;exact h1);(have a0:=Hd (show ∀ wb,Af wr wb->vQ (Vh (ks k)) #[x,(p++Ee k:),.slice a2 m c2] wb (Vn w0 ((E++[(Iz p,u)])++Ko ks p k++Ii (ks k) (p++Ee k)))from fun wb e=>b5.o k hlt hn w0 wb T x (Dk k) (p++Ee k) _ m (kk - 1) _ K (by rw[<-J];exact X.o.mono e) a1.2 (by rw[Zk];have:(Ee k).size=1:=rfl;have:=a8.o;have:=a1.1;omega) (by have:=c0.o;have:=b7.o;omega));have Z:=Hd q;have d4:p.size+(Ee k).size<=900001:=by have:(Ee k).size=1:=rfl;have:=a8.o;omega);have b2:(k:Int) < 16:=vO;(clear q hn hv K b3 a1 c1;subst J;go_wp2_with fail);refine (a0.o _ ((Aa wr).alloc _)).mono ?_;rintro e w2 ⟨v2,m2,rfl,a4⟩;have c4:=Hd a4;obtain⟨a3,c3,c7⟩:=a4.sl;(subst c7;clear a4;go_wp2_with fail);go_roundw;(case rel=>exact⟨k+1,m2,by omega,by go_num,by rw[Z.o, <-bZ];exact c4.o⟩);case measure=>exact vJ};obtain rfl:k=16:=vO;(subst J;go_wp2_with fail);go_ret;exact⟨_,_,rfl,X.o⟩
theorem juB(u p:vB)(ks:Nat->PA)(b:Nat)(vk:Nat->vV)(Dk:Nat->Nat->Prop)(hb:Vm u ks b vk Dk w0)(v:vV)(n kk:Nat)(E:vL)(h:Ey w0 W v n E)(hd:Dp (.br u ks) kk)(hs:p.size+kk<=900000)(hn:n+1+Cb (fun i=>Bp (ks i)) 16<=100000)(ih:∀ i,i < 16->(ks i).isNil=false->Vo (ks i))(ho:Mf p=true)(hu:u.size=0):vQ 297 #[b,p,v] W (Vn w0 (E++Ko ks p 16)):=by
 have H:=Hd hb;have b1:=Hd hd;have a7:=Hd hs;have b3:=Hd ih;have b4:=Hd h.ext;have H0:=Hd h;have b5:=h.len';have q0:=Am (hb.blk.cellL (i:=0) (v:=.string u) vF) h.ext;have O:=Xe (hb.blk.keeps h.ext kI);have c5:=OG;have A:=EN W p vO;unfold Kw at A
 obtain⟨a,c,a5⟩:=h.sl
 rw[ho,if_pos rfl]at A;have HK:=Hd A;have b6:=Og hu;subst b6;have b7:=Hd (show E.length+Cb (fun i=>Bp (ks i)) 16<=100000 by omega);have hB:=Hd hb.blk;have Q0:=Hd q0;clear hb hd hs ih h hn ho A O hu q0;subst a5;unfold vQ;go_in;go_wp2_with fail
 refine HK.o.mono ?_;rintro e w1 ⟨rfl,hE⟩;have q0:=Am Q0.o hE;have O:=Xe (hB.o.keeps (b4.o.trans hE) kI);have b8:=Hd (H0.o.mono hE);clear hE b5;go_wp2_with (refine Gv 383 (.tmp 35) rfl rfl _ _ rfl O ?_)
 go_loopw [2,37] (fun tv iv wr=>WX w0 ks p E tv iv wr) (fun _ iv _=>16 - (intOf iv).toNat)
 case atStart=>exact⟨0,n,by omega,rfl,by rw[show Ko ks p 0=[]from rfl,cB];exact b8.o⟩
 case round =>obtain⟨k,m,hk,rfl,hR⟩:=hrel;(have X:=Hd hR;have a8:m<=E.length+Cb (fun i=>Bp (ks i)) k:=by have h1:=hR.len';have h2:=UB ks p k;rw[bK]at h1;omega);have b9:=Hd a8;obtain⟨a2,c2,J⟩:=hR.sl;clear hR a8;by_cases hlt:k < 16;{have a9:=BB vk hlt;have q:=TI ks p k;rcases (H.o.kid k hlt).at'.kid with⟨hn,hv⟩ |⟨hn,T,x,hv⟩;{rw[hn,if_pos rfl,cB]at q;rw[hv]at a9;have Z:=Hd q;clear q hn hv;subst J;go_wp2;go_roundw;(case rel=>exact⟨k+1,m,by omega,by go_num,by rw[Z.o];exact X.o⟩);case measure=>exact vJ};rw[hn,if_neg ff]at q;(rw[hv]at a9;have hq:=AS T x;have K:=H.o.kid k hlt;rw[hv]at K;have b0:=K.at'.meth;have c7:∀ w,(Go.method (522+1) T x "guilloche/trie.entries").run Tryz.prog w=.ok (Vh (ks k),x) w:=b0.ent;have c8:=JL (ks k);have c9:=UU wr hlt;have a1:=b1.o k hn;have c0:Cb (fun i=>Bp (ks i)) k+Bp (ks k)<=Cb (fun i=>Bp (ks i)) 16:=by have h1:=FO (fun i=>Bp (ks i)) (k+1) (15 - k);rw[show k+1+(15 - k)=16 by omega]at h1;exact h1);(have a0:=Hd (show ∀ wb,Af wr wb->vQ (Vh (ks k)) #[x,(p++Ee k:),.slice a2 m c2] wb (Vn w0 (E++Ko ks p k++Ii (ks k) (p++Ee k)))from fun wb e=>b3.o k hlt hn w0 wb T x (Dk k) (p++Ee k) _ m (kk - 1) _ K (by rw[<-J];exact X.o.mono e) a1.2 (by rw[Zk];have:(Ee k).size=1:=rfl;have:=a7.o;have:=a1.1;omega) (by have:=b9.o;have:=b7.o;omega));have Z:=Hd q;have d0:p.size+(Ee k).size<=900001:=by have:(Ee k).size=1:=rfl;have:=a7.o;omega);have b2:(k:Int) < 16:=vO;(clear q hn hv K b0 a1 c0;subst J;go_wp2_with fail);refine (a0.o _ ((Aa wr).alloc _)).mono ?_;rintro e w2 ⟨v2,m2,rfl,a4⟩;have c1:=Hd a4;obtain⟨a3,c3,c4⟩:=a4.sl;(subst c4;clear a4;go_wp2_with fail);go_roundw;(case rel=>exact⟨k+1,m2,by omega,by go_num,by rw[Z.o, <-bZ];exact c1.o⟩);case measure=>exact vJ};obtain rfl:k=16:=vO;(subst J;go_wp2_with fail);go_ret;exact⟨_,_,rfl,X.o⟩
end
theorem VH:∀ (P:PA),Vo P
 | .nil=>fun w0 W T x D p v n k E h _ _ _ _=>by cases h.at'
 | .no=>fun w0 W T x D p v n k E h A _ _ _=>by
  have e:Value.iface T x=Mi:=h.at';unfold Mi at e;injection e with e1 e2;subst e1 e2;show Calls _ _ _ W (Vn w0 (E++[]));rw[cB];exact jyt w0 W p v n E A
 | .leaf q u=>fun w0 W T x D p v n k E h A H K J=>by
  obtain⟨b,e,h1,O⟩:=h.at'
  unfold Zx at e;injection e with e1 e2;subst e1 e2;have H:q.size<=k:=H;have J:n+1<=100000:=J;exact uG w0 W q u p b O v n E A vO vO
 | .ext q m=>fun w0 W T x D p v n k E h A H K J=>by
  obtain⟨b,T',x',Dn,e,h1,O,h3,h4,h5⟩:=h.at'
  unfold Nb at e;injection e with e1 e2;subst e1 e2;have J:n+(1+Bp m)<=100000:=J;have h1:=H.1;exact vA w0 W q m T' x' Dn b O h3 (fun z hz=>h.lt z (h5 z hz)) p v n (k - q.size) E A H.2 (by rw[Zk];omega) vO (VH m)
 | .br u ks=>fun w0 W T x D p v n k E h A H K J=>by
  obtain⟨b,X,Z,e,h1,O,h3,h4⟩:=h.at'
  unfold Gm at e;injection e with e1 e2;subst e1 e2;have hb:Vm u ks b X Z w0:=⟨O,fun i hi=>⟨(h3 i hi).1,fun z hz=>h.lt z ((h3 i hi).2.2 z hz)⟩⟩;have J:n+(1+Cb (fun i=>Bp (ks i)) 16)<=100000:=J;have ih:∀ i,i < 16->(ks i).isNil=false->Vo (ks i):=fun i _ _=>VH (ks i);show Calls _ _ _ W (Vn w0 (E++((if u.size=0 then []else Iv p u)++Ko ks p 16)));unfold Iv;rw[<-bZ]
  by_cases hu:u.size=0
  ·rw[if_pos hu,cB]
   cases ho:Mf p with
   | true=>exact juB w0 W u p ks b X Z hb v n k E A H K vO ih ho hu
   | false=>exact pN w0 W u p ks b X Z hb v n k E A H K vO ih ho
  ·rw[if_neg hu]
   cases ho:Mf p with
   | true=>rw[if_pos rfl];exact juC w0 W u p ks b X Z hb v n k E A H K vO ih ho hu
   | false=>rw[if_neg ff,cB];exact pN w0 W u p ks b X Z hb v n k E A H K vO ih ho
section
attribute [local go_sem] Oper.semAt_some
def Vf(k:El)(L:vT):vT:=L.map fun x=>if x.1=k then (x.1,x.2.1,Jk 2 (x.2.2.used+1) x.2.2)else x
def Pq(T:vM)(L:vT):vT:=T.foldl (fun L r=>Vf r.data.toList L) L
theorem jpR(L:vT):Pq (T++[r]) L=Vf r.data.toList (Pq T L):=by unfold Pq;rw[dX];rfl
theorem jpQ(L:vT):(Vf k L).map (·.1)=L.map (·.1):=by
 unfold Vf;rw[dA];refine cZ (fun x _=>?_);simp only[Function.comp];split <;> rfl
theorem jpP(L:vT):(Vf k L).map (·.2.1)=L.map (·.2.1):=by
 unfold Vf;rw[dA];refine cZ (fun x _=>?_);simp only[Function.comp];split <;> rfl
theorem RU:∀ (T:vM) (L:vT),(Pq T L).map (·.1)=L.map (·.1)
 | [],_=>rfl
 | r :: T,L=>by
  show (Pq T (Vf r.data.toList L)).map (·.1)=_;rw[RU T,jpQ]
theorem RT:∀ (T:vM) (L:vT),(Pq T L).map (·.2.1)=L.map (·.2.1)
 | [],_=>rfl
 | r :: T,L=>by
  show (Pq T (Vf r.data.toList L)).map (·.2.1)=_;rw[RT T,jpP]
theorem lM(h:A.map (·.1)=B.map (·.1))(k:El):(Be A k).isSome=(Be B k).isSome:=by
 have e:∀ L:vT,(Be L k).isSome=(L.map (·.1)).any (fun y=>decide (k=y)):=fun L=>by unfold Be;rw[List.isSome_find?,List.any_map];rfl
 rw[e,e,h]
theorem ZH:∀ (T:vM) (L:vT) (lo hi:Int),(∀ x∈L,lo<=x.2.2.used/\x.2.2.used<=hi)->∀ x∈Pq T L,lo<=x.2.2.used/\x.2.2.used<=hi+T.length
 | [],L,lo,hi,h=>fun x e=>by have:=h x e;simp;exact this
 | r :: T,L,lo,hi,h=>fun x e=>by
  have:=ZH T (Vf r.data.toList L) lo (hi+1) (fun y q=>by
   obtain⟨z,A,rfl⟩:=bC.1 q
   have:=h z A
   split
   ·simp only[Jk,if_true];omega
   ·omega) x e
  rw[bS];omega
def LG(x:Gd):Nat × vB × vM:=(x.2.1,x.2.2.text,x.2.2.refs)
def AC(W:vW)(bg:Nat)(G:vT):Prop:=∃ G',Ln W bg G'/\∀ k,(Be G' k).map LG=(Be G k).map LG
theorem jux(v:Int)(L:vT)(k:El):Be (L.map (Cl f c v)) k=(Be L k).map (Cl f c v):=by
 unfold Be;rw[List.find?_map]
 congr 1
 refine congrFun (congrArg _ (funext fun x=>?_)) L;simp only[Function.comp,Cl];split <;> rfl
theorem jvM(v:Int)(x:Gd):LG (Cl f c v x)=LG x:=by
 unfold Cl LG Jk
 by_cases e:x.2.1=c
 ·rw[if_pos e];by_cases e2:f=2;{rw[if_pos e2]};rw[if_neg e2]
 ·rw[if_neg e]
theorem AC.setF{W:vW}(h:AC W bg G){c:Nat}{it:It}(hc:Xk W c it){f:Nat}(hf:f=2\/f=3)(v:Int):AC (W.setCell ⟨c,f,none⟩ (.int .i64 v)) bg G:=by
 obtain⟨A,e,q⟩:=h
 refine⟨_,e.setF hc hf v,fun k=>?_⟩
 rw[jux,Option.map_map, <-q k]
 congr 1
 funext x
 exact jvM f c v x
theorem jtR{W:vW}(h:Ln W bm L){k:El}(hy:Be L k=some y):L.map (Cl 2 y.2.1 (y.2.2.used+1))=Vf k L:=by
 obtain⟨K,O,_,H⟩:=h.mp
 have q:=H.keys;rw[dA]at q;have q:(L.map (·.1)).Nodup:=q;unfold Vf;refine cZ (fun x A=>?_);unfold Cl
 by_cases e:x.2.1=y.2.1
 ·have:x=y:=Pk h.blks A (Fa hy).1 e;subst this;rw[if_pos rfl,if_pos (Fa hy).2]
 ·rw[if_neg e,if_neg];intro J;have:x=y:=Pk q A (Fa hy).1 (J.trans (Fa hy).2.symm);subst this;exact e rfl
structure Zb(w5:World)(s bm bg:Nat)(room:Int)(S1 G:vT)(F:vM)(v:Value)(T:vM)(W:World):Prop where
 kp:Ad (fun z=>z∈S1.map (·.2.1)) w5 W
 st:Ev W s bm room (Pq T S1)
 gv:AC W bg G
 row:W.ownsRow 0 9 1 v F.length (F.map Value.string)
theorem Zb.bump{T:vM}{W:vW}(h:Zb w5 s bm bg room S1 G F v T W)
  (hu:∀ x∈S1,0<=x.2.2.used/\x.2.2.used<=1000000000) (hT:T.length<=1000000) (r:vB) (hr:(Be S1 r.data.toList).isSome=true) :
  ∃ (zb:Nat) (u:Int),(Instr.lookup 130 (.map (some bm)) r false).run Tryz.prog W=.ok zb W/\W.cell? ⟨zb,2,none⟩=some (.int .i64 u)/\W.frozen? ⟨zb,2,none⟩=false/\0<=u/\u<=2000000000 /\
   Zb w5 s bm bg room S1 G F v (T++[r]) (W.setCell ⟨zb,2,none⟩ (.int .i64 (u+1)))/\∀ H n xs,W.ownsRow 0 9 1 H n xs->(W.setCell ⟨zb,2,none⟩ (.int .i64 (u+1))).ownsRow 0 9 1 H n xs:=by
 have hs:(Be (Pq T S1) r.data.toList).isSome=true:=by rw[lM (RU T S1)];exact hr
 obtain⟨y,K⟩:=cX.1 hs
 have q:=(Fa K).1;have O:=h.st.mp.items y q
 obtain⟨H,hb,a0⟩:=O.cells
 have A:=h.st.mp.look r false;rw[K]at A;simp only[cH,if_false]at A;have J:Ad (fun z=>z=y.2.1) W (W.setCell ⟨y.2.1,2,none⟩ (.int .i64 (y.2.2.used+1))):=Ad.oneSet W ⟨y.2.1,2,none⟩ _;have hN:Qa W (fun z=>z=y.2.1):=fun z a1 fz e hz=>by have e:z=y.2.1:=e;subst e;have:=hb.uniq hz;injection this with _ h2;exact absurd h2 vI
 have X:y.2.1∈S1.map (·.2.1):=by rw[<-RT T S1];exact bC.2 ⟨y,q,rfl⟩
 have Z:=ZH T S1 0 1000000000 hu y q
 refine⟨y.2.1,y.2.2.used,A,hb.cell (i:=2) vF,hb.frozen,Z.1,by omega,⟨h.kp.trans (J.mono (fun z _ e=>by have e:z=_:=e;rw[e];exact X)),⟨h.st.st.keeps J (fun e=>?_),?_⟩,h.gv.setF O (.inl rfl) _,AO h.row J hN⟩,fun H n xs hx=>AO hx J hN⟩
 ·have e:s=y.2.1:=e;rw[e]at h;have:=hb.uniq h.st.st;injection this with _ h2;exact absurd h2 vI
 ·rw[jpR, <-jtR h.st.mp K];exact h.st.mp.setF O (.inl rfl) _
def Yw(k:El)(L:vT):vT:=L.map fun x=>if x.1=k then (x.1,x.2.1,Jk 3 (x.2.2.held+1) x.2.2)else x
theorem jqG{W:vW}(h:Ln W bm L){k:El}(hy:Be L k=some y):L.map (Cl 3 y.2.1 (y.2.2.held+1))=Yw k L:=by
 obtain⟨K,O,_,H⟩:=h.mp
 have q:=H.keys;rw[dA]at q;have q:(L.map (·.1)).Nodup:=q;unfold Yw;refine cZ (fun x A=>?_);unfold Cl
 by_cases e:x.2.1=y.2.1
 ·have:x=y:=Pk h.blks A (Fa hy).1 e;subst this;rw[if_pos rfl,if_pos (Fa hy).2]
 ·rw[if_neg e,if_neg];intro J;have:x=y:=Pk q A (Fa hy).1 (J.trans (Fa hy).2.symm);subst this;exact e rfl
theorem ZG:∀ (T:vM) (L:vT) (lo hi:Int),(∀ x∈L,lo<=x.2.2.held/\x.2.2.held<=hi)->∀ x∈Pq T L,lo<=x.2.2.held/\x.2.2.held<=hi
 | [],L,lo,hi,h=>fun x e=>h x e
 | r :: T,L,lo,hi,h=>fun x e=>by
  refine ZG T (Vf r.data.toList L) lo hi (fun y q=>?_) x e
  obtain⟨z,A,rfl⟩:=bC.1 q
  have:=h z A
  split
  ·simp only[Jk,if_true];exact this
  ·exact this
theorem Zb.hold{T:vM}{W:vW}(h:Zb w5 s bm bg room S1 G F v T W)
  (hu:∀ x∈S1,0<=x.2.2.held/\x.2.2.held<=1000000000) (r:vB) (hr:(Be S1 r.data.toList).isSome=true) :
  ∃ (zb:Nat) (u:Int),(Instr.lookup 130 (.map (some bm)) r false).run Tryz.prog W=.ok zb W/\W.cell? ⟨zb,3,none⟩=some (.int .i64 u)/\W.frozen? ⟨zb,3,none⟩=false/\0<=u/\u<=1000000000 /\
   Ev (W.setCell ⟨zb,3,none⟩ (.int .i64 (u+1))) s bm room (Yw r.data.toList (Pq T S1))/\Ad (fun z=>z∈S1.map (·.2.1)) w5 (W.setCell ⟨zb,3,none⟩ (.int .i64 (u+1))):=by
 have Z:(Be (Pq T S1) r.data.toList).isSome=true:=by rw[lM (RU T S1)];exact hr
 obtain⟨y,J⟩:=cX.1 Z
 have q:=(Fa J).1;have O:=h.st.mp.items y q
 obtain⟨rv,hb,a0⟩:=O.cells
 have A:=h.st.mp.look r false;rw[J]at A;simp only[cH,if_false]at A;have X:Ad (fun z=>z=y.2.1) W (W.setCell ⟨y.2.1,3,none⟩ (.int .i64 (y.2.2.held+1))):=Ad.oneSet W ⟨y.2.1,3,none⟩ _;have K:y.2.1∈S1.map (·.2.1):=by rw[<-RT T S1];exact bC.2 ⟨y,q,rfl⟩
 have H:=ZG T S1 0 1000000000 hu y q
 refine⟨y.2.1,y.2.2.held,A,hb.cell (i:=3) vF,hb.frozen,H.1,H.2,⟨h.st.st.keeps X (fun e=>?_),?_⟩,h.kp.trans (X.mono (fun z _ e=>by have e:z=_:=e;rw[e];exact K))⟩
 ·have e:s=y.2.1:=e;rw[e]at h;have:=hb.uniq h.st.st;injection this with _ h2;exact absurd h2 vI
 ·rw[<-jqG h.st.mp J];exact h.st.mp.setF O (.inr rfl) _
def La(G:vT)(F:vM):vT:=F.filterMap fun x=>Be G x.data.toList
theorem jqt{x:vB}(hx:F[i]?=some x)(hy:Be G x.data.toList=some y):La G (F.take (i+1))=La G (F.take i)++[y]:=by
 unfold La;rw[cA,hx,List.filterMap_append];simp[hy]
theorem Uz(h:y∈La G F):y∈G/\∃ x∈F,y.1=x.data.toList:=by
 obtain⟨x,q,e⟩:=List.mem_filterMap.1 h
 exact⟨(Fa e).1,x,q,(Fa e).2⟩
theorem jxy{k:El}(h:∀ x∈B,k≠x.1):Be (A++B) k=Be A k:=by
 unfold Be;rw[iT]
 have:B.find? (fun x=>decide (k=x.1))=none:=by rw[List.find?_eq_none];simpa using h
 rw[this];simp
theorem Ln.notRow{W:vW}(h:Ln W bm L):Qa W (fun z=>z=bm):=fun z q J e A=>by
 obtain⟨K,O,H,_⟩:=h.mp
 have e:z=bm:=e;subst e
 have:=H.uniq A;cases this
structure BQ(w4:World)(s bm bg:Nat)(room:Int)(S G:vT)(F:vM)(v:Value)(i:Nat)(W:World):Prop where
 kp:Ad (fun z=>z=bm) w4 W
 st:Ev W s bm room (S++La G (F.take i))
 gv:Ln W bg G
 row:W.ownsRow 0 9 1 v F.length (F.map Value.string)
theorem BQ.ext{W:vW}(h:BQ w4 s bm bg room S G F v i W)(e:Af W W'):BQ w4 s bm bg room S G F v i W':=
 ⟨h.kp.trans (e.mono kZ),h.st.ext e,h.gv.ext e,Jy h.row e⟩
theorem BQ.put{W:vW}(h:BQ w4 s bm bg room S G F v i W)
  (hSG:∀ x∈S,∀ y∈G,x.2.1≠y.2.1) (hbg:bg≠bm) (hv:∀ z,v.ownBlock=some z->z≠bm) (hnd:F.Nodup) (hFS:∀ x∈F,Be S x.data.toList=none)
  {x:vB} {y:Gd} (hx:F[i]?=some x) (hy:Be G x.data.toList=some y) :
  ∃ o,(Instr.mapUpdate 130 (.map (some bm)) x y.2.1).run Tryz.prog W=.ok () (W.putObj bm o)/\BQ w4 s bm bg room S G F v (i+1) (W.putObj bm o):=by
 have hk:∀ z∈La G (F.take i),x.data.toList≠z.1:=fun z q e=>by obtain⟨_,x',O,e'⟩:=Uz q;have:=VC (e.trans e');subst this;exact jqq hnd hx O
 have hn:Be (S++La G (F.take i)) x.data.toList=none:=by rw[jxy hk];exact hFS x (bD hx)
 have A:=(Fa hy).1;have H:=(Fa hy).2;have J:∀ z∈S++La G (F.take i),z.2.1≠y.2.1:=fun z q e=>by rcases bR.1 q with q | q;{exact hSG z q y A e};have:=Pk h.gv.blks (Uz q).1 A e;subst this;exact hk z q H.symm
 obtain⟨o,X,hA⟩:=h.st.mp.put x hn (h.gv.items y A) J
 have K:Ad (fun z=>z=bm) W (W.putObj bm o):=Ad.onePut W bm o;have hN:=h.st.mp.notRow;have Z:∀ {c:Nat} {it:It},Xk W c it->¬ c=bm:=fun hi e=>by obtain⟨_,hc,_⟩:=hi.cells;obtain⟨es,ck,h1,_⟩:=h.st.mp.mp;subst e;have:=h1.uniq hc;cases this
 refine⟨o,X,h.kp.trans K,⟨h.st.st.keeps K (fun e=>?_),?_⟩,h.gv.keeps K hbg (fun z q=>Z (h.gv.items z q)) hN,Kq h.row K (fun z q e=>hv z q e)⟩
 ·have e:s=bm:=e;obtain⟨es,ck,h1,_⟩:=h.st.mp.mp;subst e;have:=h1.uniq h.st.st;cases this
 ·rw[jqt hx hy, <-bZ];(have e:(x.data.toList,y.2.1,y.2.2)=y:=by rw[<-H]);rw[e]at hA;exact hA
theorem jzW(A B:vT)(k:El):(Be (A++B) k).isSome=((Be A k).isSome ||(Be B k).isSome):=by
 unfold Be;rw[iT,Option.isSome_or]
def PU(w5:vW)(s bm bg:Nat)(room:Int)(S1 G:vT)(F:vM)(v iv:vV)(W:vW):Prop:=∃ i:Nat,i<=F.length/\iv=.int .i64 i/\Zb w5 s bm bg room S1 G F v ((F.take i).flatMap (Ik G)) W
def IE(w5:vW)(s bm bg:Nat)(room:Int)(S1 G:vT)(F:vM)(v:vV)(T R:vM)(rv jv:vV)(W:vW):Prop:=∃ j:Nat,j<=R.length/\jv=.int .i64 j/\Zb w5 s bm bg room S1 G F v (T++R.take j) W/\W.ownsRow 0 9 1 rv R.length (R.map Value.string)
def PS(w4:vW)(s bm bg:Nat)(room:Int)(S G:vT)(F:vM)(v iv:vV)(W:vW):Prop:=∃ i:Nat,i<=F.length/\iv=.int .i64 i/\BQ w4 s bm bg room S G F v i W
def He(l:vM):Prop:=∀ x∈l,∀ y∈l,Ak x=Ak y->x=y
theorem He.step{L:vM}(h:He (L.take i))(ht:L[i]?=some t)(hs:∀ x∈L.take i,Ak x=Ak t->x=t):He (L.take (i+1)):=by
 intro x q y A e;rw[cA,ht]at q A;rcases bR.1 q with h1 | h1 <;> rcases bR.1 A with h2 | h2
 ·exact h x h1 y h2 e
 ·simp at h2;subst h2;exact hs x h1 e
 ·simp at h1;subst h1;exact (hs y h2 e.symm).symm
 ·simp at h1 h2;rw[h1,h2]
def PX(w:vW)(L:vM)(hv iv:vV)(W:vW):Prop:=∃ i:Nat,i<=L.length/\iv=.int .i64 i/\Cd w W hv i ((L.take i).map Ak)/\He (L.take i)
def PY(w4:vW)(L:vM)(t:vB)(i:Nat)(kv:vV)(W:vW):Prop:=∃ k:Nat,k<=i/\kv=.int .i64 k/\Af w4 W/\∀ x∈L.take k,Ak x=Ak t->x=t
def tG(L:vM)(w:vW)(e:Ending)(w':vW):Prop:=∃ b,e=.returned (.bool b)/\(b=true↔He L)/\Af w w'
theorem jxu(hc:Ha w)(v:vV)(L:vM)(hv:Ic w v L)(hl:L.length<=1000000):vQ 32 #[v] w (tG L w):=by
 obtain⟨a,c,rfl,_⟩:=hv.slice
 have HV:=Hd hv;have HC:=Hd hc;clear hv hc;unfold vQ;go_in;go_wp2_with fail
 go_loopw [3,4] (fun hv iv wr=>PX w L hv iv wr) (fun _ iv _=>L.length - (intOf iv).toNat)
 case atStart=>exact⟨0,cE _,rfl,Av.nil _ _ (Aa w),fun x O=>by cases O⟩
 case round =>obtain⟨i,hi,rfl,hR,hI⟩:=hrel;obtain⟨ah,ch,rfl⟩:=hR.sl;have HR:=Hd hR;have HI:=Hd hI;clear hR hI;by_cases hlt:i < L.length;{have b1:(i:Int) < (L.length:Int):=vO;obtain⟨t,ht⟩:∃ t,L[i]?=some t:=⟨_,bB hlt⟩;obtain⟨ax,cx,hh,q⟩:=HV.o.slice;obtain⟨ba,oa,b5,a0⟩:=q i t ht;subst b5;cases hh;have q1:=Am a0 HR.o.ext;have HT:=Hd ht;have b6:=Hd a0;have b7:=Hd (show ∀ (j:Nat) x,L[j]?=some x->w.cell? ⟨ba,oa+j,none⟩=some (.string x)from fun j x O=>by obtain⟨b',o',e,h⟩:=q j x O;cases e;exact h);(clear q a0 ht;go_wp2_with fail);refine vH (Tb _ _ [t] (by simp) (BA wr [t] 9) (HC.o.ext (HR.o.ext.alloc _))) fun w4 hE=>?_;rw[CA];have a1:=((Aa wr).alloc (.cells #[.string t] 9)).trans hE;have a2:=Hd (HR.o.mono a1);have a3:=Hd (HR.o.ext.trans a1);obtain⟨sh,a4⟩:=vE (Ak t);(have a5:=Hd a4;rw[<-a4];clear a1 a4 q1 HR;go_wp2_with fail);(go_loopw [6] (fun kv b8=>PY w4 L t i kv b8) (fun kv _=>i - (intOf kv).toNat));(case atStart=>exact⟨0,cE _,rfl,Aa w4,fun x O=>by cases O⟩);case round =>obtain⟨k,hk,rfl,hE,hs⟩:=hrel;have J:=Hd hE;have HS:=Hd hs;clear hE hs;by_cases hlt2:k < i;{have b2:(k:Int) < (i:Int):=vO;have b3:(k:Int) < (L.length:Int):=vO;obtain⟨x,O⟩:∃ x,L[k]?=some x:=⟨_,bB vO⟩;(have X:((L.take i).map Ak)[k]?=some (Ak x):=by rw[bY,List.getElem?_take,if_pos hlt2,O];rfl);(have b0:=EC a2.o.own;have A:∃ bh oh,ah=some ⟨bh,oh,none⟩/\w4.cell? ⟨bh,oh+k,none⟩=some (.string (Ak x)):=by rcases b0 with⟨_,_,_,h0⟩ |⟨bq,oq,cq,hh,_,_,q⟩;{rw[h0]at X;cases X};exact⟨bq,oq,(dH hh).1,q k _ X⟩);obtain⟨bh,oh,rfl,A⟩:=A;obtain⟨sx,a7⟩:=vE (Ak x);(rw[<-a7]at A;have b4:=Hd a7;have Q1:=Hd (Am A J.o);have Q2:=Hd (Am (b7.o k x O) (a3.o.trans J.o));have Q3:=Hd (Am b6.o (a3.o.trans J.o));have HX:=Hd O;clear O X b0 A a7;go_wp2_with fail);(refine Ij [0,1,2,3,4,5,6,7,8,9,10,11,12,13,14,15,16] Af Aa Aq vY vY vY ?_;iterate 3 refine vK ?_);(refine Dc ⟨bh,oh+k,none⟩ _ rfl (fun w1 H=>Bq Tryz.underlying9 rfl (Am Q1.o ((Ap _).trans H))) (vS ?_);iterate 3 refine vK ?_);cases hq:(sx.toList == sh.toList)with| false =>have HN:=Hd (show Ak x=Ak t->x=t from fun e=>by rw[<-b4.o, <-a5.o]at e;rw[e]at hq;simp at hq);(clear hq;iterate 9 (refine Wv _ rfl (vS ?_)));refine vK ?_;refine Hv (fun w5 Z=>?_);have K:=Hd (J.o.trans ((Ap _).trans Z));have a8:=Hd (show ∀ z∈L.take (k+1),Ak z=Ak t->z=t from fun z hz e=>by rw[cA,HX.o]at hz;rcases bR.1 hz with H | H;{exact HS.o z H e};simp at H;subst H;exact HN.o e);(clear Z Q1 Q2 Q3 J HS;go_wp2_with fail);go_roundw;(case rel=>exact⟨k+1,by omega,by go_num,K.o,a8.o⟩);case measure=>exact vJ| true =>(have b9:=Hd (show Ak x=Ak t by rw[<-b4.o, <-a5.o];exact SM (by simpa using hq));clear hq;iterate 3 refine vK ?_);(refine Dc ⟨ba,oa+k,none⟩ _ rfl (fun w1 H=>Bq Tryz.underlying9 rfl (Am Q2.o ((Ap _).trans H))) (vS ?_);iterate 3 refine vK ?_);refine Dc ⟨ba,oa+i,none⟩ _ rfl (fun w1 H=>Bq Tryz.underlying9 rfl (Am Q3.o ((Ap _).trans H))) (vS ?_);refine vK ?_;cases A:(x.toList == t.toList)with| true =>have HN:Hid (x=t):=(SM (by simpa using A));have hb:(!true)=false:=rfl;clear A;rw[hb];refine vK ?_;refine Hv (fun w5 Z=>?_);have K:=Hd (J.o.trans ((Ap _).trans Z));have a8:=Hd (show ∀ z∈L.take (k+1),Ak z=Ak t->z=t from fun z hz e=>by rw[cA,HX.o]at hz;rcases bR.1 hz with H | H;{exact HS.o z H e};simp at H;subst H;exact HN.o);(clear Z Q1 Q2 Q3 J HS hb;go_wp2_with fail);go_roundw;(case rel=>exact⟨k+1,by omega,by go_num,K.o,a8.o⟩);case measure=>exact vJ| false =>have hb:(!false)=true:=rfl;have c0:=Hd (show ¬ He L from fun h=>by have:=h x (bD HX.o) t (bD HT.o) b9.o;rw[this]at A;simp at A);clear A;rw[hb];refine vK ?_;(refine Hv (fun w5 Z=>?_);have K:=Hd (J.o.trans ((Ap _).trans Z));clear Z Q1 Q2 Q3 J HS hb;go_wp2_with fail);go_ret;exact⟨false,rfl,⟨fun e=>(by cases e),fun h=>absurd h c0.o⟩,a3.o.trans K.o⟩};have c1:k=i:=vO;(subst c1;have c2:=Hd (HI.o.step HT.o HS.o);have c3:=Hd (a2.o.mono J.o);have c4:=Hd (show (L.take (k+1)).map Ak=(L.take k).map Ak++[sh] by rw[cA,HT.o,bW,a5.o];rfl);have c5:k+1<=maxLen:=by unfold maxLen;omega);have c7:(k+1) * 16<=140737488355328:=vO;(clear HS HI J a2;go_wp2_with (at_builtin;refine Rc Cg (c3.o.mono ((Aa wr).alloc _)) (.tmp 41) (.tmp 43) rfl rfl rfl (Jx (Ae.new wr _)) (news:=[.string sh]) (by intro u hu;simp at hu;rcases hu with rfl;rfl) rfl rfl c5 c7 ?_;intro v' w' r1 r2 r3));(have a9:Cd w w' v' (k+1) ((L.take (k+1)).map Ak):=by unfold Cd;rw[c4.o,bW];exact r1);obtain⟨d1,d2,rfl⟩:=a9.sl;(have c8:=Hd a9;clear r1 r2 r3 a9;go_wp2_with fail);go_roundw;(case rel=>exact⟨k+1,by omega,by go_num,c8.o,c2.o⟩);case measure=>exact vJ};have c9:i=L.length:=vO;(have d0:=Hd (show He L by have:=HI.o;rwa [c9,cD]at this);clear HI;go_wp2_with fail);go_ret;exact⟨true,rfl,⟨fun _=>d0.o,fun _=>rfl⟩,HR.o.ext⟩
end
def cK(T:vM)(k:El):Nat:=(T.map (·.data.toList)).count k
theorem OO(A B:vM)(k:El):cK (A++B) k=cK A k+cK B k:=by unfold cK;rw[bW,List.count_append]
theorem KJ(B:vM)(k:El):cK (r :: B) k=cK B k+(if k=r.data.toList then 1 else 0):=by
 unfold cK;rw[bN,List.count_cons]
 by_cases h:k=r.data.toList
 ·rw[if_pos h,h];simp
 ·rw[if_neg h,if_neg];simpa using fun e=>h e.symm
theorem jxG{T:vM}{k:El}(h:∀ r∈T,r.data.toList≠k):cK T k=0:=by
 unfold cK;rw[List.count_eq_zero];intro q
 obtain⟨r,A,e⟩:=bC.1 q
 exact h r A e
theorem WH{T:vM}{r:vB}(h:r∈T):1<=cK T r.data.toList:=by
 unfold cK;exact gE.2 (bC.2 ⟨r,h,rfl⟩)
def We(n:Nat)(x:Gd):Gd:=(x.1,x.2.1,⟨x.2.2.text,x.2.2.refs,x.2.2.used+n,x.2.2.held⟩)
def DG(n:Nat)(x:Gd):Gd:=(x.1,x.2.1,⟨x.2.2.text,x.2.2.refs,x.2.2.used,x.2.2.held+n⟩)
theorem lG:∀ (T:vM) (L:vT),Pq T L=L.map fun x=>We (cK T x.1) x
 | [],L=>by
  show L=_
  have:(fun x:Gd=>We (cK [] x.1) x)=id:=by
   funext x
   obtain⟨a,b,⟨t,r,u,h⟩⟩:=x
   unfold We cK;simp
  rw[this,jE]
 | r :: T,L=>by
  show Pq T (Vf r.data.toList L)=_;rw[lG T,Vf,dA];refine cZ fun x _=>?_;show We (cK T (if x.1=r.data.toList then (x.1,x.2.1,Jk 2 (x.2.2.used+1) x.2.2)else x).1) (if x.1=r.data.toList then (x.1,x.2.1,Jk 2 (x.2.2.used+1) x.2.2)else x)=_;rw[KJ]
  by_cases h:x.1=r.data.toList
  ·simp only[if_pos h]
   unfold We Jk;simp only[if_true];rw[show x.2.2.used+1+((cK T x.1:Nat):Int)=x.2.2.used+((cK T x.1+1:Nat):Int) by omega]
  ·simp only[if_neg h,gC]
theorem juM(L:vT):Yw r.data.toList L=L.map fun x=>DG (cK [r] x.1) x:=by
 unfold Yw;refine cZ fun x _=>?_;rw[KJ]
 by_cases h:x.1=r.data.toList
 ·rw[if_pos h,if_pos h];rfl
 ·rw[if_neg h,if_neg h];obtain⟨a,b,⟨t,r,u,h⟩⟩:=x;unfold DG cK;simp
def CW(T:vM)(r:vB)(x:Gd):Gd:=DG (cK [r] x.1) (We (cK T x.1) x)
theorem jxE(L:vT):Yw r.data.toList (Pq T L)=L.map (CW T r):=by
 rw[juM,lG,dA];rfl
theorem jro(L:vT):(L.map (CW T r)).map (·.1)=L.map (·.1):=by
 rw[dA];rfl
theorem jrp(L:vT):(L.map (CW T r)).flatMap (fun y=>y.2.2.refs)=L.flatMap (fun y=>y.2.2.refs):=by
 rw[List.flatMap_map];rfl
theorem ZC(G:vT):∀ F:vM,F.flatMap (Ik G)=(La G F).flatMap (fun y=>y.2.2.refs)
 | []=>rfl
 | x :: F=>by
  have e:=ZC G F;unfold La at *;rw[dN,fQ];cases h:Be G x.data.toList with
  | none=>rw[e];unfold Ik;rw[h];rfl
  | some y=>rw[e,MS h,dN]
theorem Xi{k:El}:(Be S k).isSome=true↔k∈S.map (·.1):=by
 constructor
 ·intro h;obtain⟨y,q⟩:=cX.1 h;exact bC.2 ⟨y,(Fa q).1,(Fa q).2⟩
 ·intro h;obtain⟨y,q,e⟩:=bC.1 h;cases ha:Be S k with| some z=>rfl| none=>exact absurd e.symm (DR.1 ha y q)
theorem jxA(hn:(S.map (·.1)).Nodup){k:El}(hx:x∈S)(e:x.1=k)(hy:Be S k=some y):y=x:=by
 obtain⟨q,A⟩:=Fa hy
 exact Pk hn q hx (A.trans e.symm)
def yI(L:vM)(top:vB):Prop:=∀ P:vB->Prop,(∀ t∈L,P (Ak t)->∀ h∈Gc (Bo t),P h)->P (Ak top)->∀ t∈L,P (Ak t)
theorem wQ(hU:He U){s:vB}(hs:s∈U)(ht:t∈U)(h:ky s=ky t):s=t:=hU s hs t ht (VC h)
def Gh(S G:vT)(M:vM)(top:vB):vT:=Yw (Ak top).data.toList (Pq ((Cq S M).flatMap (Ik G)) (S++La G (Cq S M)))
theorem Vc(S G:vT)(M:vM)(top:vB):Gh S G M top=(S++La G (Cq S M)).map (CW ((Cq S M).flatMap (Ik G)) (Ak top)):=jxE _ _ _
theorem xO(w:vW)(P:vB->Prop):∀ (f:Nat) (l:vL),Eu f l->(∀ t∈Bz (An (f+1) l),P (Ak t)->∀ h∈Gc (Bo t),P h)->P (Ak (Cr (Bm (An f) l)))->∀ t∈Bz (An (f+1) l),P (Ak t):=by
 intro f;induction f with
 | zero =>(intro l h _ X t q;have e2:Cu (An 0) l=[]:=by have:=Wi h;unfold Cu;rw[if_pos vO]);(have H:Bz (An (0+1) l)=[Cr (Bm (An 0) l)]:=by show Bz (.mk (Cr (Bm (An 0) l)) (Cu (An 0) l))=_;rw[Bz,e2];simp[Ej]);rw[H,bL]at q;subst q;exact X
 | succ f ih =>(intro l h J X t q;have H:Bz (An (f+1+1) l)=Cr (Bm (An (f+1)) l) :: Ej (Cu (An (f+1)) l):=by show Bz (.mk (Cr (Bm (An (f+1)) l)) (Cu (An (f+1)) l))=_;rw[Bz]);have hh:=RN (f+1) l h;have A:Ht (Cr (Bm (An (f+1)) l)) (Bm (An (f+1)) l):=⟨rfl,f+1,(good (f+1) l h).1⟩;rw[H]at q;rcases bT.1 q with rfl | q;{exact X};obtain⟨K,Z,q⟩:=Zj.1 q;obtain⟨g,m,eg,e,h1,a0⟩:=jR h Z;obtain rfl:f=g:=vO;(subst e;have O:∀ t∈Bz (An (f+1) m),t∈Bz (An (f+1+1) l):=fun t q=>by rw[H];exact bM _ (Zj.2 ⟨_,Z,q⟩));refine ih m h1 (fun t q=>J t (O t q)) ?_ t q;refine J _ (by rw[H];exact bO) X _ ?_;rw[BW w (Wg A) A,hh];exact bC.2 ⟨_,Z,rfl⟩
theorem jwm(w:vW)(h:Dv l=0):yI (Hb (Bz (Ds l))) (Ds l).text:=fun P q A t e =>
 xO w P 12 (Em l) (Ou (Fr h)) (fun t e=>q t ((Rb _ _).2 e)) A t ((Rb _ _).1 e)
theorem Ev.nd{W:vW}(h:Ev W s bm room S):(S.map (·.1)).Nodup:=by
 obtain⟨q,A,_,e⟩:=h.mp.mp
 have:=e.keys
 rw[dA]at this;exact this
section
attribute [local go_sem] Oper.semAt_some
def Nf(l:vL):vM:=Hb (Bz (Ds l))
theorem aW(h:Dv l=0):(Nf l).length<=121:=by
 have e:=(jqM h).1;have q:=(Fr h).len;show (Hb (Bz (Ds l))).length<=_;omega
end
def Ol:vV:=.iface 25 (.int .i64 2)
def XI(W0 W:vW)(v:vV):Prop:=∃ (b:Nat) (k:Int),v=.iface 362 b/\Ae W b (.cells #[.int .i64 k,Ol] 364)/\W0.heap.size<=b
def QL(w:vW)(e:Ending)(w':vW):Prop:=∃ v,e=.returned v/\Af w w'/\XI w w' v
theorem P_(k:Int):vQ 223 #[.int .i64 k] w (QL w):=by
 unfold vQ;go_in;go_wp2_with fail
 go_ret
 exact⟨_,rfl,(Aa w).alloc _,_,k,rfl,Ae.new w _,bP _⟩
def yA(w:vW)(e:Ending)(w':vW):Prop:=∃ v,e=.returned (.tuple #[false,.string ⟨#[]⟩,.string ⟨#[]⟩,v])/\Af w w'/\XI w w' v
theorem jrY:vQ 187 #[.string ⟨#[]⟩] w (yA w):=by
 unfold vQ;go_in;go_wp2_with fail
 refine (P_ w 0).mono ?_;rintro e w1 ⟨v,rfl,q,J⟩
 obtain⟨b,k,rfl,A⟩:=J
 have H:=Hd (bA q A);clear q A;go_wp2_with fail
 refine bodyPost_ret (v:=.tuple #[false,.string ⟨#[]⟩,.string ⟨#[]⟩,.iface 362 b]) (by simp[results,Tryz.results187,go_sem]) rfl ?_
 exact⟨_,rfl,H.o.1,b,k,rfl,H.o.2⟩
section
attribute [local go_sem] Oper.semAt_some
theorem Tw(v:vV)(xT:TypeId)(w:vW):(Instr.typeAssert (.iface 362 v) xT 244 true).run Tryz.prog w=.ok (.tuple #[.nilIface,false]) w:=run_typeAssert_lacksB Tryz.underlying244 vY vY v xT w
theorem Na(v:vV)(xT:TypeId)(w:vW):(Instr.typeAssert (.iface 362 v) xT 247 true).run Tryz.prog w=.ok (.tuple #[.iface 362 v,true]) w:=run_typeAssert_hasB Tryz.underlying247 vY v xT w
end
theorem Er(n:Nat)(v:vV)(w:vW):(Go.method (n+1) 242 v "Comparable").run Tryz.prog w=.ok (269,v) w:=vY
theorem Ki(n:Nat)(v:vV)(w:vW):(Go.method (n+1) 362 v "Unwrap").run Tryz.prog w=.ok (285,v) w:=vY
theorem jwJ(k:Int)(c:vV)(hB:Ae w b (.cells #[.int .i64 k,c] 364)):vQ 285 #[b] w fun e w'=>e=.returned c/\w=w':=by
 have q:=hB.cell (i:=1) (v:=c) vF;clear hB;unfold vQ;go_in;go_wp2_with fail
 go_ret
 exact⟨rfl,rfl⟩
theorem xD(k:Int)(hB:Ae w b (.cells #[.int .i64 k,Ol] 364)):vQ 85 #[.iface 362 b,Ol,true] w fun e w'=>e=.returned true/\w=w':=by
 have q:=Hd hB;clear hB;have A:=fun w=>run_eql_iface_types (P:=Tryz.prog) 362 25 b (.int .i64 2) Tryz.underlying94 vI w;have H:∀ w,(binOp .eql 94 Ol Ol).run Tryz.prog w=.ok true w:=fun w=>by kernel_rfl
 have J:∀ w,(binOp .eql 94 Ol .nilIface).run Tryz.prog w=.ok false w:=fun w=>by kernel_rfl
 unfold Ol at *;have K:=Tw;have O:=Na;have X:=Ki 522;unfold vQ;go_in;go_wp2_with fail
 refine wp_loop_rounds 2 ?_;rw[rounds_succ];go_wp2_with fail
 refine (jwJ w b k _ q.o).mono ?_;rintro e w1 ⟨rfl,rfl⟩;go_wp2_with fail
 rw[rounds_succ];go_wp2_with fail
 go_ret
 exact⟨rfl,rfl⟩
theorem jvI(k:Int)(hB:Ae w b (.cells #[.int .i64 k,Ol] 364)):vQ 39 #[.iface 362 b,Ol] w fun e w'=>e=.returned true/\w=w':=by
 have q:=Hd (xD w b k hB);clear hB;have A:∀ w,(binOp .eql 94 (.iface 362 b) .nilIface).run Tryz.prog w=.ok false w:=fun w=>by kernel_rfl
 have H:∀ w,(binOp .eql 94 Ol .nilIface).run Tryz.prog w=.ok false w:=fun w=>by kernel_rfl
 unfold Ol at *;have K:∀ w,(callFunc 84 #[.iface 25 (.int .i64 2)]).run Tryz.prog w=.ok (.value (.iface 242 (.agg #[.pointer (some ⟨3,25,none⟩)]))) w:=fun w=>by kernel_rfl
 have J:∀ w,(callFunc 269 #[.agg #[.pointer (some ⟨3,25,none⟩)]]).run Tryz.prog w=.ok (.value true) w:=fun w=>by kernel_rfl
 have O:=Er 522;unfold vQ;go_in;go_wp2_with fail
 refine q.o.mono ?_;rintro e w1 ⟨rfl,rfl⟩;go_wp2_with fail
 go_ret
 exact⟨rfl,rfl⟩
section
attribute [local go_sem] Oper.semAt_some
def Yv(s:vB):Option vB:=match Dq s with | some r=>Vg s r | none=>none
theorem aT:vR 150 #[.string ⟨#[]⟩] w (.tuple #[false,.string ⟨#[]⟩,.string ⟨#[]⟩,.int .i64 2]):=by
 have H:=Hd (jrY w);unfold vR vQ;go_in;go_wp2_with fail
 refine H.o.mono ?_;rintro e w1 ⟨v,rfl,q,b,k,rfl,A,_⟩;have J:=Hd q;have K:=Hd A;clear q A;go_wp2_with fail
 refine (show vQ 39 #[.iface 362 b,.iface 25 (.int .i64 2)] w1 fun e w'=>e=.returned true/\w1=w' from jvI w1 b k K.o).mono ?_;rintro e O ⟨rfl,rfl⟩;go_wp2_with fail
 exact bodyPost_ret (v:=.tuple #[false,.string ⟨#[]⟩,.string ⟨#[]⟩,.int .i64 2]) (by simp[results,Tryz.results150,go_sem]) rfl ⟨rfl,J.o⟩
theorem jqw:vR 181 #[.string ⟨#[]⟩] w (Dg none):=by
 have A:=Hd (aT w);unfold vR vQ;go_in;go_wp2_with fail
 refine A.o.mono ?_;rintro e w1 ⟨rfl,q⟩;have H:=Hd q;clear q;go_wp2_with fail
 go_ret2
 exact⟨rfl,H.o⟩
theorem aY:vR 143 #[.string ⟨#[]⟩] w (Dg none):=by
 have A:=Hd (jqw w);unfold vR vQ;go_in;go_wp2_with fail
 refine A.o.mono ?_;rintro e w1 ⟨rfl,q⟩;unfold Dg;have H:=Hd q;clear q;go_wp2_with fail
 go_ret2
 exact⟨rfl,H.o⟩
def Xu(s:vB):Prop:=Dq s=none->s=⟨#[]⟩
theorem JN(s:vB)(hs:s.size<=1000000000)(he:Xu s):vR 143 #[s] w (Dg (Yv s)):=by
 unfold Yv;cases h:Dq s with
 | none=>rw[he h];exact aY w
 | some r=>exact BE w s r hs h
theorem jrW{s h:vB}(hh:Yv s=some h):Xu s:=fun e=>by
 unfold Yv at hh;rw[e]at hh;cases hh
end
def DC(w:vW)(e:Ending)(w':vW):Prop:=∃ m:Ai,m.refs.length=16/\e=.returned (.tuple #[m.V,false])/\Af w w'
def PH(w:vW)(e:Ending)(w':vW):Prop:=e=.returned (.tuple #[Db.V,.int .i64 2])/\Af w w'
theorem jtD(w:vW)(s:vB)(hs:s.size<=1000000000)(h:Dq s=none)(hsp:∀ w,vR 150 #[s] w (.tuple #[false,.string ⟨#[]⟩,.string ⟨#[]⟩,.int .i64 2])):vQ 160 #[s] w (DC w):=by
 obtain⟨em,q⟩:=vE (Ay ⟨#[]⟩)
 have H:s≠em:=fun e=>by obtain⟨o,h1,_⟩:=JK ⟨#[]⟩ vI;rw[e,q,h1]at h;cases h
 have a4:=NE H;have X:=Hd q;have HS:=Hd hsp;have HZ:=Hd hs;clear q H h hs hsp;unfold vQ;go_in;go_wp2_with (refine Di Ac rfl rfl ?_;intro W1 J K)
 refine vC (Rf _ ⟨#[]⟩ vI) fun w2 A=>?_;rw[<-X.o];have O:=Hd (J.keeps A kI);have Z:=Hd (K.trans A);clear J K A;go_wp2_with fail
 refine vC (HS.o w2) fun w3 A=>?_;have a0:=O.o.keeps A kI;have a1:=Hd (Z.o.trans A);clear A O;go_wp2_with (refine Bv (vs:=Db.cells) rfl rfl rfl rfl a0 rfl Ab (Ai.one _) ?_;intro W8 a2 a3)
 refine bodyPost_ret (Od rfl rfl rfl (Pm W8 _ Db rfl a2)) rfl ?_
 exact⟨Db,rfl,rfl,a1.o.trans' a3 kJ⟩
theorem jx4(w:vW)(s:vB)(h:∀ w,vQ 160 #[s] w (DC w)):vQ 116 #[s] w (PH w):=by
 have HR:=Hd h;clear h;unfold vQ;go_in;go_wp2_with (refine Di Ac rfl rfl ?_;intro W1 q A)
 refine (HR.o W1).mono ?_;rintro e w2 ⟨m,X,rfl,Z⟩;have H:=q.keeps Z kI;have a0:=Hd (A.trans Z);have HL:=Hd (m.cells_len X);have HM:=Hd X;clear q A Z X;unfold Ai.V;go_wp2_with (first |(refine Di Ac rfl rfl ?_;intro W3 a1 J;refine Bv (vs:=m.cells) rfl rfl rfl rfl a1 (by rw[HL.o];rfl) (by rw[HL.o];exact Ab) m.one ?_;intro W4 a5 K;have O:=(H.keeps J kI).keeps K (kL H.lt)) |(refine Bv (vs:=Db.cells) rfl rfl rfl rfl O rfl Ab (Ai.one _) ?_;intro W8 a2 a3))
 refine bodyPost_ret (Od rfl rfl rfl (Pm W8 _ Db rfl a2)) rfl ?_;have a4:Af w2 W4:=J.trans' K kJ
 exact⟨rfl,(a0.o.trans a4).trans' a3 kJ⟩
theorem wK(w:vW)(s:vB)(hs:s.size < 32)(h:∀ w,vQ 116 #[s] w (PH w)):vR 144 #[s] w (.tuple #[Db.V,false]):=by
 have HR:=Hd h;have c1:¬(32:Int)<=(s.size:Int):=vO
 clear h;unfold vR vQ;go_in;go_wp2_with (refine Di Ac rfl rfl ?_;intro W1 q A)
 refine vC (HR.o W1) fun X Z=>?_;have H:=q.keeps Z kI;have a0:=Hd (A.trans Z);clear q A Z;unfold Ai.V;go_wp2_with (first |(refine Di Ac rfl rfl ?_;intro W3 a1 J;refine Bv (vs:=Db.cells) rfl rfl rfl rfl a1 rfl Ab Db.one ?_;intro W4 a2 K;have q0:W4.cell? X=some (.int .i64 0):=a2.cellL vF;have O:=(H.keeps J kI).keeps K (kL H.lt)) |(refine Bv (vs:=Db.cells) rfl rfl rfl rfl O rfl Ab (Ai.one _) ?_;intro W8 a3 a4))
 refine bodyPost_ret (Od rfl rfl rfl (Pm W8 _ Db rfl a3)) rfl ?_;have a5:Af X W4:=J.trans' K kJ
 exact⟨rfl,(a0.o.trans a5).trans' a4 kJ⟩
theorem jxQ:Dq ⟨#[]⟩=none:=by decide +kernel
theorem jtE:vQ 160 #[.string ⟨#[]⟩] w (DC w):=jtD w _ vI jxQ aT
theorem JQ:vR 144 #[.string ⟨#[]⟩] w (.tuple #[Db.V,false]):=
 wK w ⟨#[]⟩ vI fun w=>jx4 w _ jtE
theorem IY:vR 143 #[.string ⟨#[]⟩] w (.tuple #[.string ⟨#[]⟩,false]):=aY w
