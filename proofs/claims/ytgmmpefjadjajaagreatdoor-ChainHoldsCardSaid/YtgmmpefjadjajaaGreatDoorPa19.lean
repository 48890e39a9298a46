/- Lemmas. -/
import Derived.Test.YtgmmpefjadjajaaGreatDoorPa0
import Derived.Test.YtgmmpefjadjajaaGreatDoorPa18
import Derived.Stop.Asserts
namespace Go.Proofs.YtgmmpefjadjajaaGreatDoor
open Go.Proofs.Tryz
set_option linter.unusedSimpArgs false
set_option linter.unusedVariables false
set_option maxRecDepth 100000
set_option maxHeartbeats 16000000
open Go Go.RowKit
variable (T:vM)(k:Eo)(r q u u':vB)(vk:Nat->vV)(wr w0 W w:vW)(f c b:Nat)(ks:Nat->PA)(p:vB){room:Int}{s m i bg bm n:Nat}{Dk:Nat->Nat->Prop}{D D' E:Nat->Prop}{y x:Gk}{P:PA}{name pos:String}{t a:vB}{l xs:vL}{F U:vM}{A S G S1 L B:vT}{v:vV}{W' w' W1 w5 w4:vW}
def Ow(P:PA)(d:Br):PA:=if d.gone then Ht P (Bw d.key)else Ds P (Bw d.key) d.value
def DH(q:vN)(o:Option vB)(c:Br):Option vB:=if q=(Bw c.key).data.toList then c.o else o
theorem rH(hP:P=.no\/Dl P){c:Br}(hc:c.bad=false):(Ow P c=.no\/Dl (Ow P c))/\∀ q,Bb (Ow P c) q=DH q (Bb P q) c:=by
 have A:=BO c.key;unfold Ow DH Br.o;cases hg:c.gone with
 |true =>(rw[if_pos rfl,if_pos rfl];rcases hP with rfl|hP;{refine⟨.inl rfl,λq=>?_⟩;(show none=if q=_ then none else none);split<;>rfl};exact WP P hP _ A)
 |false =>(rw[if_neg ff,if_neg ff];have H:c.value.size≠0:=by unfold Br.bad at hc;rw[hg]at hc;simp only[Bool.false_and,Bool.or_false,Bool.not_false,Bool.true_and,gT,Bool.not_eq_false']at hc;have K:=hc.2;unfold Xt at K;have:=of_decide_eq_true K;omega);(have e:Dl P\/P=.no\/P=.nil:=by rcases hP with h|h;{exact .inr (.inl h)};exact .inl h);exact⟨.inr (WA P e _ _ A H),WV P e _ _ H⟩
theorem rD:∀ (cs:List Br) (P:PA),(P=.no\/Dl P)->cs.any Br.bad=false->(cs.foldl Ow P=.no\/Dl (cs.foldl Ow P))/\∀ q,Bb (cs.foldl Ow P) q=cs.foldl (DH q) (Bb P q)
 |[],P,hP,_=>⟨hP,λ_=>rfl⟩
 |c::cs,P,hP,hb=>by
  rw[List.any_cons,gT]at hb
  obtain⟨e,A⟩:=rH hP hb.1
  obtain⟨H,K⟩:=rD cs _ e hb.2
  refine⟨H,λq=>?_⟩
  rw[dQ,K,A,dQ]
theorem v7{b:vB}(h:Bw a=Bw b):a=b:=by rw[<-TT a,h,TT]
theorem j2(k:vB):DH (Bw k).data.toList=DG k.data.toList:=by
 funext o c
 unfold DH DG Br.o
 by_cases e:k.data.toList=c.key.data.toList
 ·rw[if_pos e,if_pos (by rw[Rq e])]
 ·rw[if_neg e,if_neg λh=>e (by rw[v7 (Rq h)])]
theorem eG{q:vN}(h:∀ k,q≠(Bw k).data.toList)(o:Option vB):∀ cs:List Br,cs.foldl (DH q) o=o
 |[]=>rfl
 |c::cs=>by
  have e:DH q o c=o:=by unfold DH;rw[if_neg (h c.key)]
  rw[dQ,e,eG h o cs]
theorem VQ(k:vB):∀ l:vL,Dt l k=look l k.data.toList
 |[]=>rfl
 |q::r=>by
  rw[GL];show (if q.1=k then some q.2 else Dt r k)=_
  by_cases e:q.1=k
  ·rw[if_pos e,if_pos (by rw[<-e])]
  ·rw[if_neg e,if_neg λh=>e (Rq h.symm),VQ k r]
theorem mP(h:Ep 12 l):Dj 13 l=.no\/Dl (Dj 13 l):=by
 by_cases h0:l.length=0
 ·exact .inl (Tw _ h0)
 ·exact .inr (mO 12 l h λe=>h0 (by rw[e];rfl)).1
theorem G0{m:vL}(hl:Em l=0)(hm:Em m=0){cs:List Br}(h:DJ l m cs):cs.foldl Ow (Dj 13 (Cq l))=Dj 13 (Cq m):=by
 have A:=Nn (Ge hl);have K:=Nn (Ge hm)
 obtain⟨O,X⟩:=rD cs _ (mP A) h.fine
 refine v6 K O λp Z=>?_;rw[X,VB 12 _ A p Z]
 by_cases hk:∃ k,p=Bw k
 ·obtain⟨k,rfl⟩:=hk;rw[j2,pF,pF,VQ,VQ];exact h.looks k.data.toList
 ·have hn:∀ k,p.data.toList≠(Bw k).data.toList:=λk e=>hk ⟨k,Rq e⟩;(have H:∀ r:vL,Dt (Cq r) p=none:=λr=>KP λq hq e=>by obtain⟨x,_,rfl⟩:=bC.1 hq;exact hk ⟨x.1,e.symm⟩);rw[eG hn,H,H]
def Dp:PA->Nat->Prop
 |.nil,_=>True
 |.no,_=>True
 |.leaf q _,n=>q.size<=n
 |.ext q m,n=>q.size<=n/\Dp m (n-q.size)
 |.br _ ks,n=>∀ i,(ks i).isNil=false->1<=n/\Dp (ks i) (n-1)
theorem Tl:∀ (P:PA) (n m:Nat),Dp P n->n<=m->Dp P m
 |.nil,_,_,_,_=>trivial
 |.no,_,_,_,_=>trivial
 |.leaf q _,n,m,h,k=>bH (show q.size<=n from h) k
 |.ext q x,n,m,h,k=>⟨bH h.1 k,Tl x _ _ h.2 vO⟩
 |.br _ ks,n,m,h,k=>λi e=>⟨bH (h i e).1 k,Tl (ks i) _ _ (h i e).2 vO⟩
theorem EN(h:Dp P (n-a.size))(ha:a.size<=n):Dp (Jq a P) n:=by
 unfold Jq
 by_cases h0:a.size=0
 ·rw[if_pos h0];exact Tl P _ _ h vO
 rw[if_neg h0];cases P with
 |nil=>trivial
 |no=>trivial
 |leaf q v =>have h:q.size<=n-a.size:=h;show (a++q).size<=n;rw[Zy];omega
 |ext q m =>have e:=h.1;refine⟨by rw[Zy];omega,?_⟩;rw[Zy];exact Tl m _ _ h.2 vO
 |br v ks=>exact⟨ha,h⟩
theorem EU{v:vB}{ks:Nat->PA}(h:Dp (.br v ks) n)(h1:1<=n)(hP:Dp P (n-1))(u:vB):Dp (.br u (Cd ks i P)) n:=by
 intro j q
 by_cases e:j=i
 ·rw[e,Yt];exact⟨h1,hP⟩
 ·rw[BU _ _ e]at q ⊢;exact h j q
theorem FA{v:vB}{ks:Nat->PA}(h:Dp (.br v ks) n){p:vB}(hp:p.size<=n)(u:vB):Dp (Hy (.br v ks) p u) n:=by
 rw[Vo]
 by_cases h0:p.size=0
 ·rw[if_pos h0];exact h
 ·rw[if_neg h0];refine EU h vO ?_ v;show (Fw p).size<=n-1;unfold Fw;rw[Jw];omega
theorem NZ(v:vB)(n:Nat):Dp (.br v λ_=>.nil) n:=λi e=>by cases e
theorem KD(a b:vB):Dg a b<=a.size/\Dg a b<=b.size:=by
 have:=BE a.data.toList b.data.toList
 unfold Dg;rw[<-Ja, <-Ja];exact this.2
theorem PS:∀ (P:PA) (n:Nat) (p u:vB),Dp P n->p.size<=n->Dp (Ds P p u) n
 |.nil,_,p,u,_,hp=>hp
 |.no,_,p,u,_,hp=>hp
 |.leaf q v,n,p,u,h,hp=>by
  have h:q.size<=n:=h
  obtain⟨K,O⟩:=KD q p
  unfold Ds
  by_cases e:p=q
  ·rw[if_pos e];exact hp
  rw[if_neg e];have H:(p.extract 0 (Dg q p)).size=Dg q p:=by rw[dI];omega
  refine EN ?_ vO;rw[H];have A:=FA (NZ () (n-Dg q p)) (p:=q.extract (Dg q p) q.size) (by rw[Jw];omega) v;rw[Vo]at A ⊢
  by_cases h0:(q.extract (Dg q p) q.size).size=0
  ·rw[if_pos h0]at A ⊢
   exact FA A (by rw[Jw];omega) u
  ·rw[if_neg h0]at A ⊢
   exact FA A (by rw[Jw];omega) u
 |.ext q x,n,p,u,h,hp=>by
  obtain⟨K,O⟩:=KD q p
  unfold Ds
  by_cases e:Dg q p=q.size
  ·rw[if_pos e]
   refine EN (PS x _ _ u h.2 ?_) h.1;rw[Jw];omega
  ·rw[if_neg e]
   have H:(p.extract 0 (Dg q p)).size=Dg q p:=by rw[dI];omega
   refine EN ?_ vO;rw[H];have X:=h.1;refine FA (EU (NZ () _) vO (EN ?_ ?_) _) (by rw[Jw];omega) u
   ·rw[Jw]
    exact Tl x _ _ h.2 vO
   ·rw[Jw];omega
 |.br v ks,n,p,u,h,hp=>by
  unfold Ds
  by_cases h0:p.size=0
  ·rw[if_pos h0];exact h
  ·rw[if_neg h0]
   refine EU h vO (PS (ks (Az p)) (n-1) _ u ?_ ?_) v
   ·cases hn:(ks (Az p)).isNil with
    |true=>rw[Qk hn];trivial
    |false=>exact (h _ hn).2
   ·unfold Fw;rw[Jw];omega
theorem oC{v:vB}{ks:Nat->PA}(h:Dp (.br v ks) n):Dp (Tz v ks) n:=by
 have q:∀ i∈Gx ks,(ks i).isNil=false:=λi A=>by have:=(cE.1 A).2;simpa using this
 unfold Tz;cases e:Gx ks with
 |nil =>show Dp (if v.size=0 then PA.no else .leaf () v) n;by_cases h0:v.size=0;{rw[if_pos h0];trivial};rw[if_neg h0];exact cD n
 |cons i r =>cases r with| nil =>show Dp (if v.size=0 then Jq ⟨#[UInt8.ofNat i]⟩ (ks i)else .br v ks) n;by_cases h0:v.size=0;{rw[if_pos h0];obtain⟨H,K⟩:=h i (q i (by rw[e];exact bN));exact EN K H};rw[if_neg h0];exact h| cons j r=>exact h
theorem LD:∀ (P:PA) (n:Nat) (p:vB),Dp P n->Dp (Ht P p) n
 |.nil,_,_,_=>trivial
 |.no,_,_,_=>trivial
 |.leaf q v,n,p,h=>by
  unfold Ht
  by_cases e:p=q
  ·rw[if_pos e];trivial
  ·rw[if_neg e];exact h
 |.ext q x,n,p,h=>by
  unfold Ht;cases Ff q p with
  |false=>rw[if_neg ff];exact h
  |true=>rw[if_pos rfl];exact EN (LD x _ _ h.2) h.1
 |.br v ks,n,p,h=>by
  unfold Ht
  by_cases h0:p.size=0
  ·rw[if_pos h0];exact oC h
  ·rw[if_neg h0]
   cases hn:(ks (Az p)).isNil with
   |true=>rw[if_pos rfl];exact h
   |false =>
    rw[if_neg ff]
    obtain⟨A,H⟩:=h _ hn
    refine oC (EU h A ?_ v)
    have:=LD (ks (Az p)) (n-1) (Fw p) H
    unfold Vj;cases (Ht (ks (Az p)) (Fw p)).isNo with
    |true=>rw[if_pos rfl];trivial
    |false=>rw[if_neg ff];exact this
theorem rX:∀ (f:Nat) (l:vL) (k:Nat),Ep f l->Ep k l->Dp (Dj (f+1) l) k:=by
 intro f;have K:∀ (f:Nat) (l:vL) (k:Nat),Ep k l->l.length=1->Dp (Dj (f+1) l) k:=by intro f l k h X;rw[Uw _ X];exact (h.size _ (CY (l:=l) vO)).1
 induction f with
 |zero =>intro l k h Z;have hl:=Vt h;by_cases h0:l.length=0;{rw[Tw _ h0];trivial};exact K 0 l k Z vO
 |succ f ih =>intro l k h H;by_cases h0:l.length=0;{rw[Tw _ h0];trivial};by_cases X:l.length=1;{exact K _ l k H X};have O:2<=l.length:=vO;by_cases Z:0<Ak l;{have hm:=CY (l:=l) vO;have hh:=EE h O;have A:=Rn h O;have a0:=(A _ hm).2;have a1:=(H.size _ hm).1;rw[BQ _ O Z];refine⟨by rw[hh];omega,?_⟩;rw[hh];exact ih _ _ (ET h O Z).1 (Ys (Ak l) H (λp hp q hq=>(A p hp).1.trans (A q hq).1.symm) λp hp=>(A p hp).2)};rw[BZ _ O Z];intro i hi;have hi:(if (Ah i l).length=0 then PA.nil else Dj (f+1) (Ba 1 (Ah i l))).isNil=false:=hi;show 1<=k/\Dp (if (Ah i l).length=0 then PA.nil else Dj (f+1) (Ba 1 (Ah i l))) (k-1);by_cases hc:(Ah i l).length=0;{rw[if_pos hc]at hi;cases hi};rw[if_neg hc];refine⟨?_,ih _ _ (CB h hc).1 (Yy i H)⟩;cases e:Ah i l with| nil=>rw[e]at hc;exact (hc rfl).elim| cons p r =>obtain⟨hp,a,t,X,O⟩:=Uv (show p∈Ah i l by rw[e];exact bN);have:=(H.size p hp).1;(have h3:p.1.size=(a::t).length:=by rw[<-Ja];exact congrArg List.length X);rw[bQ]at h3;omega
section
attribute [local go_sem] Oper.semAt_some
def Mr:vV:=.iface 389 (.agg #[])
def AM(b:Nat):vV:=.iface 378 b
def Nl(b:Nat):vV:=.iface 381 b
def Gr(b:Nat):vV:=.iface 384 b
def Uu(u:vB)(vk:Nat->vV):List vV:=.string u ::(List.range 16).map vk
def Cc:PA->vV->(Nat->Prop)->vW->Prop
 |.nil,v,_,_=>v=.nilIface
 |.no,v,_,_=>v=Mr
 |.leaf q u,v,D,W=>∃ b,v=AM b/\D b/\Ae W b (.cells #[q,u] 380)
 |.ext q n,v,D,W=>∃ b T x Dn,v=Nl b/\D b/\Ae W b (.cells #[q,.iface T x] 383)/\Cc n (.iface T x) Dn W/\¬ Dn b/\∀ x,Dn x->D x
 |.br u ks,v,D,W=>∃ (b:Nat) (vk:Nat->vV) (Dk:Nat->Nat->Prop),v=Gr b/\D b/\Ae W b (.cells (Uu u vk).toArray 387) /\
   (∀ i,i<16->Cc (ks i) (vk i) (Dk i) W/\¬ Dk i b/\∀ x,Dk i x->D x)/\∀ i j,i<16->j<16->i≠j->∀ x,Dk i x->¬ Dk j x
theorem Cc.Z{F:Bd}{W W':vW}(k:Ad F W W'):∀ (P:PA) (v:vV) (D:Nat->Prop),Cc P v D W->(∀ x,D x->¬ F x)->Cc P v D W'
 |.nil,_,_,h,_=>h
 |.no,_,_,h,_=>h
 |.leaf _ _,_,_,⟨b,h1,h2,h3⟩,hF=>⟨b,h1,h2,h3.Z k (hF b h2)⟩
 |.ext _ n,_,_,⟨b,T,x,Dn,h1,h2,h3,h4,h5,h6⟩,hF=>⟨b,T,x,Dn,h1,h2,h3.Z k (hF b h2),Cc.Z k n (.iface T x) Dn h4 λx e=>hF x (h6 x e),h5,h6⟩
 |.br _ ks,_,_,⟨b,vk,Dk,h1,h2,h3,h4,h5⟩,hF=>⟨b,vk,Dk,h1,h2,h3.Z k (hF b h2),λi q=>⟨Cc.Z k (ks i) (vk i) (Dk i) (h4 i q).1 λx e=>hF x ((h4 i q).2.2 x e),(h4 i q).2⟩,h5⟩
theorem Cc.mono{W:vW}(hD:∀ x,D x->D' x):∀ {P:PA} {v:vV},Cc P v D W->Cc P v D' W
 |.nil,_,h=>h
 |.no,_,h=>h
 |.leaf _ _,_,⟨b,h1,h2,h3⟩=>⟨b,h1,hD b h2,h3⟩
 |.ext _ n,_,⟨b,T,x,Dn,h1,h2,h3,h4,h5,h6⟩=>⟨b,T,x,Dn,h1,hD b h2,h3,h4,h5,λx e=>hD x (h6 x e)⟩
 |.br _ ks,_,⟨b,vk,Dk,h1,h2,h3,h4,h5⟩=>⟨b,vk,Dk,h1,hD b h2,h3,λi q=>⟨(h4 i q).1,(h4 i q).2.1,λx e=>hD x ((h4 i q).2.2 x e)⟩,h5⟩
theorem Cc.form{W:vW}(h:Cc P v D W)(hn:P.isNil=false):∃ T x,v=.iface T x:=by
 cases P with
 |nil=>cases hn
 |no=>exact⟨_,_,h⟩
 |leaf q u=>obtain⟨b,h,_⟩:=h;exact⟨_,_,h⟩
 |ext q n=>obtain⟨b,T,x,e,h,_⟩:=h;exact⟨_,_,h⟩
 |br u ks=>obtain⟨b,A,H,h,_⟩:=h;exact⟨_,_,h⟩
structure Hq(P:PA)(v:Value)(D:Nat->Prop)(W:World):Prop where
 at':Cc P v D W
 lt:∀ x,D x->x<(W:Nat)
theorem Hq.Z{F:Bd}{W:vW}(h:Hq P v D W)(k:Ad F W W')(hF:∀ x,D x->¬ F x):Hq P v D W':=
 ⟨h.at'.Z k P v D hF,λx e=>bE (h.lt x e) k.size⟩
theorem Hq.ext{W:vW}(h:Hq P v D W)(k:Af W W'):Hq P v D W':=h.Z k λ_ _ e=>e
def Du(D:Nat->Prop)(W W':vW):Nat->Prop:=λx=>D x\/((W:Nat)<=x/\x<(W':Nat))
theorem BY{W:vW}{F:Bd}(h:∀ x,D x->x<(W:Nat))(k:Ad F W W'):∀ x,Du D W W' x->x<(W':Nat)
 |x,.inl hx=>bE (h x hx) k.size
 |x,.inr hx=>hx.2
def Bk(D:Nat->Prop)(W:vW)(P:PA)(e:Ending)(w':vW):Prop:=∃ v,e=.returned v/\Cc P v (Du D W w') w'/\Ad D W w'
theorem Bk.own{W:vW}(h:Cc P v (Du D W w') w')(k:Ad D W w')(hl:∀ x,D x->x<(W:Nat)):Hq P v (Du D W w') w':=⟨h,BY hl k⟩
def Me(D:Nat->Prop)(W:vW)(P:PA)(e:Ending)(w':vW):Prop:=∃ v,e=.returned v/\Cc P v (Du D W w') w'/\Af W w'
theorem T6(w:vW):(Instr.typeAssert (AM b) 250 378 true).run prog w=.ok (.tuple #[b,true]) w:=vY
theorem WY(v:vV)(h:(∃ b,v=Nl b)\/(∃ b,v=Gr b)\/v=Mr)(w:vW):(Instr.typeAssert v 250 378 true).run prog w=.ok (.tuple #[.pointer none,false]) w:=by
 rcases h with⟨b,rfl⟩|⟨b,rfl⟩|rfl<;>kernel_rfl
theorem xI(w:vW):(Instr.typeAssert (Nl b) 250 381 true).run prog w=.ok (.tuple #[b,true]) w:=vY
theorem sS(v:vV)(h:(∃ b,v=Gr b)\/v=Mr)(w:vW):(Instr.typeAssert v 250 381 true).run prog w=.ok (.tuple #[.pointer none,false]) w:=by
 rcases h with⟨b,rfl⟩|rfl<;>kernel_rfl
theorem xK(w:vW):(Instr.typeAssert (Gr b) 250 384 true).run prog w=.ok (.tuple #[b,true]) w:=vY
theorem xL:(Instr.typeAssert Mr 250 384 true).run prog w=.ok (.tuple #[.pointer none,false]) w:=vY
end
section
section mixz
variable {P:Program} {l:List Oper} {E D:vW->vW->Prop}
def Oq(P:Program)(ops:Array Oper)(z:Nat)(hd:List Nat)(E D:vW->vW->Prop)(Q:Act->vW->Prop):Nat->Array Bool->Act->vW->Prop
 |0,listed,a,w=>listed.getD z true=true/\Region.ready .any ops listed=[]/\Q a w
 |fuel+1,listed,a,w=>∀ w1,(listed.getD z true=false->E w w1)->(listed.getD z true=true->w1=w) ->
  (Region.ready .any ops listed=[]->Q a w1) /\
  ∀ i∈Region.ready .any ops listed,wpOp P ops Mv i (λa' w'=>(listed.getD z true=false->i≠z->D w1 w'/\(i ∉ hd->E w1 w'))/\(listed.getD z true=true->w'=w1)/\Oq P ops z hd E D Q fuel (listed.setIfInBounds i true) a' w') a w1
theorem pX(hT:∀ x y z,E x y->E y z->E x z){ops:Array Oper}{z:Nat}{hd:List Nat}{Q:Act->vW->Prop}:∀ (fuel:Nat) (listed:Array Bool) (a:Act) (w w1:vW),listed.getD z true=false->Oq P ops z hd E D Q fuel listed a w->E w w1->Oq P ops z hd E D Q fuel listed a w1
 |0,_,_,_,_,hz,h,_=>by have:=h.1;rw[hz]at this;cases this
 |_+1,_,_,_,_,hz,h,he=>λq A H=>h q (λe=>hT _ _ _ he (A e)) (λe=>absurd e (by rw[hz];decide))
theorem eU(hE:∀ w,E w w){ops:Array Oper}{z:Nat}{hd:List Nat}{Q:Act->vW->Prop}{Q':Exit->Act->vW->Prop}(hQ:∀ a w,Q a w->Q' .normal a w):∀ (fuel:Nat) (listed:Array Bool) (a:Act) (w:vW),Oq P ops z hd E D Q fuel listed a w->wpAny P .any ops Q' fuel listed a w
 |0,_,_,w,h=>⟨h.2.1,hQ _ _ h.2.2⟩
 |fuel+1,_,_,w,h=>let ⟨h1,h2⟩:=h w (λ_=>hE w) (λ_=>rfl)
  ⟨λe=>hQ _ _ (h1 e),λi q=>OS (λA w' ⟨_,_,H⟩=>eU hE hQ fuel _ A w' H) (h2 i q)⟩
def FF(ops:Array Oper)(z i:Nat):Bool:=match ops[z]? with|some o=>o.after.toList.any λe=>Region.binds .any e&&e.on == i|none=>false
theorem J3{ops:Array Oper}{z i:Nat}{listed:Array Bool}(he:FF ops z i=true)(hi:i∈Region.ready .any ops listed):z ∉ Region.ready .any ops listed:=by
 intro Z;unfold FF at he
 obtain⟨a0,oz,H,q⟩:=mem_ready.1 Z
 rw[H]at he
 obtain⟨e,K,O⟩:=iN.1 he
 rw[cI,beq_iff_eq]at O;have A:=q e (by simpa using K) O.1;have X:=(mem_ready.1 hi).1;rw[O.2]at A;rcases fH i listed.size with h'|h'
 ·simp[h']at X A;rw[X]at A;cases A
 ·simp[gL h']at A
theorem d6(hE:∀ w,E w w)(hT:∀ x y z,E x y->E y z->E x z)(hD:∀ x y z,D x y->D y z->D x z)(hED:∀ x y,E x y->D x y){ops:Array Oper}{z:Nat}{hd:List Nat}{Q:Act->vW->Prop}{i:Nat}{oi:Oper}{v:vV}(hiz:i≠z)(he0:FF ops z i=true)(hi:ops[i]?=some oi)(hsel:∀ (j:Nat) (o:Oper) cs b,ops[j]?=some o->o.op≠.select cs b):∀ (A:Nat) (q:Array Bool) (a:Act) (w:vW),q.getD z true=false ->
   (∀ j oj,ops[j]?=some oj->j≠i->q.getD j true=false->(∀ e∈oj.after,Region.binds .any e=true->e.on≠i)->oi.apart ops oj=true) ->
   i∈Region.ready .any ops q->Sg P ops E D w oi v a ->
   Oq P ops z hd E D Q A (q.setIfInBounds i true) (a.put oi.dst v) w->Oq P ops z hd E D Q (A+1) q a w:=by
 intro A;induction A with
 |zero =>intro q a w hz _ hr hy H;have:=H.1;rw[getD_set_ne true hiz,hz]at this;cases this
 |succ A ih =>(intro q a w hz K hr hy H w1 a9 _;have he:=a9 hz;have a0:(q.setIfInBounds i true).getD z true=false:=by rw[getD_set_ne true hiz,hz]);refine⟨λh=>(by rw[h]at hr;cases hr),λj hj=>?_⟩;by_cases hji:j=i;{subst hji;exact hy.wpOp hi (hED _ _ he) hE (λw' O=>⟨λ_ _=>⟨hED _ _ O,λ_=>O⟩,λe=>absurd e (by rw[hz];decide),pX hT _ _ _ _ _ a0 H (hT _ _ _ he O)⟩)};have a7:j≠z:=λe=>J3 he0 hr (e ▸ hj);have O:=(H w1 (λ_=>he) λe=>by rw[a0]at e;cases e).2 j (ready_mono hj hji);obtain⟨Z,oj,a3,a4⟩:=mem_ready.1 hj;(have a5:∀ e∈oj.after,Region.binds .any e=true->e.on≠i:=λe he hb b0=>by have O:=a4 e he hb;have h0:=(mem_ready.1 hr).1;rw[b0]at O;rcases fH i q.size with h'|h';{simp[h']at h0 O;rw[h0]at O;cases O};simp[gL h']at O);have h2:=KB (v:=v) (Y:=λa'=>execOp a'.eval oi=execOp a.eval oi/\Region.wanted oi (yielded ops a'.tmps)=Region.wanted oi (yielded ops a.tmps)) a3 (K j oj a3 hji Z a5) (λcs b=>hsel i oi cs b hi) (λcs b=>hsel j oj cs b a3) (λa1 a2 h e1 e2=>⟨e1.trans h.1,e2.trans h.2⟩) ⟨rfl,rfl⟩ O;(have X:∀ k ok,ops[k]?=some ok->k≠i->(q.setIfInBounds j true).getD k true=false ->(∀ e∈ok.after,Region.binds .any e=true->e.on≠i)->oi.apart ops ok=true:=λk ok hk b1 a8 b2=>by refine K k ok hk b1 ?_ b2;by_cases hjk:j=k;{subst hjk;exact Z};rw[getD_set_ne true hjk]at a8;exact a8);refine wpOp_mono (λa' w' h3=>?_) h2;obtain⟨⟨e1,e2⟩,h4,_,h5⟩:=h3;have h4:=h4 a0 a7;refine⟨λ_ _=>h4,λe=>absurd e (by rw[hz];decide),?_⟩;have b3:Sg P ops E D w' oi v a':=(hy.of_same e1 e2).st hD (hD _ _ _ (hED _ _ he) h4.1);refine ih (q.setIfInBounds j true) a' w' (by rw[getD_set_ne true a7,hz]) X (ready_mono hr (Ne.symm hji)) b3 ?_;rw[iA _ _ hji];exact h5
def GW(P:Program)(ops:Array Oper)(o:Oper)(v:vV)(a:Act):Prop:=
 (Region.wanted o (yielded ops a.tmps)=true/\∀ w1,FD P (λx y=>y=x) w1 v ((execOp a.eval o).run P w1))\/(Region.wanted o (yielded ops a.tmps)=false/\v=undef)
theorem GW.wpOp{ops:Array Oper}{i:Nat}{o:Oper}{v:vV}{a:Act}(hi:ops[i]?=some o)(hy:GW P ops o v a){K:Act->vW->Prop}{w1:vW}
  (h:K (a.put o.dst v) w1):wpOp P ops Mv i K a w1:=by
 have q:Qc P ops (λx y=>y=x) w1 o v a:=by rcases hy with⟨h1,h2⟩|h1;{exact .inl ⟨h1,λw1 _=>h2 w1⟩};exact .inr h1
 exact q.wpOp hi (Eq.refl w1) (λ_=>rfl) (λw' e=>by have e:w'=w1:=e;rw[e];exact h)
theorem B3(hE:∀ w,E w w)(hT:∀ x y z,E x y->E y z->E x z)(hED:∀ x y,E x y->D x y){ops:Array Oper}{z:Nat}{hd:List Nat}{Q:Act->vW->Prop}{i:Nat}{oi:Oper}{v:vV}(hiz:i≠z)(hi:ops[i]?=some oi)(hsel:∀ (j:Nat) (o:Oper) cs b,ops[j]?=some o->o.op≠.select cs b):∀ (A:Nat) (q:Array Bool) (a:Act) (w:vW),
   (∀ j oj,ops[j]?=some oj->j≠i->q.getD j true=false->(∀ e∈oj.after,Region.binds .any e=true->e.on≠i)->oi.apart ops oj=true) ->
   i∈Region.ready .any ops q->GW P ops oi v a ->
   Oq P ops z hd E D Q A (q.setIfInBounds i true) (a.put oi.dst v) w->Oq P ops z hd E D Q (A+1) q a w:=by
 intro A;have a3:∀ (A:Nat) (q:Array Bool) (a:Act) (w w1:vW),(q.getD z true=false->E w w1)->(q.getD z true=true->w1=w) ->Oq P ops z hd E D Q A (q.setIfInBounds i true) (a.put oi.dst v) w->Oq P ops z hd E D Q A (q.setIfInBounds i true) (a.put oi.dst v) w1:=by intro A q a w w1 O h2 H;cases hz:q.getD z true with| true=>rw[h2 hz];exact H| false=>exact pX hT _ _ _ _ _ (by rw[getD_set_ne true hiz,hz]) H (O hz)
 induction A with
 |zero =>(intro q a w K hr hy H w1 X Z;have hz:q.getD z true=true:=by have:=H.1;rwa [getD_set_ne true hiz]at this);refine⟨λh=>(by rw[h]at hr;cases hr),λj hj=>?_⟩;by_cases hji:j=i;{subst hji;exact hy.wpOp hi ⟨λ_ _=>⟨hED _ _ (hE w1),λ_=>hE w1⟩,λ_=>rfl,a3 0 q a w w1 X Z H⟩};have:=ready_mono hj hji;rw[H.2.1]at this;cases this
 |succ A ih =>intro q a w K hr hy H w1 X Z;refine⟨λh=>(by rw[h]at hr;cases hr),λj hj=>?_⟩;by_cases hji:j=i;{subst hji;exact hy.wpOp hi ⟨λ_ _=>⟨hED _ _ (hE w1),λ_=>hE w1⟩,λ_=>rfl,a3 _ q a w w1 X Z H⟩};have a5:(q.setIfInBounds i true).getD z true=q.getD z true:=getD_set_ne true hiz;have O:=(H w1 (λe=>X (a5 ▸ e)) λe=>Z (a5 ▸ e)).2 j (ready_mono hj hji);obtain⟨a4,oj,a7,a8⟩:=mem_ready.1 hj;(have a9:∀ e∈oj.after,Region.binds .any e=true->e.on≠i:=λe he hb b2=>by have O:=a8 e he hb;have h0:=(mem_ready.1 hr).1;rw[b2]at O;rcases fH i q.size with h'|h';{simp[h']at h0 O;rw[h0]at O;cases O};simp[gL h']at O);have h2:=KB (v:=v) (Y:=λa'=>execOp a'.eval oi=execOp a.eval oi/\Region.wanted oi (yielded ops a'.tmps)=Region.wanted oi (yielded ops a.tmps)) a7 (K j oj a7 hji a4 a9) (λcs b=>hsel i oi cs b hi) (λcs b=>hsel j oj cs b a7) (λa1 a2 h e1 e2=>⟨e1.trans h.1,e2.trans h.2⟩) ⟨rfl,rfl⟩ O;(have a0:∀ k ok,ops[k]?=some ok->k≠i->(q.setIfInBounds j true).getD k true=false ->(∀ e∈ok.after,Region.binds .any e=true->e.on≠i)->oi.apart ops ok=true:=λk ok hk b3 b0 b4=>by refine K k ok hk b3 ?_ b4;by_cases hjk:j=k;{subst hjk;exact a4};rw[getD_set_ne true hjk]at b0;exact b0);refine wpOp_mono (λa' w' h3=>?_) h2;obtain⟨⟨e1,e2⟩,h4,b1,h5⟩:=h3;rw[a5]at h4 b1;refine⟨h4,b1,?_⟩;(have b5:GW P ops oi v a':=by unfold GW at *;rw[e1,e2];exact hy);refine ih (q.setIfInBounds j true) a' w' a0 (ready_mono hr (Ne.symm hji)) b5 ?_;rw[iA _ _ hji];exact h5
def Ic(P:Program)(l:List Oper)(z:Nat)(hd:List Nat)(E D:vW->vW->Prop)(Q:Act->vW->Prop):List Nat->List Nat->Act->vW->Prop
 |[],done,a,w=>Region.ready .any l.toArray (Ec l done)=[z]/\(Ec l done).getD z true=false/\(Ec l (z::done)).getD z true=true/\Region.ready .any l.toArray (Ec l (z::done))=[]/\∀ w1,E w w1->wpOp P l.toArray Mv z Q a w1
 |k::ord,done,a,w=>(Ec l done).getD z true=false/\k≠z /\
  ((k∈Region.ready .any l.toArray (Ec l done)/\Region.free .any l.toArray (Ec l done) k=true/\∃ o v,l[k]?=some o/\((FF l.toArray z k=true/\Sg P l.toArray E D w o v a)\/GW P l.toArray o v a)/\Ic P l z hd E D Q ord (k::done) (a.put o.dst v) w) \/
  (Region.ready .any l.toArray (Ec l done)=[k]/\k∈hd/\∀ w1,E w w1->wpOp P l.toArray Mv k (λa' w'=>D w1 w'/\Ic P l z hd E D Q ord (k::done) a' w') a w1))
theorem MT(hE:∀ w,E w w)(hT:∀ x y z,E x y->E y z->E x z)(hD:∀ x y z,D x y->D y z->D x z)(hED:∀ x y,E x y->D x y)(hs:Region.noSelect l.toArray=true){z:Nat}{hd:List Nat}{Q:Act->vW->Prop}:∀ (ord:List Nat) (done:List Nat) (a:Act) (w:vW),
  Ic P l z hd E D Q ord done a w->Oq P l.toArray z hd E D Q (ord.length+1) (Ec l done) a w
 |[],done,a,w,⟨h1,hz,hz2,O,h3⟩=>λw1 A _=>by
  refine⟨λH=>(by rw[h1]at H;cases H),λi K=>?_⟩
  rw[h1]at K;obtain rfl:i=z:=by simpa using K
  exact wpOp_mono (λX w' h=>⟨λ_ e=>absurd rfl e,λe=>absurd e (by rw[hz];decide),hz2,O,h⟩) (h3 w1 (A hz))
 |k::ord,done,a,w,⟨hz,hkz,h⟩=>by
  rcases h with⟨hr,hf,o,v,ho,hy,h⟩|⟨hr,hkd,h⟩
  ·have q:l.toArray[k]?=some o:=by simpa using ho
   rcases hy with⟨A,hy⟩|hy
   ·exact d6 hE hT hD hED hkz A q (gQ hs) (ord.length+1) (Ec l done) a w hz (iL q hf) hr hy (MT hE hT hD hED hs ord _ _ _ h)
   ·exact B3 hE hT hED hkz q (gQ hs) (ord.length+1) (Ec l done) a w (iL q hf) hr hy (MT hE hT hD hED hs ord _ _ _ h)
  ·intro w1 A _
   refine⟨λH=>(by rw[hr]at H;cases H),λi K=>?_⟩
   rw[hr]at K;obtain rfl:i=k:=by simpa using K
   exact wpOp_mono (λX w' O=>⟨λ_ _=>⟨O.1,λZ=>absurd hkd Z⟩,λe=>absurd e (by rw[hz];decide),MT hE hT hD hED hs ord _ _ _ O.2⟩) (h w1 (A hz))
theorem BF(ord:List Nat)(z:Nat)(hd:List Nat)(E D:vW->vW->Prop)(hE:∀ w,E w w)(hT:∀ x y z,E x y->E y z->E x z)(hD:∀ x y z,D x y->D y z->D x z)(hED:∀ x y,E x y->D x y){id:Nat}{Q:Exit->Act->vW->Prop}{a:Act}{w:vW}
  (hm:P.follows .mixedOrders=true) (hs:Region.noSelect l.toArray=true) (hl:ord.length+1=l.toArray.size)
  (h:Ic P l z hd E D (λa w=>Q .normal a w) ord [] a w.drew):(Code.region id l.toArray true).wp P Q a w:=by
 refine wp_region_any hm ?_;rw[<-hl]
 have:=MT hE hT hD hED hs ord _ _ _ h
 unfold Ec at this;rw[hl]at this ⊢;exact eU hE (λ_ _ h=>h) _ _ _ _ this
variable {Q:Act->vW->Prop} {ord done hd:List Nat} {a:Act} {w:vW} {k z:Nat} {o:Oper}
def DF(l:List Oper)(z:Nat)(done:List Nat)(k:Nat):Bool:=(Region.ready .any l.toArray (Ec l done)).contains k&&Region.free .any l.toArray (Ec l done) k&&(Ec l done).getD z true == false&&k != z
theorem TQ(h:DF l z done k=true):(k∈Region.ready .any l.toArray (Ec l done)/\Region.free .any l.toArray (Ec l done) k=true)/\(Ec l done).getD z true=false/\k≠z:=by
 simp only[DF,cI,cM,beq_iff_eq,bne_iff_ne]at h
 exact⟨h.1.1,h.1.2,h.2⟩
theorem y7(o:Oper)(ho:l[k]?=some o)(hk:DF l z done k=true)(hw:Region.wanted o (yielded l.toArray a.tmps)=true)(hq:EV o.op=true)
  (h:∀ K:Act->Prop,(∀ a',Ic P l z hd E D Q ord (k::done) a' w->K a')->o.quiet P a (λ_=>True) K):Ic P l z hd E D Q (k::ord) done a w:=by
 obtain⟨⟨q,A⟩,H,O⟩:=TQ hk
 obtain⟨v,X,Z⟩:=h _ (λ_ h=>h)
 refine⟨H,O,.inl ⟨q,A,o,v,ho,.inr (.inl ⟨hw,λw1=>?_⟩),Z⟩⟩
 have e:=X w1 trivial;unfold Oper.quietAt at e;have h4:=λf args w'=>LC (ρ:=a.eval) hq P w1 w' f args;generalize (execOp a.eval o).run P w1=r at *;cases r with
 |ok n w'=>cases n<;>simp only[Oper.quietUpon]at e<;>first|exact e|exact absurd rfl (h4 _ _ _)
 |halt x w'=>simp only[Oper.quietUpon]at e
theorem M8(o:Oper)(v:vV)(ho:l[k]?=some o)(hk:DF l z done k=true)(hw:Region.wanted o (yielded l.toArray a.tmps)=true)
  (hv:∀ w1,(execOp a.eval o).run P w1=.ok (.value v) w1) (h:Ic P l z hd E D Q ord (k::done) (a.put o.dst v) w):Ic P l z hd E D Q (k::ord) done a w:=by
 obtain⟨⟨e,q⟩,A,H⟩:=TQ hk
 exact⟨A,H,.inl ⟨e,q,o,v,ho,.inr (.inl ⟨hw,λw1=>by rw[hv w1];exact⟨rfl,rfl⟩⟩),h⟩⟩
theorem Qs(o:Oper)(v:vV)(ho:l[k]?=some o)(hv:∀ w1,(execOp a.eval o).run P w1=.ok (.value v) w1)(h:Ic P l z hd E D Q ord (k::done) (a.put o.dst v) w)(hk:DF l z done k=true:=by kernel_rfl)(hw:Region.wanted o (yielded l.toArray a.tmps)=true:=by rfl):Ic P l z hd E D Q (k::ord) done a w:=M8 o v ho hk hw hv h
theorem UV(o:Oper)(v:vV)(ho:l[k]?=some o)(hk:DF l z done k=true)(he:FF l.toArray z k=true)(hw:Region.wanted o (yielded l.toArray a.tmps)=true)
  (hv:∀ w1,D w w1->(execOp a.eval o).run P w1=.ok (.value v) w1) (h:Ic P l z hd E D Q ord (k::done) (a.put o.dst v) w):Ic P l z hd E D Q (k::ord) done a w:=by
 obtain⟨⟨e,q⟩,A,H⟩:=TQ hk
 exact⟨A,H,.inl ⟨e,q,o,v,ho,.inl ⟨he,.inl ⟨hw,λw1 K=>by rw[hv w1 K];exact⟨rfl,rfl⟩⟩⟩,h⟩⟩
theorem y6(p:Addr)(v:vV){t:TypeId}{x:Operand}{d:Option Tmp}{ty:TypeId}{pos:String}{af:Array Edge}{g:Option (Nat × Bool)}(ho:l[k]?=some ⟨d,.load t x,ty,pos,af,g⟩)(hk:DF l z done k=true)(he:FF l.toArray z k=true)
  (hw:Region.wanted ⟨d,.load t x,ty,pos,af,g⟩ (yielded l.toArray a.tmps)=true) (hx:a.eval x=.pointer (some p))
  (hv:∀ w1,D w w1->(Instr.loadAt t p).run P w1=.ok v w1) (h:Ic P l z hd E D Q ord (k::done) (a.put d v) w):Ic P l z hd E D Q (k::ord) done a w:=by
 refine UV _ v ho hk he hw (λw1 e=>?_) h
 have:=hv w1 e
 simp only[execOp,hx,bS,this,Result.andThen,cT]
theorem Vi{t:TypeId}{x:Operand}{d:Option Tmp}{ty:TypeId}{pos:String}{af:Array Edge}{g:Option (Nat × Bool)}(p:Addr)(v:vV)(ho:l[k]?=some ⟨d,.load t x,ty,pos,af,g⟩)(hv:∀ w1,D w w1->(Instr.loadAt t p).run P w1=.ok v w1)(h:Ic P l z hd E D Q ord (k::done) (a.put d v) w)(hk:DF l z done k=true:=by kernel_rfl)(he:FF l.toArray z k=true:=by kernel_rfl)(hw:Region.wanted ⟨d,.load t x,ty,pos,af,g⟩ (yielded l.toArray a.tmps)=true:=by rfl)(hx:a.eval x=.pointer (some p):=by rfl):Ic P l z hd E D Q (k::ord) done a w:=y6 p v ho hk he hw hx hv h
def sH(l:List Oper)(z:Nat)(hd done:List Nat)(k:Nat):Bool:=Region.ready .any l.toArray (Ec l done) == [k]&&(Ec l done).getD z true == false&&k != z&&hd.contains k
theorem Zs(o:Oper)(ho:l[k]?=some o)(hk:sH l z hd done k=true)(hw:Region.wanted o (yielded l.toArray a.tmps)=true)
  (h:∀ w1,E w w1->∀ K:Act->vW->Prop,(∀ a' w',D w1 w'->Ic P l z hd E D Q ord (k::done) a' w'->K a' w')->o.wp P a w1 K Mv):Ic P l z hd E D Q (k::ord) done a w:=by
 simp only[sH,cI,beq_iff_eq,bne_iff_ne,cM]at hk
 refine⟨hk.1.1.2,hk.1.2,.inr ⟨hk.1.1.1,hk.2,λw1 q=>?_⟩⟩
 unfold wpOp;have e:l.toArray[k]?=some o:=by simpa using ho
 simp only[e,hw,if_true];exact .inl (h w1 q _ λ_ _ A H=>⟨A,H⟩)
def YS(l:List Oper)(z:Nat)(done:List Nat):Bool:=Region.ready .any l.toArray (Ec l done) == [z]&&(Ec l done).getD z true == false&&(Ec l (z::done)).getD z true == true&&(Region.ready .any l.toArray (Ec l (z::done))).isEmpty
theorem BJ(o:Oper)(ho:l[z]?=some o)(hk:YS l z done=true)(hw:Region.wanted o (yielded l.toArray a.tmps)=true)
  (h:∀ w1,E w w1->∀ K:Act->vW->Prop,(∀ a' w',Q a' w'->K a' w')->o.wp P a w1 K Mv):Ic P l z hd E D Q [] done a w:=by
 simp only[YS,cI,beq_iff_eq,fI]at hk
 refine⟨hk.1.1.1,hk.1.1.2,hk.1.2,hk.2,λw1 q=>?_⟩
 unfold wpOp;have e:l.toArray[z]?=some o:=by simpa using ho
 simp only[e,hw,if_true];exact .inl (h w1 q _ λ_ _ h=>h)
end mixz
end
section
attribute [local go_sem] Oper.semAt_some
theorem Wz{p:vB}(h:p.size≠0):p.toList.isEmpty=false:=by
 rw[dK];intro e;rw[fI,cA]at e;exact h (by rw[<-Ja,e];rfl)
theorem Me.y1{W:vW}(h:Cc P v (Du D W W') W')(e:Af W W'):Me D W P (.returned v) W':=⟨v,rfl,h,e⟩
theorem zB(D:Nat->Prop)(P:PA)(v:vV)(h:Cc P v D W):vQ 291 #[(),v] W (Me D W P):=by
 have H:=J h;unfold vQ;go_in;have e:(⟨#[]⟩:vB).toList.isEmpty=true:=by rw[cA];rfl
 go_wp2
 go_ret;exact Me.y1 (H.o.mono λx q=>.inl q) (Aa W)
theorem V7(D:Nat->Prop)(a q u:vB)(b:Nat)(hB:Ae W b (.cells #[q,u] 380))(h0:a.size≠0)(ha:a.size<=1000000)(hq:q.size<=1000000):vQ 291 #[a,AM b] W (Me D W (.leaf (a++q) u)):=by
 have a0:=Wz h0;have q0:=hB.cell (i:=0) (v:=.string q) vF;have q1:=hB.cell (i:=1) (v:=.string u) vF;have Q0:=J q0;have Q1:=J q1;have hT:=T6 b;unfold AM at hT ⊢;unfold vQ;go_in;go_wp2_with fail
 refine Hs [0,1,2,3,4,5,6,7,8,9,10,11,12,13] (Af) Aa Ap vY vY vY ?_;iterate 2 refine vK ?_
 refine Jf _ (b) rfl zh (vS ?_)
 refine vK ?_
 refine Db b _ rfl (λw1 O=>De zf (Am Q0.o ((Ao _).trans O))) (vS ?_);iterate 2 refine vK ?_
 refine Jf _ (b) rfl zh (vS ?_)
 refine vK ?_
 refine Db ⟨b,1,none⟩ _ rfl (λw1 O=>De zf (Am Q1.o ((Ao _).trans O))) (vS ?_)
 refine vK ?_
 refine CW _ rfl vY rfl (λA hb K hK=>?_);refine Ro (v:=.pointer (some A)) (w':=A.alloc (.cells #[(a++q:),u] 380)) vY (hK _ _ ((Aa A).alloc _) ?_);have hN:=Ae.new A (.cells #[(a++q:),u] 380);refine vS ?_;iterate 2 refine vK ?_
 refine Hi (λw5 he=>?_);have X:Af W w5:=(((Ao W).trans hb).trans ((Aa A).alloc _)).trans he;have e:=hN.Z he kI;have H:=hb.size;have H:(W:Nat)<=↑A:=H;have Z:=e.lt;have HX:=J (kU X e H Z);go_wp2
 go_ret
 obtain⟨X,e,H,Z⟩:=HX.o
 exact Me.y1 ⟨_,rfl,.inr ⟨H,Z⟩,e⟩ X
theorem zA(D:Nat->Prop)(a q:vB)(n:PA)(T:TypeId)(x:vV)(Dn:Nat->Prop)(b:Nat)(hB:Ae W b (.cells #[q,.iface T x] 383))(hv:Cc n (.iface T x) Dn W)(X:∀ x,Dn x->D x/\x<(W:Nat))(h0:a.size≠0)(ha:a.size<=1000000)(hq:q.size<=1000000):vQ 291 #[a,Nl b] W (Me D W (.ext (a++q) n)):=by
 have a1:=Wz h0;have q0:=hB.cell (i:=0) (v:=.string q) vF;have q1:=hB.cell (i:=1) (v:=.iface T x) vF;have Q0:=J q0;have Q1:=J q1;have HV:=J (bA hv X);have hT:=xI b;have a0:=WY (Nl b) (.inl ⟨b,rfl⟩);unfold Nl at hT a0 ⊢;unfold vQ;go_in;go_wp2_with fail
 refine Hs [0,1,2,3,4,5,6,7,8,9,10,11,12,13] (Af) Aa Ap vY vY vY ?_;iterate 2 refine vK ?_
 refine Jf _ (b) rfl zh (vS ?_)
 refine vK ?_
 refine Db b _ rfl (λw1 h1=>De zf (Am Q0.o ((Ao _).trans h1))) (vS ?_);iterate 2 refine vK ?_
 refine Jf _ (b) rfl zh (vS ?_)
 refine vK ?_
 refine Db ⟨b,1,none⟩ _ rfl (λw1 h1=>De zf (Am Q1.o ((Ao _).trans h1))) (vS ?_)
 refine vK ?_
 refine CW _ rfl vY rfl (λH hb K hK=>?_);refine Ro (v:=.pointer (some H)) (w':=H.alloc (.cells #[(a++q:),.iface T x] 383)) vY (hK _ _ ((Aa H).alloc _) ?_);have hN:=Ae.new H (.cells #[(a++q:),.iface T x] 383);refine vS ?_;iterate 2 refine vK ?_
 refine Hi (λw5 he=>?_);have Z:Af W w5:=(((Ao W).trans hb).trans ((Aa H).alloc _)).trans he;have A:=hN.Z he kI;have O:=hb.size;have O:(W:Nat)<=↑H:=O;have hl:=A.lt;have HX:=J (kU Z A O hl);go_wp2
 go_ret
 obtain⟨Z,A,O,hl⟩:=HX.o
 obtain⟨hv,X⟩:=HV.o
 exact Me.y1 ⟨_,T,x,Dn,rfl,.inr ⟨O,hl⟩,A,hv.Z Z n (.iface T x) Dn λ_ _ e=>e,λe=>kL ((X _ e).2),λx hx=>.inl (X x hx).1⟩ Z
theorem zW(D:Nat->Prop)(a:vB)(u:vB)(ks:Nat->PA)(b:Nat)(h:Hq (.br u ks) (Gr b) D W)(h0:a.size≠0):vQ 291 #[a,Gr b] W (Me D W (.ext a (.br u ks))):=by
 have X:=Wz h0;have H:=J h;have Z:=xK b;have q:=WY (Gr b) (.inr (.inl ⟨b,rfl⟩));have A:=sS (Gr b) (.inl ⟨b,rfl⟩);unfold Gr at Z q A ⊢;unfold vQ;go_in;go_wp2
 go_ret;have K:=(Aa W).alloc (.cells #[a,Gr b] 383);have O:=Ae.new W (.cells #[a,Gr b] 383);exact Me.y1 ⟨_,_,_,D,rfl,.inr ⟨bO _,O.lt⟩,O,H.o.at'.Z K _ _ _ λ_ _ e=>e,λe=>kL (H.o.lt _ e),λx hx=>.inl hx⟩ K
theorem zX(D:Nat->Prop)(a:vB)(h0:a.size≠0):vQ 291 #[a,Mr] W (Me D W .no):=by
 have H:=Wz h0;have e:=WY Mr (.inr (.inr rfl));have q:=sS Mr (.inr rfl);have A:=xL;unfold Mr at e q A ⊢;unfold vQ;go_in;go_wp2
 go_ret;exact Me.y1 rfl (Aa W)
theorem Xg(D:Nat->Prop)(a:vB)(P:PA)(v:vV)(h:Hq P v D W)(hn:P.isNil=false)(ha:a.size<=1000000)(hd:Dp P 1000000):vQ 291 #[a,v] W (Me D W (Jq a P)):=by
 unfold Jq
 by_cases h0:a.size=0
 ·rw[if_pos h0,Ov h0];exact zB W D P v h.at'
 rw[if_neg h0];cases P with
 |nil=>cases hn
 |no=>obtain rfl:v=Mr:=h.at';exact zX W D a h0
 |leaf q u =>obtain⟨b,rfl,A,e⟩:=h.at';exact V7 W D a q u b e h0 ha hd
 |ext q n =>obtain⟨b,T,x,X,rfl,A,e,H,Z,K⟩:=h.at';exact zA W D a q n T x X b e H (λx O=>⟨K x O,h.lt x (K x O)⟩) h0 ha hd.1
 |br u ks =>obtain⟨b,vk,Dk,rfl,A,e,H,Z⟩:=h.at';exact zW W D a u ks b h h0
end
section
attribute [local go_sem] Oper.semAt_some
theorem FX(h:P.isNil=false):(Jq a P).isNil=false:=by
 unfold Jq;split
 ·exact h
 ·cases P<;>rfl
theorem TZ:∀ (P:PA) (p u:vB),(Ds P p u).isNil=false
 |.nil,_,_=>rfl
 |.no,_,_=>rfl
 |.leaf q v,p,u=>by
  unfold Ds;split
  ·rfl
  ·refine FX ?_
   rw[Vo];split
   ·rw[Vo];split<;>rfl
   ·rw[Vo];split<;>rfl
 |.ext q n,p,u=>by
  unfold Ds;split
  ·exact FX (TZ n _ _)
  ·refine FX ?_
   rw[Vo];split<;>rfl
 |.br v ks,p,u=>by
  unfold Ds;split<;>rfl
theorem DZ{P:Program}{a:Act}{w:vW}{d:Option Tmp}{x:Operand}{args:Array Operand}{ats:Array TypeId}{ty:TypeId}{af:Array Edge}{g:Option (Nat × Bool)}{T:TypeId}{r:vV}{f:FuncId}{vs:Array vV}(hx:a.eval x=.iface T v)
  (hm:(Go.method (P.types.size+Made.depth) T v name).run P w=.ok (f,r) w) (eg:∀ args w,(callFunc f args).run P w=.ok (.enter f args) w) (hv:args.map a.eval=vs) :
  (execOp a.eval ⟨d,.call { callee:=.invoke x name,args:=args,argTypes:=ats },ty,pos,af,g⟩).run P w=.ok (.enter f (#[r]++vs)) w:=by
 subst hv;have e:(#[Value.iface T v]++args.map a.eval)[0]?=some (.iface T v):=by simp[Array.getElem?_append]
 have q:(#[Value.iface T v]++args.map a.eval).extract 1 (#[Value.iface T v]++args.map a.eval).size=args.map a.eval:=by simp
 simp only[execOp,resolve,hx,bS,cT,Result.andThen,invoke,e,q,callMethod,run_program,hm,eg]
def CE:PA->FuncId
 |.leaf _ _=>289
 |.ext _ _=>295
 |.br _ _=>290
 |_=>303
def Zb:PA->FuncId
 |.leaf _ _=>286
 |.ext _ _=>292
 |.br _ _=>296
 |_=>300
def Vy:PA->FuncId
 |.leaf _ _=>287
 |.ext _ _=>293
 |.br _ _=>297
 |_=>301
def LU:PA->FuncId
 |.leaf _ _=>288
 |.ext _ _=>294
 |.br _ _=>298
 |_=>302
set_option maxRecDepth 100000
theorem UB(P:PA):∀ args w,(callFunc (CE P) args).run prog w=.ok (.enter (CE P) args) w:=by intro args w;cases P<;>kernel_rfl
theorem NL(P:PA):∀ args w,(callFunc (Zb P) args).run prog w=.ok (.enter (Zb P) args) w:=by intro args w;cases P<;>kernel_rfl
theorem KG(P:PA):∀ args w,(callFunc (Vy P) args).run prog w=.ok (.enter (Vy P) args) w:=by intro args w;cases P<;>kernel_rfl
theorem i2(P:PA):∀ args w,(callFunc (LU P) args).run prog w=.ok (.enter (LU P) args) w:=by intro args w;cases P<;>kernel_rfl
structure tT(P:PA)(T:TypeId)(x:Value):Prop where
 put:∀ w,(Go.method (prog.types.size+Made.depth) T x "guilloche/trie.put").run prog w=.ok (CE P,x) w
 drop:∀ w,(Go.method (prog.types.size+Made.depth) T x "guilloche/trie.drop").run prog w=.ok (Zb P,x) w
 ent:∀ w,(Go.method (prog.types.size+Made.depth) T x "guilloche/trie.entries").run prog w=.ok (Vy P,x) w
 form:∀ w,(Go.method (prog.types.size+Made.depth) T x "guilloche/trie.form").run prog w=.ok (LU P,x) w
theorem Cc.meth{T:TypeId}{x:vV}{W:vW}(h:Cc P (.iface T x) D W):tT P T x:=by
 cases P with
 |nil=>cases h
 |no =>have h:Value.iface T x=Mr:=h;unfold Mr at h;injection h with h1 h2;subst h1 h2;exact⟨λw=>by kernel_rfl,λw=>by kernel_rfl,λw=>by kernel_rfl,λw=>by kernel_rfl⟩
 |leaf q u =>obtain⟨b,h,_⟩:=h;unfold AM at h;injection h with h1 h2;subst h1 h2;exact⟨λw=>by kernel_rfl,λw=>by kernel_rfl,λw=>by kernel_rfl,λw=>by kernel_rfl⟩
 |ext q n =>obtain⟨b,_,_,_,h,_⟩:=h;unfold Nl at h;injection h with h1 h2;subst h1 h2;exact⟨λw=>by kernel_rfl,λw=>by kernel_rfl,λw=>by kernel_rfl,λw=>by kernel_rfl⟩
 |br u ks =>obtain⟨b,_,_,h,_⟩:=h;unfold Gr at h;injection h with h1 h2;subst h1 h2;exact⟨λw=>by kernel_rfl,λw=>by kernel_rfl,λw=>by kernel_rfl,λw=>by kernel_rfl⟩
theorem U8:tT .no 389 (.agg #[]):=Cc.meth (D:=λ_=>True) (W:={ (default:vW)with heap:=#[] }) rfl
def DT(P:PA):Prop:=∀ (W:vW) (T:TypeId) (x:vV) (D:Nat->Prop) (p u:vB),Hq P (.iface T x) D W->p.size<=900000->Dy p=true->Dp P 900000 ->
 vQ (CE P) #[x,p,u] W (Bk D W (Ds P p u))
theorem Bk.y1{W:vW}(h:Cc P v (Du D W W') W')(e:Ad D W W'):Bk D W P (.returned v) W':=⟨v,rfl,h,e⟩
theorem WR(T:TypeId)(x:vV)(w:vW):(binOp .eql 250 (.iface T x) .nilIface).run prog w=.ok false w:=vY
theorem xG:(binOp .eql 250 .nilIface .nilIface).run prog w=.ok true w:=vY
theorem GX:(Uu u vk).length=17:=by simp[Uu]
theorem BV(h:i<16):(Uu u vk)[1+i]?=some (vk i):=by
 rw[jE];show ((List.range 16).map vk)[i]?=_;rw[bY,fD h];rfl
def setV(vk:Nat->vV)(i:Nat)(v:vV):Nat->vV:=λj=>if j=i then v else vk j
theorem qD(h:i<16)(v:vV):(Uu u vk).toArray.setIfInBounds (1+i) v=(Uu u (setV vk i v)).toArray:=by
 have e:(Uu u vk).set (1+i) v=Uu u (setV vk i v):=by rw[jE];show Value.string u ::((List.range 16).map vk).set i v=Value.string u ::(List.range 16).map (setV vk i v);congr 1;apply iZ;intro j;rw[iW];by_cases hj:i=j;{subst hj;rw[if_pos rfl,if_pos (by simpa using h),bY,fD h];simp[setV]};rw[if_neg hj];by_cases hj16:j<16;{rw[bY,bY,fD hj16];simp[setV,Ne.symm hj]};rw[jG zd,jG zd]
 rw[<-e];simp
theorem P4:(Uu u vk).toArray.setIfInBounds 0 u'=(Uu u' vk).toArray:=by simp[Uu]
structure Gs(u:vB)(ks:Nat->PA)(b:Nat)(vk:Nat->Value)(Dk:Nat->Nat->Prop)(D:Nat->Prop)(W:World):Prop where
 mem:D b
 blk:Ae W b (.cells (Uu u vk).toArray 387)
 kid:∀ i,i<16->Cc (ks i) (vk i) (Dk i) W/\¬ Dk i b/\∀ x,Dk i x->D x
 apart:∀ i j,i<16->j<16->i≠j->∀ x,Dk i x->¬ Dk j x
 lt:∀ x,D x->x<(W:Nat)
theorem Gs.pa{u:vB}{ks:Nat->PA}{b:Nat}{vk:Nat->vV}{W:vW}(h:Gs u ks b vk Dk D W):Hq (.br u ks) (Gr b) D W:=
 ⟨⟨b,vk,Dk,rfl,h.mem,h.blk,h.kid,h.apart⟩,h.lt⟩
theorem Hq.br{u:vB}{ks:Nat->PA}{b:Nat}{W:vW}(h:Hq (.br u ks) (Gr b) D W):∃ q A,Gs u ks b q A D W:=by
 obtain⟨Z,q,A,e,H,K,O,X⟩:=h.at'
 unfold Gr at e;injection e with _ e;injection e with e;injection e with e;injection e with e;subst e
 exact⟨q,A,H,K,O,X,h.lt⟩
theorem Gs.Z{F:Bd}{u:vB}{ks:Nat->PA}{b:Nat}{vk:Nat->vV}{W:vW}(h:Gs u ks b vk Dk D W)(k:Ad F W W')(hF:∀ x,D x->¬ F x):Gs u ks b vk Dk D W':=
 ⟨h.mem,h.blk.Z k (hF b h.mem),λi e=>⟨(h.kid i e).1.Z k _ _ _ λx q=>hF x ((h.kid i e).2.2 x q),(h.kid i e).2⟩,h.apart,λx q=>bE (h.lt x q) k.size⟩
theorem Gs.val{u:vB}{ks:Nat->PA}{b:Nat}{vk:Nat->vV}{W:vW}(h:Gs u ks b vk Dk D W)(u':vB):Gs u' ks b vk Dk D (W.setCell b u'):=by
 have K:=Ad.z4 W b u';have H:=h.blk.z2 (i:=0) u';rw[P4]at H
 exact⟨h.mem,H,λi q=>⟨(h.kid i q).1.Z K _ _ _ λx A e=>(h.kid i q).2.1 (by have e:x=b:=e;rw[<-e];exact A),(h.kid i q).2⟩,h.apart,λx A=>bE (h.lt x A) K.size⟩
theorem Gs.turn{u:vB}{ks:Nat->PA}{b:Nat}{vk:Nat->vV}{W:vW}(h:Gs u ks b vk Dk D W)(hi:i<16)(k:Ad (Dk i) W W1)(hP:Cc P v (Du (Dk i) W W1) W1):Gs u (Cd ks i P) b (setV vk i v) (λj=>if j=i then Du (Dk i) W W1 else Dk j) (Du D W W1) (W1.setCell ⟨b,1+i,none⟩ v):=by
 have K:=Ad.z4 W1 ⟨b,1+i,none⟩ v;have hB:=(h.blk.Z k (h.kid i hi).2.1).z2 (i:=1+i) v;rw[qD u vk hi]at hB;have a0:=h.lt b h.mem
 refine⟨.inl h.mem,hB,λj H=>?_,λj l H hl X x q A=>?_,λx q=>?_⟩
 ·by_cases e:j=i;{subst e;simp only[if_pos,Yt];rw[show setV vk j v j=v from if_pos rfl];refine⟨hP.Z K _ _ _ λx q e=>?_,λe=>?_,λx q=>?_⟩;{have e:x=b:=e;rw[e]at q;rcases q with q|q;{exact (h.kid j hi).2.1 q};omega};{rcases e with e|e;{exact (h.kid j hi).2.1 e};omega};rcases q with q|q;{exact .inl ((h.kid j hi).2.2 x q)};exact .inr q};simp only[if_neg e];rw[BU _ _ e,show setV vk i v j=vk j from if_neg e];refine⟨((h.kid j H).1.Z k _ _ _ λx q A=>h.apart j i H hi e x q A).Z K _ _ _ λx q e=>?_,(h.kid j H).2.1,λx q=>.inl ((h.kid j H).2.2 x q)⟩;have e:x=b:=e;rw[e]at q;exact (h.kid j H).2.1 q
 ·have Z:∀ m,m<16->Dk m x->¬((W:Nat)<=x/\x<(W1:Nat)):=λm hm hd e=>kL (h.lt x ((h.kid m hm).2.2 x hd));by_cases e:j=i;{subst e;(have g1:Du (Dk j) W W1 x:=by simpa using q);(have O:Dk l x:=by simpa [Ne.symm X]using A);rcases g1 with g1|g1;{exact h.apart j l H hl X x g1 O};exact Z l hl O g1};(have g1:Dk j x:=by simpa [e]using q);by_cases e2:l=i;{subst e2;(have O:Du (Dk l) W W1 x:=by simpa using A);rcases O with O|O;{exact h.apart j l H hl X x g1 O};exact Z j H g1 O};(have O:Dk l x:=by simpa [e2]using A);exact h.apart j l H hl X x g1 O
 ·exact bE (BY h.lt k x q) K.size
theorem Gs.y4{u:vB}{ks:Nat->PA}{b:Nat}{vk:Nat->vV}{W:vW}(h:Gs u ks b vk Dk D W)(hi:i<16)(k:Ad (Dk i) W W1)(v:vV):Ad D W (W1.setCell ⟨b,1+i,none⟩ v):=
 (k.mono λx _ q=>(h.kid i hi).2.2 x q).O (Ad.z4 W1 ⟨b,1+i,none⟩ v) (λx _ e=>by have e:x=b:=e;rw[e];exact h.mem)
theorem rQ(D:Nat->Prop)(p u:vB):vQ 303 #[.agg #[],p,u] W (Bk D W (.leaf p u)):=by
 unfold vQ;go_in;go_wp2
 go_ret;have A:=((Aa W).alloc (.cells #[] 389)).alloc (.cells #[p,u] 380);have q:=Ae.new (W.alloc (.cells #[] 389)) (.cells #[p,u] 380);rw[bJ]at q;exact Bk.y1 ⟨_,rfl,.inr ⟨iD _,q.lt⟩,q⟩ (A.mono kZ)
theorem mB(D:Nat->Prop)(u0 u:vB)(ks:Nat->PA)(b:Nat)(h:Hq (.br u0 ks) (Gr b) D W):vQ 290 #[b,(),u] W (λe w'=>e=.returned (Gr b)/\Bk D W (.br u ks) e w'):=by
 obtain⟨A,O,hb⟩:=h.br
 have X:=hb.blk.z1 (i:=0) (v:=.string u0) vF;have Z:W.frozen? b=false:=hb.blk.frozen;have H:=J hb;unfold vQ;go_in;go_wp2
 go_ret;have K:=Ad.z4 W b u
 exact⟨rfl,Bk.y1 ((H.o.val u).pa.at'.mono λx q=>.inl q) (K.mono λx _ e=>by have e:x=b:=e;rw[e];exact H.o.mem)⟩
theorem C7(D:Nat->Prop)(u0 u:vB)(ks:Nat->PA)(b:Nat)(h:Hq (.br u0 ks) (Gr b) D W)(p:vB)(h0:p.size≠0)(hp:Dy p=true)(hs:p.size<=900000)(hn:(ks (Az p)).isNil=false)(hd:Dp (ks (Az p)) 900000)(hk:DT (ks (Az p))):vQ 290 #[b,p,u] W (λe w'=>e=.returned (Gr b)/\Bk D W (.br u0 (Cd ks (Az p) (Ds (ks (Az p)) (Fw p) u))) e w'):=by
 obtain⟨vk,Dk,hb⟩:=h.br
 obtain⟨y,t,hy⟩:=Tn h0
 obtain⟨e1,e2⟩:=Se hy
 have q:=Yv hp h0
 obtain⟨g0,a8⟩:=Xo hy
 have b2:=Wz h0;have Z:=BK hp;have a4:(Fw p).size<=900000:=by unfold Fw;rw[Jw];omega
 have hI:Az p=(p[0]'g0).toNat:=by rw[e1,a8]
 have O:=hb.kid (Az p) q
 obtain⟨T,x,a2⟩:=O.1.form hn
 have q1:=hb.blk.z1 (BV u0 vk q);rw[a2]at q1;have HK:=J hk;have HB:=J hb;have HM:=J ((show Cc (ks (Az p)) (.iface T x) (Dk (Az p)) W by rw[<-a2];exact O.1).meth);have a9:=J (show Cc (ks (Az p)) (.iface T x) (Dk (Az p)) W by rw[<-a2];exact O.1);have b0:=J hd;clear hb O hk hd;have a0:=J (show ∀ wb,Af W wb->vQ (CE (ks (Az p))) #[x,Fw p,u] wb (Bk (Dk (Az p)) wb (Ds (ks (Az p)) (Fw p) u))from λwb e=>HK.o wb T x _ _ _ ⟨a9.o.Z e _ _ _ λ_ _ e=>e,λz hz=>bE (HB.o.lt z ((HB.o.kid _ q).2.2 z hz)) e.size⟩ a4 Z b0.o);have hQ:=WR T x;have Q1:=J q1;have b1:=J (show ¬(Dk (Az p) b\/(W:Nat)<=b)from λe=>e.elim (HB.o.kid _ q).2.1 λe=>kL (HB.o.lt b HB.o.mem));have a5:=J hI;have A:=J q;have b3:=J (bA Z a4);have c1:(0:Int)<(p.size:Int):=vO
 have c2:((p[0]'g0).toNat:Int)<16:=vO
 have c3:(1:Int)<=(p.size:Int):=vO
 rw[hI]at q1
 obtain⟨i,hi⟩:=vE (p[0]'g0).toNat
 clear h a2 hy e1 e2 h0 hp hn a8 Z a4 q hI hi;unfold vQ;go_in;go_wp2_with fail
 refine BF [0,1,2,3,4,5,6,7,8,9,10,11,12,14,15,13,16] 17 [13] Af (Ad λz=>Dk (Az p) z\/(W:Nat)<=z) Aa Ap (λx y z h k=>Ad.trans h k) (λx y h=>h.mono kZ) vY vY vY ?_;iterate 4 refine vZ ?_
 refine Qs _ (b) rfl zf (vS ?_);iterate 2 refine vZ ?_
 refine Vi ⟨b,1+(p[0]'g0).toNat,none⟩ _ rfl (λw1 h1=>De zf (by rw[<-a5.o];exact Ed Q1.o (((Ad.refl (λz=>Dk (Az p) z\/(W:Nat)<=z) W).drew).trans h1) (by exact b1.o))) ?_;refine vS ?_;iterate 3 refine vZ ?_
 refine Qs _ (.iface T x) rfl zf (vS ?_)
 refine vZ ?_
 refine Qs _ (b) rfl zf (vS ?_)
 refine vZ ?_
 refine Zs _ rfl vY rfl (λwb hb K hK=>?_);have kb:Af W wb:=(Ao _).trans hb;refine Ou (DZ (f:=CE (ks (Az p))) (vs:=#[Fw p,u]) rfl (HM.o.put _) (UB _) vY) ?_;refine (a0.o wb kb).mono ?_;rintro e w2 ⟨v2,rfl,a1,X⟩
 refine⟨v2,rfl,hK _ _ (X.mono λz _ hz=>.inl hz) ?_⟩
 have HS:=J (kT kb a1 X);clear hK K hb kb a1 X;refine vS ?_
 refine vZ ?_
 refine BJ _ rfl vY rfl (λwc hc K hK=>?_)
 obtain⟨hb,a1,X⟩:=HS.o
 have H:=HB.o.Z (F:=λ_=>False) (hb) (λ_ _ e=>e);have kc:Ad (Dk (Az p)) wb wc:=X.trans (hc.mono kZ);have a7:Cc (Ds (ks (Az p)) (Fw p) u) v2 (Du (Dk (Az p)) wb wc) wc:=(a1.Z hc _ _ _ λ_ _ e=>e).mono (λz hz=>hz.imp id λe=>⟨e.1,bE e.2 hc.size⟩)
 obtain⟨T2,x2,rfl⟩:=a7.form (TZ _ _ _)
 have ht:=H.turn A.o kc a7;have a3:=H.y4 A.o kc (.iface T2 x2)
 obtain⟨old,q7⟩:∃ v,wc.cell? ⟨b,1+Az p,none⟩=some v:=⟨_,(H.blk.Z kc (H.kid _ A.o).2.1).z1 (bB (by rw[GX];have:=A.o;omega))⟩
 have f7:wc.frozen? ⟨b,1+Az p,none⟩=false:=(H.blk.Z kc (H.kid _ A.o).2.1).frozen;have HT:=J (kT ht a3 hb);rw[a5.o]at q7 f7;clear hb a1 X H kc a7 ht a3 hc;go_simp;refine hK _ _ ?_;clear hK K q7 f7;go_wp2
 go_ret
 obtain⟨ht,a3,hb⟩:=HT.o
 rw[<-a5.o]
 exact⟨rfl,Bk.y1 (ht.pa.at'.mono λz hz=>hz.imp id λe=>⟨bH hb.size e.1,bE e.2 (Ad.z4 wc ⟨b,1+Az p,none⟩ (.iface T2 x2)).size⟩) (((hb.mono kZ):Ad D W wb).trans a3)⟩
theorem mA(D:Nat->Prop)(u0 u:vB)(ks:Nat->PA)(b:Nat)(h:Hq (.br u0 ks) (Gr b) D W)(p:vB)(h0:p.size≠0)(hp:Dy p=true)(hs:p.size<=900000)(hn:(ks (Az p)).isNil=true):vQ 290 #[b,p,u] W (λe w'=>e=.returned (Gr b)/\Bk D W (.br u0 (Cd ks (Az p) (.leaf (Fw p) u))) e w'):=by
 obtain⟨vk,Dk,hb⟩:=h.br
 obtain⟨y,t,hy⟩:=Tn h0
 obtain⟨e1,e2⟩:=Se hy
 have q:=Yv hp h0
 obtain⟨g0,b3⟩:=Xo hy
 have c5:=Wz h0;have a5:=BK hp;have b4:(Fw p).size<=900000:=by unfold Fw;rw[Jw];omega
 have hI:Az p=(p[0]'g0).toNat:=by rw[e1,b3]
 have a7:=hb.kid (Az p) q;have b5:vk (Az p)=.nilIface:=by have:=a7.1;rw[Qk hn]at this;exact this
 have q1:=hb.blk.z1 (BV u0 vk q);rw[b5]at q1;have f1:W.frozen? ⟨b,1+Az p,none⟩=false:=hb.blk.frozen
 obtain⟨W1,X⟩:=vE (W.setCell ⟨b,1+Az p,none⟩ Mr)
 have a3:=hb.turn q (P:=.no) (v:=Mr) (Ad.refl _ W) rfl;rw[<-X]at a3
 obtain⟨Z,a8⟩:=vE (λj=>if j=Az p then Du (Dk (Az p)) W W else Dk j)
 obtain⟨b9,a0⟩:=vE (Cd ks (Az p) .no)
 have a9:Cd b9 (Az p) (.leaf (Fw p) u)=Cd ks (Az p) (.leaf (Fw p) u):=by funext j;unfold Cd;rw[a0];unfold Cd;by_cases e:j=Az p;{rw[if_pos e,if_pos e]};rw[if_neg e,if_neg e,if_neg e]
 rw[<-a8, <-a0]at a3;have b6:W1.cell? ⟨b,1+Az p,none⟩=some Mr:=by have:=a3.blk.z1 (BV u0 _ q);rw[this];show some (setV vk (Az p) Mr (Az p))=_;unfold setV;rw[if_pos rfl]
 have c7:=J X;have c0:=J a9;have b7:Hid (∀ z,Du D W W z->D z):=(λz O=>O.elim id λe=>by omega);have b8:=J (show Ad D W W1 by rw[X];exact (Ad.z4 W ⟨b,1+Az p,none⟩ Mr).mono λz _ e=>by have e:z=b:=e;rw[e];exact hb.mem);have HB:=J a3;have Q1:=J b6;clear a8 a0 a3 b6 a9 hb a7;unfold Mr at X Q1;have a1:=J (show ∀ wb,Af W1 wb->vQ 303 #[.agg #[],Fw p,u] wb (Bk (Z (Az p)) wb (.leaf (Fw p) u))from λwb _=>rQ wb _ _ _);have c4:=J (show ¬(Z (Az p) b\/(W1:Nat)<=b)from λe=>e.elim (HB.o.kid _ q).2.1 λe=>kL (HB.o.lt b HB.o.mem));have b1:=J hI;have A:=J q;have c8:=J (bA a5 b4);have c1:(0:Int)<(p.size:Int):=vO
 have c2:((p[0]'g0).toNat:Int)<16:=vO
 have c3:(1:Int)<=(p.size:Int):=vO
 rw[hI]at q1 f1 X
 obtain⟨i,hi⟩:=vE (p[0]'g0).toNat
 clear h b5 hy e1 e2 h0 hp hn b3 a5 b4 q hI hi;unfold vQ;go_in;go_wp2_with fail
 rw[<-X];refine BF [0,1,2,3,4,5,6,7,8,9,10,11,12,14,15,13,16] 17 [13] Af (Ad λz=>Z (Az p) z\/(W1:Nat)<=z) Aa Ap (λx y z h k=>Ad.trans h k) (λx y h=>h.mono kZ) vY vY vY ?_;iterate 4 refine vZ ?_
 refine Qs _ (b) rfl zf (vS ?_);iterate 2 refine vZ ?_
 refine Vi ⟨b,1+(p[0]'g0).toNat,none⟩ _ rfl (λw1 h1=>De zf (by rw[<-b1.o];exact Ed Q1.o (((Ad.refl (λz=>Z (Az p) z\/(W1:Nat)<=z) W1).drew).trans h1) (by exact c4.o))) ?_;refine vS ?_;iterate 3 refine vZ ?_
 refine Qs _ (.iface 389 (.agg #[])) rfl zf (vS ?_)
 refine vZ ?_
 refine Qs _ (b) rfl zf (vS ?_)
 refine vZ ?_
 refine Zs _ rfl vY rfl (λwb hb K hK=>?_);have kb:Af W1 wb:=(Ao _).trans hb;refine Ou (DZ (f:=303) (vs:=#[Fw p,u]) rfl (U8.put _) (λargs w=>by kernel_rfl) vY) ?_;refine (a1.o wb kb).mono ?_;rintro e w2 ⟨v2,rfl,a4,a2⟩
 refine⟨v2,rfl,hK _ _ (a2.mono λz _ O=>.inl O) ?_⟩
 have HS:=J (kT kb a4 a2);clear hK K hb kb a4 a2;refine vS ?_
 refine vZ ?_
 refine BJ _ rfl vY rfl (λwc hc K hK=>?_)
 obtain⟨hb,a4,a2⟩:=HS.o
 have H:=HB.o.Z (F:=λ_=>False) (hb) (λ_ _ e=>e);have kc:Ad (Z (Az p)) wb wc:=a2.trans (hc.mono kZ);have b2:Cc (PA.leaf (Fw p) u) v2 (Du (Z (Az p)) wb wc) wc:=(a4.Z hc _ _ _ λ_ _ e=>e).mono (λz O=>O.imp id λe=>⟨e.1,bE e.2 hc.size⟩)
 obtain⟨T2,x2,rfl⟩:=b2.form rfl
 have ht:=H.turn A.o kc b2;have b0:=H.y4 A.o kc (.iface T2 x2)
 obtain⟨old,q7⟩:∃ v,wc.cell? ⟨b,1+Az p,none⟩=some v:=⟨_,(H.blk.Z kc (H.kid _ A.o).2.1).z1 (bB (by rw[GX];have:=A.o;omega))⟩
 have f7:wc.frozen? ⟨b,1+Az p,none⟩=false:=(H.blk.Z kc (H.kid _ A.o).2.1).frozen;have HT:=J (kT ht b0 hb);rw[b1.o]at q7 f7;clear hb a4 a2 H kc b2 ht b0 hc;go_simp;refine hK _ _ ?_;clear hK K q7 f7;go_wp2
 go_ret
 obtain⟨ht,b0,hb⟩:=HT.o
 rw[<-b1.o];have a9:=c0.o
 refine⟨rfl,Bk.y1 (Cc.mono (λz O=>?_) (by rw[<-a9];exact ht.pa.at')) ((b8.o.trans (hb.mono kZ)).trans (b0.mono λz _ O=>b7.o z O))⟩
 rcases O with O|O
 ·exact .inl (b7.o z O)
 ·exact .inr ⟨bH (bH b8.o.size hb.size) O.1,bE O.2 (Ad.z4 wc ⟨b,1+Az p,none⟩ (.iface T2 x2)).size⟩
end
section
attribute [local go_sem] Oper.semAt_some
def Yc(D:Nat->Prop)(W:vW)(b:Nat)(P:PA)(e:Ending)(w':vW):Prop:=e=.returned (Gr b)/\Cc P (Gr b) (Du D W w') w'/\Ad D W w'
theorem VI(D:Nat->Prop)(v:vB)(ks:Nat->PA)(b:Nat)(h:Hq (.br v ks) (Gr b) D W)(p u:vB)(hp:Dy p=true)(hs:p.size<=900000)(hf:∀ x t,p.data.toList=x::t->(ks x.toNat).isNil=true):vQ 290 #[b,p,u] W (Yc D W b (Hy (.br v ks) p u)):=by
 rw[Vo]
 by_cases h0:p.size=0
 ·rw[if_pos h0,Ov h0];refine (mB W D v u ks b h).mono ?_;rintro e w' ⟨rfl,K,e,q,A⟩;injection e with e;subst e;exact⟨rfl,q,A⟩
 ·rw[if_neg h0];obtain⟨x,t,H⟩:=Tn h0;refine (mA W D v u ks b h p h0 hp hs (by rw[(Se H).1];exact hf x t H)).mono ?_;rintro e w' ⟨rfl,K,e,q,A⟩;injection e with e;subst e;exact⟨rfl,q,A⟩
theorem sN{W:vW}{b:Nat}(h:Ae W b (.cells #[(),qg,qg,qg,qg,qg,qg,qg,qg,qg,qg,qg,qg,qg,qg,qg,qg] 387)):Gs () (λ_=>.nil) b (λ_=>.nilIface) (λ_ _=>False) (λx=>x=b) W:=
 ⟨rfl,h,λi _=>⟨rfl,λe=>e,λ_ e=>e.elim⟩,λ_ _ _ _ _ _ e=>e.elim,λx e=>by rw[e];exact h.lt⟩
theorem Yc.br{W:vW}{b:Nat}(h:Cc P (Gr b) (Du D W w') w')(k:Ad D W w')(hl:∀ x,D x->x<(W:Nat)):Hq P (Gr b) (Du D W w') w':=⟨h,BY hl k⟩
theorem r6(D:Nat->Prop)(q v u:vB)(b:Nat)(A:Ae W b (.cells #[q,v] 380)):vQ 289 #[b,q,u] W (Bk D W (.leaf q u)):=by
 have K:=A.cell (i:=0) (v:=.string q) vF;have H:(q.toList == q.toList)=true:=by simp
 unfold vQ;go_in;go_wp2
 go_ret;have A:=Ae.new W (.cells #[q,u] 380);exact Bk.y1 ⟨_,rfl,.inr ⟨bO _,A.lt⟩,A⟩ (((Aa W).alloc _).mono kZ)
theorem M3(v:vB):(∀ x t,(q.extract (Dg q p) q.size).data.toList=x::t->PA.isNil ((λ_=>PA.nil) x.toNat)=true)/\∃ v1 ks1,Hy (.br () λ_=>.nil) (q.extract (Dg q p) q.size) v=.br v1 ks1/\∀ x t,(p.extract (Dg q p) p.size).data.toList=x::t->(ks1 x.toNat).isNil=true:=by
 refine⟨λ_ _ _=>rfl,?_⟩
 obtain⟨Z,b',ha,hb,A,H,K⟩:=FS q.data.toList p.data.toList
 have e:(q.extract (Dg q p) q.size).data.toList=Z:=by rw[Ox,A];rfl
 have O:(p.extract (Dg q p) p.size).data.toList=b':=by rw[Ox,H];rfl
 obtain⟨x1,e1⟩:∃ x,x=q.extract (Dg q p) q.size:=⟨_,rfl⟩
 rw[<-e1]at e ⊢;rw[Vo]
 by_cases h0:x1.size=0
 ·rw[if_pos h0];exact⟨_,_,rfl,λ_ _ _=>rfl⟩
 ·rw[if_neg h0];refine⟨_,_,rfl,λy t hy=>?_⟩;obtain⟨x,s,X⟩:=Tn h0;unfold Cd;rw[(Se X).1,if_neg (AE (Ne.symm (K x s y t (by rw[<-e,X]) (by rw[<-O,hy]))))];rfl
theorem j7(D:Nat->Prop)(q v p u:vB)(b:Nat)(hB:Ae W b (.cells #[q,v] 380))(hne:p≠q)(hq:Dy q=true)(hp:Dy p=true)(hqs:q.size<=900000)(hps:p.size<=900000):vQ 289 #[b,p,u] W (Bk D W (Ds (.leaf q v) p u)):=by
 have q0:=hB.cell (i:=0) (v:=.string q) vF;have Q0:=J q0;have Q1:=J (hB.cell (i:=1) (v:=.string v) vF);have HB:=J hB;have d8:(p.toList == q.toList)=false:=by rw[UW];exact decide_eq_false hne
 obtain⟨c1,c2⟩:=KD q p
 have a1:Ds (.leaf q v) p u=Jq (p.extract 0 (Dg q p)) (Hy (Hy (.br () λ_=>.nil) (q.extract (Dg q p) q.size) v) (p.extract (Dg q p) p.size) u):=by show (if p=q then PA.leaf p u else _)=_;rw[if_neg hne]
 have a0:=M3 q p v;have a2:=λw=>GQ w q p vO vO
 obtain⟨m,hm⟩:=vE (Dg q p)
 rw[<-hm]at c1 c2 a1 a0 a2;rw[a1];have b4:(q.extract m q.size).size<=900000:=by rw[Jw];omega
 have b5:(p.extract m p.size).size<=900000:=by rw[Jw];omega
 have b6:(p.extract 0 m).size<=900000:=by rw[dI];omega
 have b7:Dy (q.extract m q.size)=true:=Qo hq _ _;have b8:Dy (p.extract m p.size)=true:=Qo hp _ _
 obtain⟨H,v1,a4,e1,O⟩:=a0
 have b9:Dp (Hy (.br v1 a4) (p.extract m p.size) u) 1000000:=FA (by rw[<-e1];exact FA (NZ _ _) vO _) vO _;have c0:(Hy (.br v1 a4) (p.extract m p.size) u).isNil=false:=by rw[Vo];split<;>rfl
 rw[e1];have HF:=J (kY (kT H e1 O) b4 b5 b6 b7 b8);have c3:=J (bA b9 c0);have HC:=J a2;have d9:(m:Int)<=(q.size:Int):=vO
 have e0:(m:Int)<=(p.size:Int):=vO
 clear hB hne hq hp a1 hm H O e1 b9 c0 b4 b5 b6 b7 b8 a2;unfold vQ;go_in;go_wp2_with fail
 refine (HC.o _).mono ?_;rintro e w1 ⟨rfl,n,rfl⟩;go_wp2_with fail
 obtain⟨A,a5⟩:=vE W.heap.size
 obtain⟨W2,a7⟩:=vE ((W.drewN n).alloc (.cells #[(),qg,qg,qg,qg,qg,qg,qg,qg,qg,qg,qg,qg,qg,qg,qg,qg] 387))
 have c4:Af W W2:=by rw[a7];exact ((Aa W).drewN n).alloc _
 have c5:Gs () (λ_=>.nil) A (λ_=>.nilIface) (λ_ _=>False) (λx=>x=A) W2:=by rw[a7,a5];exact sN (Ae.new (W.drewN n) _)
 have c7:(W:Nat)<=A:=by rw[a5];exact bO _
 have a8:=J c4;have c8:=J c5;have b2:=J c7;have c9:=J (show ¬ (W:Nat)<=b from kL HB.o.lt);rw[<-a7, <-a5];clear a5 a7 c4 c5 c7;refine Na [0,1,2,3,4,5,6,7,8,9,10,11] [11] Af (Ad λz=>(W:Nat)<=z) Aa Ap (λx y z h k=>Ad.trans h k) (λx y h=>h.mono kZ) vY vY vY ?_;iterate 2 refine vD ?_
 refine Lx _ (b) rfl zh (vS ?_)
 refine vD ?_
 refine Fa b _ rfl (λw1 h1=>De zf (Ed (Am Q0.o a8.o) (((Ad.refl (λz=>(W:Nat)<=z) W2).drew).trans h1) (by exact c9.o))) (vS ?_);iterate 3 refine vD ?_
 refine Lx _ (b) rfl zh (vS ?_)
 refine vD ?_
 refine Fa ⟨b,1,none⟩ _ rfl (λw1 h1=>De zf (Ed (Am Q1.o a8.o) (((Ad.refl (λz=>(W:Nat)<=z) W2).drew).trans h1) (by exact c9.o))) (vS ?_);refine Hh _ rfl (λwb hb K hK=>?_);have kb:Af W2 wb:=(Ao _).trans hb
 obtain⟨H,e1,O⟩:=HF.o.1
 refine Ou (Fb (vX 290) vY) ((VI wb (λx=>x=A) () (λ_=>.nil) A ((c8.o.Z kb λ_ _ e=>e).pa) (q.extract m q.size) v HF.o.e HF.o.b H).mono ?_);rintro e w3 ⟨rfl,X,Z⟩
 refine⟨_,rfl,hK _ _ (Z.mono λz _ e=>by have e:z=A:=e;rw[e];exact b2.o) ?_⟩
 rw[e1]at X;have HS:=J (kT kb X Z);clear hK K hb kb X Z e1;refine vS ?_;refine Mt (λwc hc=>?_)
 obtain⟨kb,X,Z⟩:=HS.o
 have kc:Ad (λx=>x=A) wb wc:=Z.trans (hc.mono kZ);have d0:Cc (.br v1 a4) (Gr A) (Du (λx=>x=A) wb wc) wc:=(X.Z hc _ _ _ λ_ _ e=>e).mono (λz hz=>hz.imp id λe=>⟨e.1,bE e.2 hc.size⟩);have d1:=Yc.br d0 kc (λx e=>by have e:x=A:=e;rw[e];exact bE c8.o.blk.lt kb.size);have d2:Af W wc:=(a8.o.trans kb).O kc (λx hx e=>by have e:x=A:=e;have:=b2.o;omega);have a9:=J (bA d1 d2);have d3:Hid (∀ x,Du (λx=>x=A) wb wc x->(W:Nat)<=x):=(λx hx=>hx.elim (λe=>by rw[e];exact b2.o) λe=>bH (bH a8.o.size kb.size) e.1);clear hc kb X Z kc d0 d1 d2 HS;go_wp2_with fail
 obtain⟨H,e1,O⟩:=HF.o.1
 refine (VI wc _ v1 a4 A a9.o.1 (p.extract m p.size) u HF.o.I HF.o.c O).mono ?_;rintro e w4 ⟨rfl,d4,b3⟩;have d5:=Yc.br d4 b3 a9.o.1.lt;have d6:Af W w4:=a9.o.2.O b3 (λx hx e=>kL (d3.o x e));have d7:Hid (∀ x,Du (Du (λx=>x=A) wb wc) wc w4 x->(W:Nat)<=x):=λx hx=>hx.elim (d3.o x) (λe=>bH a9.o.2.size e.1);have b0:=J (bA d5 d6);clear d4 b3 d5 d6 e1 H O;unfold Gr;go_wp2_with fail
 refine (Xg w4 _ (p.extract 0 m) _ (Gr A) b0.o.1 c3.o.2 (kL HF.o.d) c3.o.1).mono ?_;rintro e w5 ⟨v5,rfl,b1,a3⟩;have HZ:=J (bA b1 a3);clear b1 a3;go_wp2
 go_ret
 obtain⟨b1,a3⟩:=HZ.o
 exact Bk.y1 (b1.mono λx hx=>.inr ⟨hx.elim (d7.o x) λe=>bH b0.o.2.size e.1,(BY b0.o.1.lt a3) x hx⟩) ((b0.o.2.trans a3).mono kZ)
theorem Gs.give{u:vB}{ks:Nat->PA}{b:Nat}{vk:Nat->vV}{W:vW}(h:Gs u ks b vk Dk D W)(hi:i<16)(hP:Cc P v E W)(hE:∀ x,E x->¬ D x/\x<(W:Nat)):Gs u (Cd ks i P) b (setV vk i v) (λj=>if j=i then E else Dk j) (λx=>D x\/E x) (W.setCell ⟨b,1+i,none⟩ v):=by
 have K:=Ad.z4 W ⟨b,1+i,none⟩ v;have Z:=h.blk.z2 (i:=1+i) v;rw[qD u vk hi]at Z
 refine⟨.inl h.mem,Z,λj A=>?_,λj l A hl O x q H=>?_,λx q=>?_⟩
 ·by_cases e:j=i;{subst e;simp only[if_pos,Yt];rw[show setV vk j v j=v from if_pos rfl];refine⟨hP.Z K _ _ _ λx q e=>?_,λe=>(hE b e).1 h.mem,λx q=>.inr q⟩;have e:x=b:=e;rw[e]at q;exact (hE b q).1 h.mem};simp only[if_neg e];rw[BU _ _ e,show setV vk i v j=vk j from if_neg e];refine⟨(h.kid j A).1.Z K _ _ _ λx q e=>?_,(h.kid j A).2.1,λx q=>.inl ((h.kid j A).2.2 x q)⟩;have e:x=b:=e;rw[e]at q;exact (h.kid j A).2.1 q
 ·by_cases e:j=i;{subst e;(have g1:E x:=by simpa using q);(have X:Dk l x:=by simpa [Ne.symm O]using H);exact (hE x g1).1 ((h.kid l hl).2.2 x X)};(have g1:Dk j x:=by simpa [e]using q);by_cases e2:l=i;{subst e2;(have X:E x:=by simpa using H);exact (hE x X).1 ((h.kid j A).2.2 x g1)};(have X:Dk l x:=by simpa [e2]using H);exact h.apart j l A hl O x g1 X
 ·rcases q with q|q;{exact bE (h.lt x q) K.size};exact bE (hE x q).2 K.size
theorem Y4{q:vB}(h:m<q.size):Az (q.extract m q.size)=(q[m]).toNat:=by
 unfold Az;have e:m<q.data.toList.length:=by rw[Ja];exact h
 rw[Ox,gY e];rfl
theorem X0(D:Nat->Prop)(q:vB)(n:PA)(T:TypeId)(x:vV)(Dn:Nat->Prop)(b:Nat)(hB:Ae W b (.cells #[q,.iface T x] 383))(hv:Cc n (.iface T x) Dn W)(hbn:¬ Dn b)(hD:∀ x,Dn x->D x/\x<(W:Nat))(p u:vB)(hq:Dy q=true)(hp:Dy p=true)(hqs:q.size<=900000)(hps:p.size<=900000)(hd:Dp n 900000)(hk:DT n)(hnil:n.isNil=false)(hf:Dg q p=q.size):vQ 295 #[b,p,u] W (Bk D W (Jq q (Ds n (p.extract q.size p.size) u))):=by
 have q0:=hB.cell (i:=0) (v:=.string q) vF;have q1:=hB.cell (i:=1) (v:=.iface T x) vF;have Q0:=J q0;have Q1:=J q1;have HD:Hid (∀ z,Dn z->D z/\z<(W:Nat)):=hD
 obtain⟨c1,c2⟩:=KD q p
 have a0:=λw=>GQ w q p vO vO;rw[hf]at c1 c2 a0;have HC:=J a0;have b3:=hB.lt;have a4:=J (show ¬(Dn b\/(W:Nat)<=b)from λe=>e.elim hbn λe=>by omega);have a3:Dy (p.extract q.size p.size)=true:=Qo hp _ _;have a5:(p.extract q.size p.size).size<=900000:=by rw[Jw];omega
 have HM:=J hv.meth;have X:=J (show ∀ H,Af W H->vQ (CE n) #[x,p.extract q.size p.size,u] H (Bk Dn H (Ds n (p.extract q.size p.size) u))from λH e=>hk H T x Dn _ _ ⟨hv.Z e _ _ _ λ_ _ e=>e,λz A=>bE (hD z A).2 e.size⟩ a5 a3 hd);have b0:Hid (Dp (Ds n (p.extract q.size p.size) u) 1000000):=(Tl _ _ _ (PS n 900000 _ u hd a5) vO);have b4:(q.size:Int)<=(p.size:Int):=vO
 unfold vQ;go_in;go_wp2_with fail
 refine (HC.o _).mono ?_;rintro e w1 ⟨rfl,k,rfl⟩;have a7:=J (show Ad (λz=>Dn z\/(W:Nat)<=z) W ((W.drewN k).drew)from((Ad.refl _ W).drewN k).drew);go_wp2_with fail
 refine Na [0,1,2,3,4,5,6,7,8,9,10,11,12,13,14,15,16] [14,15] Af (Ad λz=>Dn z\/(W:Nat)<=z) Aa Ap (λx y z h k=>Ad.trans h k) (λx y h=>h.mono kZ) vY vY vY ?_
 refine vD ?_
 refine Lx _ (b) rfl zh (vS ?_)
 refine vD ?_
 refine Fa b _ rfl (λw1 h1=>De zf (Ed Q0.o (a7.o.trans h1) (by exact a4.o))) (vS ?_)
 refine vD ?_
 refine Lx _ (b) rfl zh (vS ?_)
 refine vD ?_
 refine Fa ⟨b,1,none⟩ _ rfl (λw1 h1=>De zf (Ed Q1.o (a7.o.trans h1) (by exact a4.o))) (vS ?_);iterate 4 refine vD ?_
 refine Lx _ (.iface T x) rfl zh (vS ?_)
 refine vD ?_
 refine Hh _ rfl (λH hb K hK=>?_);have kb:Af W H:=(((Aa W).drewN k).drew).trans hb;refine Ou (DZ (f:=CE n) (vs:=#[p.extract q.size p.size,u]) rfl (HM.o.put _) (UB _) vY) ?_;refine (X.o H kb).mono ?_;rintro e w2 ⟨v2,rfl,a1,Z⟩
 refine⟨v2,rfl,hK _ _ (Z.mono λz _ A=>.inl A) ?_⟩
 have HS:=J (kT kb a1 Z);refine vS ?_;refine Hh _ rfl (λwc hc K hK=>?_)
 obtain⟨kb,a1,Z⟩:=HS.o
 have kc:Ad Dn H wc:=Z.trans (hc.mono kZ);have b1:Cc (Ds n (p.extract q.size p.size) u) v2 (Du Dn H wc) wc:=(a1.Z hc _ _ _ λ_ _ e=>e).mono (λz A=>A.imp id λe=>⟨e.1,bE e.2 hc.size⟩);have a8:=Bk.own b1 kc (λz A=>bE (HD.o z A).2 kb.size);refine Ou (Fb (vX 291) vY) ((Xg wc _ q _ v2 a8 (TZ _ _ _) vO b0.o).mono ?_);rintro e w5 ⟨v5,rfl,a2,O⟩
 refine⟨v5,rfl,hK _ _ (O.mono kZ) ?_⟩
 have HZ:=J (kU kc a2 O (BY a8.lt O));refine vS ?_
 refine vD ?_
 refine Mt (λwd hd=>?_);have HQ:=J hd;go_wp2
 go_ret
 obtain⟨kb,_,_⟩:=HS.o
 obtain⟨kc,a2,O,b2⟩:=HZ.o
 have hd:=HQ.o;refine Bk.y1 ((a2.Z hd _ _ _ λ_ _ e=>e).mono λz A=>?_) (((kb.mono kZ:Ad D W H).trans (kc.mono λz _ A=>(HD.o z A).1)).trans ((O.trans hd).mono kZ));have a9:=bE (b2 z A) hd.size;rcases A with (A|A)|A
 ·exact .inl (HD.o z A).1
 ·exact .inr ⟨bH kb.size A.1,a9⟩
 ·exact .inr ⟨bH (bH kb.size kc.size) A.1,a9⟩
theorem J9(n:PA)(h:Dg q p<q.size):∀ x t,(p.extract (Dg q p) p.size).data.toList=x::t->(Cd (λ_=>.nil) (Az (q.extract (Dg q p) q.size)) (Jq (q.extract (Dg q p+1) q.size) n) x.toNat).isNil=true:=by
 obtain⟨Z,b',ha,hb,e,A,H⟩:=FS q.data.toList p.data.toList
 have K:(q.extract (Dg q p) q.size).data.toList=Z:=by rw[Ox,e];rfl
 have O:(p.extract (Dg q p) p.size).data.toList=b':=by rw[Ox,A];rfl
 have h0:(q.extract (Dg q p) q.size).size≠0:=by rw[Jw];omega
 intro y t hy
 obtain⟨x,s,X⟩:=Tn h0
 unfold Cd;rw[(Se X).1,if_neg (AE (Ne.symm (H x s y t (by rw[<-K,X]) (by rw[<-O,hy]))))];rfl
theorem J8(D:Nat->Prop)(q:vB)(n:PA)(T:TypeId)(x:vV)(Dn:Nat->Prop)(b:Nat)(hB:Ae W b (.cells #[q,.iface T x] 383))(hv:Cc n (.iface T x) Dn W)(hbn:¬ Dn b)(hD:∀ x,Dn x->D x/\x<(W:Nat))(p u:vB)(hq:Dy q=true)(hp:Dy p=true)(hqs:q.size<=900000)(hps:p.size<=900000)(hd:Dp n (900000-q.size))(hnil:n.isNil=false)(hf:Dg q p≠q.size):vQ 295 #[b,p,u] W (Bk D W (Jq (p.extract 0 (Dg q p)) (Hy (.br () (Cd (λ_=>.nil) (Az (q.extract (Dg q p) q.size)) (Jq (q.extract (Dg q p+1) q.size) n))) (p.extract (Dg q p) p.size) u))):=by
 have q0:=hB.cell (i:=0) (v:=.string q) vF;have q1:=hB.cell (i:=1) (v:=.iface T x) vF;have Q0:=J q0;have Q1:=J q1;have HV:=J hv;have HD:Hid (∀ z,Dn z->D z/\z<(W:Nat)):=hD
 obtain⟨c1,c2⟩:=KD q p
 have a0:=λw=>GQ w q p vO vO;have O:=J9 q p n (show Dg q p<q.size by omega)
 obtain⟨m,hm⟩:=vE (Dg q p)
 rw[<-hm]at c1 c2 a0 hf O ⊢;have HC:=J a0;have d9:=hB.lt;have b6:=J (show ¬ (W:Nat)<=b from by omega);have c4:m<q.size:=vO
 have c5:Az (q.extract m q.size)<16:=Yv (Qo hq _ _) (by rw[Jw];omega);have b7:=Y4 c4;have b8:=J (bA c5 b7);have c7:=J (bA (Qo hp m p.size) (show (p.extract m p.size).size<=900000 by rw[Jw];omega));have a9:=J (kT hnil (show (q.extract (m+1) q.size).size<=900000 by rw[Jw];omega) hd);have c8:Dp (Jq (q.extract (m+1) q.size) n) (900000-m-1):=EN (Tl _ _ _ hd (by rw[Jw];omega)) (by rw[Jw];omega);have c9:Dp (Hy (.br () (Cd (λ_=>.nil) (Az (q.extract m q.size)) (Jq (q.extract (m+1) q.size) n))) (p.extract m p.size) u) (900000-m):=FA (EU (NZ () _) vO c8 _) (by rw[Jw];omega) _;have d0:(Hy (.br () (Cd (λ_=>.nil) (Az (q.extract m q.size)) (Jq (q.extract (m+1) q.size) n))) (p.extract m p.size) u).isNil=false:=by rw[Vo];split<;>rfl
 have d1:=J (bA c9 d0);have e0:=J O;have a7:(p.extract 0 m).size<=900000:=by rw[dI];omega
 have e1:=J a7;have e2:(m:Int)<=(q.size:Int):=vO
 have e3:(m:Int)<=(p.size:Int):=vO
 have e4:(m:Int)<(q.size:Int):=vO
 have e5:(m:Int)+1<=(q.size:Int):=vO
 have e6:((q[m]'c4).toNat:Int)<16:=by rw[<-b7];omega
 have e7:((m:Int) ==(q.size:Int))=false:=by simp;omega
 clear hB hv hbn hD hq hp hd hf a0 d9 O c5 b7 c8 c9 d0 hnil hm a7;unfold vQ;go_in;go_wp2_with fail
 refine (HC.o _).mono ?_;rintro e w1 ⟨rfl,k,rfl⟩;go_wp2_with fail
 obtain⟨H,b0⟩:=vE W.heap.size
 obtain⟨W2,b1⟩:=vE ((W.drewN k).alloc (.cells #[(),qg,qg,qg,qg,qg,qg,qg,qg,qg,qg,qg,qg,qg,qg,qg,qg] 387))
 have d2:Af W W2:=by rw[b1];exact ((Aa W).drewN k).alloc _
 have d3:Gs () (λ_=>.nil) H (λ_=>.nilIface) (λ_ _=>False) (λx=>x=H) W2:=by rw[b1,b0];exact sN (Ae.new (W.drewN k) _)
 have d4:(W:Nat)<=H:=by rw[b0];exact bO _
 have Z:=J d2;have b2:=J d3;have b3:=J d4;rw[<-b1, <-b0];clear b0 b1 d2 d3 d4;refine Na [0,1,2,3,4,5,6,7,8,9,10,11,12,13,14,15,16,17,19,20,18,21,22] [18,22] Af (Ad λz=>(W:Nat)<=z) Aa Ap (λx y z h k=>Ad.trans h k) (λx y h=>h.mono kZ) vY vY vY ?_;iterate 2 refine vD ?_
 refine Lx _ (b) rfl zh (vS ?_)
 refine vD ?_
 refine Fa b _ rfl (λw1 h1=>De zf (Ed (Am Q0.o Z.o) (((Ad.refl (λz=>(W:Nat)<=z) W2).drew).trans h1) (by exact b6.o))) (vS ?_);iterate 3 refine vD ?_
 refine Lx _ (b) rfl zh (vS ?_)
 refine vD ?_
 refine Fa b _ rfl (λw1 h1=>De zf (Ed (Am Q0.o Z.o) (((Ad.refl (λz=>(W:Nat)<=z) W2).drew).trans h1) (by exact b6.o))) (vS ?_);iterate 4 refine vD ?_
 refine Lx _ (b) rfl zh (vS ?_)
 refine vD ?_
 refine Fa ⟨b,1,none⟩ _ rfl (λw1 h1=>De zf (Ed (Am Q1.o Z.o) (((Ad.refl (λz=>(W:Nat)<=z) W2).drew).trans h1) (by exact b6.o))) (vS ?_);refine Lx _ (H) rfl zh (vS ?_)
 refine vD ?_
 refine Hh _ rfl (λwb hb K hK=>?_);have kb:Af W2 wb:=(Ao _).trans hb;have kw:Af W wb:=Z.o.trans kb;refine Ou (Fb (vX 291) vY) ((Xg wb Dn (q.extract (m+1) q.size) n (.iface T x) ⟨HV.o.Z kw _ _ _ λ_ _ e=>e,λz A=>bE (HD.o z A).2 kw.size⟩ a9.o.1 (kL a9.o.b) (Tl _ _ _ a9.o.C vO)).mono ?_);rintro e w3 ⟨v3,rfl,a2,X⟩
 refine⟨v3,rfl,hK _ _ (X.mono kZ) ?_⟩
 have HS:=J (kT kb a2 X);clear hK K hb kb a2 X kw;refine vS ?_
 refine vD ?_
 refine Hh _ rfl (λwc hc K hK=>?_)
 obtain⟨kb,a2,X⟩:=HS.o
 have b9:=a2.Z hc _ _ _ (λ_ _ e=>e);have kc:Af W2 wc:=(kb.trans X).trans hc
 obtain⟨T3,x3,rfl⟩:=b9.form (FX a9.o.1)
 have a3:∀ z,Du Dn wb w3 z->¬ z=H/\z<(wc:Nat):=λz A=>by have h1:=b2.o.lt H rfl;have h2:=b3.o;have h3:=kb.size;have h4:=X.size;have h5:=hc.size;rcases A with A|A;{have:=(HD.o z A).2;omega};have:=A.1;have:=A.2;omega
 have hg:=(b2.o.Z kc λ_ _ e=>e).give b8.o.1 b9 a3
 obtain⟨old,q7⟩:∃ v,wc.cell? ⟨H,1+Az (q.extract m q.size),none⟩=some v:=⟨_,(b2.o.Z kc λ_ _ e=>e).blk.z1 (bB (by rw[GX];have:=b8.o.1;omega))⟩
 have f7:wc.frozen? ⟨H,1+Az (q.extract m q.size),none⟩=false:=(b2.o.Z kc λ_ _ e=>e).blk.frozen
 obtain⟨WW,a4⟩:=vE (wc.setCell ⟨H,1+Az (q.extract m q.size),none⟩ (.iface T3 x3))
 rw[<-a4]at hg;have a1:Ad (λz=>z=H) wc WW:=by rw[a4];exact Ad.z4 wc ⟨H,1+Az (q.extract m q.size),none⟩ (.iface T3 x3)
 have HG:=J (kX hg a1 kc a3 (show ∀ z,Du Dn wb w3 z->D z\/(W:Nat)<=z from λz A=>A.elim (λe=>.inl (HD.o z e).1) λe=>.inr (bH (bH Z.o.size kb.size) e.1)));rw[b8.o.2]at q7 f7 a4;clear kb a2 X b9 kc a3 hg hc;go_simp;rw[<-a4];refine hK _ _ (a1.mono λz _ e=>by have e:z=H:=e;rw[e];exact b3.o) ?_;clear hK K q7 f7 a4 a1;refine Mt (λwd hd=>?_)
 obtain⟨hg,a1,kc,a3,d5⟩:=HG.o
 have d6:=hg.Z hd (λ_ _ e=>e);have HX:=J (bA d6 (show Af W wd from((Z.o.trans kc).O a1 λz A e=>by have e:z=H:=e;have:=b3.o;omega).trans hd));have HY:Hid (∀ z,(z=H\/Du Dn wb w3 z)->D z\/(W:Nat)<=z):=(λz A=>A.elim (λe=>.inr (by rw[e];exact b3.o)) (d5 z));clear hg a1 kc a3 d5 d6 hd;go_wp2_with fail
 refine (VI wd _ () _ H HX.o.1.pa (p.extract m p.size) u c7.o.1 c7.o.2 e0.o).mono ?_;rintro e w4 ⟨rfl,d7,c0⟩;have d8:=Yc.br d7 c0 HX.o.1.lt;have a8:Ad D W w4:=(HX.o.2.mono kZ).O c0 (λz A e=>by rcases HY.o z e with h|h;{exact h};omega)
 have b4:=J (bA d8 a8);clear d7 c0 d8 a8;unfold Gr;go_wp2_with fail
 refine (Xg w4 _ (p.extract 0 m) _ (Gr H) b4.o.1 d1.o.2 (kL e1.o) (Tl _ _ _ d1.o.1 vO)).mono ?_;rintro e w5 ⟨v5,rfl,b5,a5⟩;have HZ:=J (bA b5 a5);clear b5 a5;go_wp2
 go_ret
 obtain⟨b5,a5⟩:=HZ.o
 refine Bk.y1 (b5.mono λz A=>?_) (b4.o.2.trans (a5.mono kZ));have c3:=BY b4.o.1.lt a5 z A;rcases A with (A|A)|A
 ·rcases HY.o z A with h|h;{exact .inl h};exact .inr ⟨h,c3⟩
 ·exact .inr ⟨bH HX.o.2.size A.1,c3⟩
 ·exact .inr ⟨bH b4.o.2.size A.1,c3⟩
end
def FO:PA->Prop
 |.nil=>True
 |.no=>True
 |.leaf q _=>Dy q=true
 |.ext q n=>Dy q=true/\FO n
 |.br _ ks=>∀ i,FO (ks i)
theorem XG:∀ (P:PA),Dl P->FO P
 |.nil,h=>h.elim
 |.no,h=>h.elim
 |.leaf q v,h=>h.1
 |.ext q n,h=>⟨h.2.1,XG n h.2.2.2⟩
 |.br v ks,h=>λi=>by
  cases hn:(ks i).isNil with
  |true=>rw[Qk hn];trivial
  |false=>exact XG (ks i) (h.2.1 i hn)
theorem WJ:∀ (P:PA),FO P->DT P
 |.nil,_=>λW T x D p u h _ _ _=>by cases h.at'
 |.no,_=>λW T x D p u h _ _ _=>by
  have e:Value.iface T x=Mr:=h.at';unfold Mr at e;injection e with e1 e2;subst e1 e2;exact rQ W D p u
 |.leaf q v,hv=>λW T x D p u h K O A=>by
  obtain⟨b,e,h1,X⟩:=h.at'
  unfold AM at e;injection e with e1 e2;subst e1 e2
  by_cases hpq:p=q
  ·subst hpq
   show Calls _ _ _ W (Bk D W (Ds (.leaf p v) p u));unfold Ds;rw[if_pos rfl];exact r6 W D p v u b X
  ·exact j7 W D q v p u b X hpq hv O A K
 |.ext q n,hv=>λW T x D p u h K O A=>by
  obtain⟨b,T',x',Dn,e,h1,X,h3,h4,h5⟩:=h.at'
  unfold Nl at e;injection e with e1 e2;subst e1 e2;have H:n.isNil=false:=by
   cases n with
   |nil=>cases h3
   |_=>rfl
  have Z:∀ z,Dn z->D z/\z<(W:Nat):=λz hz=>⟨h5 z hz,h.lt z (h5 z hz)⟩
  by_cases hf:Dg q p=q.size
  ·have:=X0 W D q n T' x' Dn b X h3 h4 Z p u hv.1 O A.1 K (Tl _ _ _ A.2 vO) (WJ n hv.2) H hf
   show Calls _ _ _ W (Bk D W (Ds (.ext q n) p u));unfold Ds;rw[if_pos hf,hf];exact this
  ·have:=J8 W D q n T' x' Dn b X h3 h4 Z p u hv.1 O A.1 K A.2 H hf
   show Calls _ _ _ W (Bk D W (Ds (.ext q n) p u));unfold Ds;rw[if_neg hf];exact this
 |.br v ks,hv=>λW T x D p u h K O A=>by
  obtain⟨b,vk,Dk,e,_⟩:=h.at'
  have e0:=e;unfold Gr at e;injection e with e1 e2;subst e1 e2;show Calls _ _ _ W (Bk D W (Ds (.br v ks) p u));unfold Ds
  by_cases h0:p.size=0
  ·rw[if_pos h0,Ov h0]
   exact (mB W D v u ks b h).mono λe w' h=>h.2
  ·rw[if_neg h0]
   cases hk:(ks (Az p)).isNil with
   |true =>
    rw[Qk hk];exact (mA W D v u ks b h p h0 O K hk).mono λe w' h=>h.2
   |false =>
    have a0:=A (Az p) hk;exact (C7 W D v u ks b h p h0 O K hk (Tl _ _ _ a0.2 vO) (WJ (ks (Az p)) (hv _))).mono λe w' h=>h.2
section
attribute [local go_sem] Oper.semAt_some
def Ww(s p:vB):vV:=if Ff p s then .tuple #[s.extract p.size s.size,true]else .tuple #[s,false]
theorem J_(s p:vB)(hs:s.size<=1000000)(hp:p.size<=1000000):vQ 239 #[s,p] w λe w'=>e=.returned (Ww s p)/\w'=w:=by
 unfold Ww;cases hb:Ff p s with
 |true =>have A:=O5 hb;have H:(p.size:Int)<=(s.size:Int):=vO;(have q:=J hb;unfold vQ;go_in;go_wp2_with fail);(refine (VD w s p hs hp).mono ?_;rintro e w1 ⟨rfl,rfl⟩;rw[q.o];go_wp2);go_ret2;exact⟨rfl,rfl⟩
 |false =>(have q:=J hb;unfold vQ;go_in;go_wp2_with fail);(refine (VD w s p hs hp).mono ?_;rintro e w1 ⟨rfl,rfl⟩;rw[q.o];go_wp2);go_ret2;exact⟨rfl,rfl⟩
theorem aB(s p:vB)(hs:s.size<=1000000)(hp:p.size<=1000000):vQ 223 #[s,p] w λe w'=>e=.returned (Ww s p)/\w'=w:=by
 have H:=J (J_ w s p hs hp);unfold Ww at *;cases hb:Ff p s with
 |true =>(rw[hb,if_pos rfl]at H;rw[if_pos rfl];unfold vQ;go_in;go_wp2_with fail);(refine H.o.mono ?_;rintro e w1 ⟨rfl,rfl⟩;go_wp2);go_ret2;exact⟨rfl,rfl⟩
 |false =>(rw[hb,if_neg ff]at H;rw[if_neg ff];unfold vQ;go_in;go_wp2_with fail);(refine H.o.mono ?_;rintro e w1 ⟨rfl,rfl⟩;go_wp2);go_ret2;exact⟨rfl,rfl⟩
def QJ(P:PA):Prop:=∀ (W:vW) (T:TypeId) (x:vV) (D:Nat->Prop) (p:vB),Hq P (.iface T x) D W->p.size<=900000->Dy p=true->Dp P 900000 ->
 vQ (Zb P) #[x,p] W (Bk D W (Ht P p))
theorem N4(D:Nat->Prop)(p:vB):vQ 300 #[.agg #[],p] W (Bk D W .no):=by
 unfold vQ;go_in;go_wp2
 go_ret;exact Bk.y1 rfl (((Aa W).alloc _).mono kZ)
theorem Y7(D:Nat->Prop)(q v p:vB)(b:Nat)(hB:Ae W b (.cells #[q,v] 380))(hD:D b):vQ 286 #[b,p] W (Bk D W (Ht (.leaf q v) p)):=by
 have O:=hB.cell (i:=0) (v:=.string q) vF;have A:=J hB;have H:=J hD;have K:Ht (.leaf q v) p=if p=q then .no else .leaf q v:=rfl
 rw[K]
 by_cases hpq:p=q
 ·rw[if_pos hpq];(have e:(p.toList == q.toList)=true:=by rw[UW];exact decide_eq_true hpq);(unfold vQ;go_in;go_wp2);go_ret;exact Bk.y1 rfl (Ad.refl _ W)
 ·rw[if_neg hpq];(have e:(p.toList == q.toList)=false:=by rw[UW];exact decide_eq_false hpq);(unfold vQ;go_in;go_wp2);go_ret;exact Bk.y1 ⟨b,rfl,.inl H.o,A.o⟩ (Ad.refl _ W)
theorem NK:∀ (P:PA) (p:vB),(Ht P p).isNil=false
 |.nil,_=>rfl
 |.no,_=>rfl
 |.leaf q v,p=>by
  unfold Ht;split<;>rfl
 |.ext q n,p=>by
  unfold Ht;split
  ·exact FX (NK n _)
  ·rfl
 |.br v ks,p=>by
  have A:∀ v ks,(Tz v ks).isNil=false:=by
   intro v ks;have H:∀ i∈Gx ks,(ks i).isNil=false:=λi K=>by
    have:=(cE.1 K).2
    simpa using this
   unfold Tz;cases e:Gx ks with
   |nil =>
    show (if v.size=0 then PA.no else .leaf () v).isNil=false;split<;>rfl
   |cons i r =>
    cases r with
    |nil =>
     show (if v.size=0 then Jq ⟨#[UInt8.ofNat i]⟩ (ks i)else .br v ks).isNil=false;split
     ·exact FX (H i (by rw[e];exact bN))
     ·rfl
    |cons j r=>rfl
  unfold Ht;split
  ·exact A _ _
  ·split
   ·rfl
   ·exact A _ _
theorem J5(D:Nat->Prop)(q:vB)(n:PA)(T:TypeId)(x:vV)(Dn:Nat->Prop)(b:Nat)(hB:Ae W b (.cells #[q,.iface T x] 383))(hDb:D b)(hv:Cc n (.iface T x) Dn W)(hbn:¬ Dn b)(hD:∀ x,Dn x->D x/\x<(W:Nat))(p:vB)(hp:Dy p=true)(hqs:q.size<=900000)(hps:p.size<=900000)(hf:Ff q p=false):vQ 292 #[b,p] W (Bk D W (.ext q n)):=by
 have K:=hB.cell (i:=0) (v:=.string q) vF;have O:=hB.cell (i:=1) (v:=.iface T x) vF;have Q0:=J K;have Q1:=J O;have X:=J hB;have Z:=J hv;have HD:Hid (∀ z,Dn z->D z/\z<(W:Nat)):=hD;have H:=J (bA hDb hbn);have A:=aB W p q vO vO;unfold Ww at A;rw[hf,if_neg ff]at A;have HC:=J A;unfold vQ;go_in;go_wp2_with fail
 refine HC.o.mono ?_;rintro e w1 ⟨rfl,rfl⟩;go_wp2
 go_ret;exact Bk.y1 ⟨b,T,x,Dn,rfl,.inl H.o.1,X.o,Z.o,H.o.2,λz hz=>.inl (HD.o z hz).1⟩ (Ad.refl _ _)
theorem J4(D:Nat->Prop)(q:vB)(n:PA)(T:TypeId)(x:vV)(Dn:Nat->Prop)(b:Nat)(hB:Ae W b (.cells #[q,.iface T x] 383))(hDb:D b)(hv:Cc n (.iface T x) Dn W)(hbn:¬ Dn b)(hD:∀ x,Dn x->D x/\x<(W:Nat))(p:vB)(hp:Dy p=true)(hqs:q.size<=900000)(hps:p.size<=900000)(hd:Dp n 900000)(hk:QJ n)(hf:Ff q p=true):vQ 292 #[b,p] W (Bk D W (Jq q (Ht n (p.extract q.size p.size)))):=by
 have q0:=hB.cell (i:=0) (v:=.string q) vF;have q1:=hB.cell (i:=1) (v:=.iface T x) vF;have Q0:=J q0;have Q1:=J q1;have HB:=J hB;have HV:=J hv;have HD:Hid (∀ z,Dn z->D z/\z<(W:Nat)):=hD;have a0:=aB W p q vO vO;unfold Ww at a0;rw[hf,if_pos rfl]at a0;have HC:=J a0;have b2:=hB.lt;have a4:=J (show ¬(Dn b\/(W:Nat)<=b)from λe=>e.elim hbn λe=>by omega);have a3:Dy (p.extract q.size p.size)=true:=Qo hp _ _;have a8:(p.extract q.size p.size).size<=900000:=by rw[Jw];omega
 have HM:=J hv.meth;have X:=J (show ∀ H,Af W H->vQ (Zb n) #[x,p.extract q.size p.size] H (Bk Dn H (Ht n (p.extract q.size p.size)))from λH e=>hk H T x Dn _ ⟨hv.Z e _ _ _ λ_ _ e=>e,λz A=>bE (hD z A).2 e.size⟩ a8 a3 hd);have a9:Hid (Dp (Ht n (p.extract q.size p.size)) 1000000):=(Tl _ _ _ (LD n 900000 _ hd) vO);unfold vQ;go_in;go_wp2_with fail
 refine HC.o.mono ?_;rintro e Wk ⟨rfl,rfl⟩;go_wp2_with fail
 refine Na [0,1,2,3,4,5,6,7,8,9,10,11] [9,10] Af (Ad λz=>Dn z\/(Wk:Nat)<=z) Aa Ap (λx y z h k=>Ad.trans h k) (λx y h=>h.mono kZ) vY vY vY ?_
 refine vD ?_
 refine Lx _ (b) rfl zh (vS ?_)
 refine vD ?_
 refine Fa b _ rfl (λw1 h1=>De zf (Ed Q0.o (((Ad.refl (λz=>Dn z\/(Wk:Nat)<=z) Wk).drew).trans h1) (by exact a4.o))) (vS ?_)
 refine vD ?_
 refine Lx _ (b) rfl zh (vS ?_)
 refine vD ?_
 refine Fa ⟨b,1,none⟩ _ rfl (λw1 h1=>De zf (Ed Q1.o (((Ad.refl (λz=>Dn z\/(Wk:Nat)<=z) Wk).drew).trans h1) (by exact a4.o))) (vS ?_)
 refine vD ?_
 refine Hh _ rfl (λH hb K hK=>?_);have kb:Af Wk H:=((Aa Wk).drew).trans hb;refine Ou (DZ (f:=Zb n) (vs:=#[p.extract q.size p.size]) rfl (HM.o.drop _) (NL _) vY) ?_;refine (X.o H kb).mono ?_;rintro e w2 ⟨v2,rfl,a1,Z⟩
 refine⟨v2,rfl,hK _ _ (Z.mono λz _ A=>.inl A) ?_⟩
 have HS:=J (kT kb a1 Z);refine vS ?_;refine Hh _ rfl (λwc hc K hK=>?_)
 obtain⟨kb,a1,Z⟩:=HS.o
 have kc:Ad Dn H wc:=Z.trans (hc.mono kZ);have b0:Cc (Ht n (p.extract q.size p.size)) v2 (Du Dn H wc) wc:=(a1.Z hc _ _ _ λ_ _ e=>e).mono (λz A=>A.imp id λe=>⟨e.1,bE e.2 hc.size⟩);have a5:=Bk.own b0 kc (λz A=>bE (HD.o z A).2 kb.size);refine Ou (Fb (vX 291) vY) ((Xg wc _ q _ v2 a5 (NK _ _) vO a9.o).mono ?_);rintro e w5 ⟨v5,rfl,a2,O⟩
 refine⟨v5,rfl,hK _ _ (O.mono kZ) ?_⟩
 have HZ:=J (kU kc a2 O (BY a5.lt O));refine vS ?_
 refine vD ?_
 refine Mt (λwd hd=>?_);have HQ:=J hd;go_wp2
 go_ret
 obtain⟨kb,_,_⟩:=HS.o
 obtain⟨kc,a2,O,b1⟩:=HZ.o
 have hd:=HQ.o;refine Bk.y1 ((a2.Z hd _ _ _ λ_ _ e=>e).mono λz A=>?_) (((kb.mono kZ:Ad D Wk H).trans (kc.mono λz _ A=>(HD.o z A).1)).trans ((O.trans hd).mono kZ));have a7:=bE (b1 z A) hd.size;rcases A with (A|A)|A
 ·exact .inl (HD.o z A).1
 ·exact .inr ⟨bH kb.size A.1,a7⟩
 ·exact .inr ⟨bH (bH kb.size kc.size) A.1,a7⟩
theorem Om:prog.underlying 385=some (.array 16 250):=vY
theorem Ud:(prog.info? 385).map (·.size)=some 16:=vY
theorem Ri:(prog.info? 250).map (·.size)=some 1:=vY
theorem Rh:(isAgg 250).run prog w=.ok false w:=vY
def IZ(vk:Nat->vV):List vV:=(List.range 16).map vk
theorem H6(h:i<16):(IZ vk)[i]?=some (vk i):=by
 unfold IZ;rw[bY,fD h];rfl
theorem Xn{W:vW}{b:Nat}{u:vB}{vk:Nat->vV}(hB:Ae W b (.cells (Uu u vk).toArray 387)):(Instr.loadAt 385 (.pointer (some ⟨b,1,none⟩))).run prog W=.ok (.agg (IZ vk).toArray) W:=by
 have e:W.rangeAt b 1 (IZ vk):=λj v A=>hB.z1 (by rw[jE];exact A);have q:=run_loadVar_mid (P:=prog) W b 1 385 _ _ e Om rfl (by unfold IZ;simp only[bT,iI];exact Ud);simp[Instr.loadAt,Instr.sureAddr,bS,Result.andThen,q]
theorem BT(h:i<16)(w:vW):(Instr.index 385 (.agg (IZ vk).toArray) (i:Int)).run prog w=.ok (vk i) w:=
 MO Om Ri Rh _ i h _ (H6 vk h) w
theorem BP(T:TypeId)(x:vV)(w:vW):(binOp .neq 250 (.iface T x) .nilIface).run prog w=.ok true w:=vY
theorem OX:(binOp .neq 250 .nilIface .nilIface).run prog w=.ok false w:=vY
def Yn(ks:Nat->PA)(k:Nat):List Nat:=(List.range k).filter λi => !(ks i).isNil
theorem KJ(k:Nat):Yn ks (k+1)=Yn ks k++(if (ks k).isNil then []else [k]):=by
 unfold Yn;rw[gM,List.filter_append]
 congr 1
 cases h:(ks k).isNil<;>simp[h]
theorem Cc.kid{W:vW}(h:Cc P v D W):(P.isNil=true/\v=.nilIface)\/(P.isNil=false/\∃ T x,v=.iface T x):=by
 cases hn:P.isNil with
 |true=>rw[Qk hn]at h;exact .inl ⟨rfl,h⟩
 |false=>exact .inr ⟨rfl,h.form hn⟩
def LX(ks:Nat->PA)(W:vW)(cv ov iv:vV)(wr:vW):Prop:=∃ (k c o:Nat),k<=16/\iv=.int .i64 (k:Int)/\cv=.int .i64 (c:Int)/\ov=.int .i64 (o:Int)/\wr=W/\c=(Yn ks k).length/\o=(Yn ks k).getLast?.getD 0
theorem j5(D:Nat->Prop)(v:vB)(ks:Nat->PA)(b:Nat)(h:Hq (.br v ks) (Gr b) D wr)(hi:Gx ks=[])(hv:v.size=0):vQ 299 #[b] wr (Bk D wr .no):=by
 obtain⟨vk,Dk,hb⟩:=h.br
 have O:=Xn hb.blk;have q0:=hb.blk.z1 (i:=0) (v:=.string v) vF;have H:=J hb
 obtain⟨W,hW⟩:=vE wr
 have a0:=Ov hv;subst a0;have HI:=J hi;clear h hb hi hv;rw[<-hW]at O q0 H ⊢;clear hW;unfold vQ;go_in;go_wp2_with (refine Gz 385 (.tmp 9) rfl rfl _ _ rfl O ?_)
 go_loopw [3,4,11] (λcv ov iv wr=>LX ks W cv ov iv wr) (λ_ _ iv _=>16-(intOf iv).toNat)
 case atStart=>exact⟨0,0,0,by omega,rfl,rfl,rfl,rfl,rfl,rfl⟩
 case round =>obtain⟨k,c,o,hk,rfl,rfl,rfl,rfl,K,X⟩:=hrel;by_cases hlt:k<16;{have Z:=BT vk hlt;(have e:=KJ ks k;have a2:c<=16:=by rw[K];exact bH (fF _ _) (by rw[iI];omega));have q:=J (bA K X);rcases (H.o.kid k hlt).1.kid with⟨hn,hv⟩|⟨hn,T,x,hv⟩;{rw[hn,if_pos rfl,cC]at e;rw[hv]at Z;have A:=J e;clear e K X hn hv;go_wp2;go_roundw;(case rel=>exact⟨k+1,c,o,by omega,by go_num,rfl,rfl,rfl,by rw[A.o];exact q.o.1,by rw[A.o];exact q.o.2⟩);case measure=>exact vJ};rw[hn,if_neg ff]at e;rw[hv]at Z;have hq:=BP T x;have A:=J e;clear e K X hn hv;go_wp2;go_roundw;(case rel=>exact⟨k+1,c+1,k,by omega,by go_num,by go_num,rfl,rfl,by rw[A.o,bK, <-q.o.1];rfl,by rw[A.o];simp⟩);case measure=>exact vJ};obtain rfl:k=16:=vO;(have q:=J (bA K X);clear K X;have a1:c=0:=by rw[q.o.1];show (Gx ks).length=0;rw[HI.o];rfl);(subst a1;go_wp2);go_ret;exact Bk.y1 rfl (Ad.refl _ _)
theorem j4(D:Nat->Prop)(v:vB)(ks:Nat->PA)(b:Nat)(h:Hq (.br v ks) (Gr b) D wr)(hi:Gx ks=[])(hv:v.size≠0):vQ 299 #[b] wr (Bk D wr (.leaf () v)):=by
 obtain⟨vk,Dk,hb⟩:=h.br
 have X:=Xn hb.blk;have q0:=hb.blk.z1 (i:=0) (v:=.string v) vF;have H:=J hb;have a2:=Wz hv;clear hv
 obtain⟨W,hW⟩:=vE wr
 have HI:=J hi;rw[<-hW]at X q0 H ⊢;clear h hb hi hW;unfold vQ;go_in;go_wp2_with (refine Gz 385 (.tmp 9) rfl rfl _ _ rfl X ?_)
 go_loopw [3,4,11] (λcv ov iv wr=>LX ks W cv ov iv wr) (λ_ _ iv _=>16-(intOf iv).toNat)
 case atStart=>exact⟨0,0,0,by omega,rfl,rfl,rfl,rfl,rfl,rfl⟩
 case round =>obtain⟨k,c,o,hk,rfl,rfl,rfl,rfl,O,Z⟩:=hrel;by_cases hlt:k<16;{have a0:=BT vk hlt;(have q:=KJ ks k;have a3:c<=16:=by rw[O];exact bH (fF _ _) (by rw[iI];omega));have A:=J (bA O Z);rcases (H.o.kid k hlt).1.kid with⟨hn,hv⟩|⟨hn,T,x,hv⟩;{rw[hn,if_pos rfl,cC]at q;rw[hv]at a0;have K:=J q;clear q O Z hn hv;go_wp2;go_roundw;(case rel=>exact⟨k+1,c,o,by omega,by go_num,rfl,rfl,rfl,by rw[K.o];exact A.o.1,by rw[K.o];exact A.o.2⟩);case measure=>exact vJ};rw[hn,if_neg ff]at q;rw[hv]at a0;have hq:=BP T x;have K:=J q;clear q O Z hn hv;go_wp2;go_roundw;(case rel=>exact⟨k+1,c+1,k,by omega,by go_num,by go_num,rfl,rfl,by rw[K.o,bK, <-A.o.1];rfl,by rw[K.o];simp⟩);case measure=>exact vJ};obtain rfl:k=16:=vO;(have A:=J (bA O Z);clear O Z;have a1:c=0:=by rw[A.o.1];show (Gx ks).length=0;rw[HI.o];rfl);(subst a1;go_wp2);go_ret;have hB:=Ae.new wr (.cells #[(),v] 380);exact Bk.y1 ⟨_,rfl,.inr ⟨bO _,hB.lt⟩,hB⟩ (((Aa wr).alloc _).mono kZ)
theorem c1(D:Nat->Prop)(v:vB)(ks:Nat->PA)(b:Nat)(h:Hq (.br v ks) (Gr b) D wr)(i:Nat)(hi:Gx ks=[i])(hv:v.size≠0):vQ 299 #[b] wr (Bk D wr (.br v ks)):=by
 obtain⟨vk,Dk,hb⟩:=h.br
 have O:=Xn hb.blk;have q0:=hb.blk.z1 (i:=0) (v:=.string v) vF;have H:=J hb;have a1:=Wz hv;clear hv
 obtain⟨W,hW⟩:=vE wr
 have HI:=J hi;rw[<-hW]at O q0 H ⊢;clear h hb hi hW;unfold vQ;go_in;go_wp2_with (refine Gz 385 (.tmp 9) rfl rfl _ _ rfl O ?_)
 go_loopw [3,4,11] (λcv ov iv wr=>LX ks W cv ov iv wr) (λ_ _ iv _=>16-(intOf iv).toNat)
 case atStart=>exact⟨0,0,0,by omega,rfl,rfl,rfl,rfl,rfl,rfl⟩
 case round =>obtain⟨k,c,o,hk,rfl,rfl,rfl,rfl,K,X⟩:=hrel;by_cases hlt:k<16;{have Z:=BT vk hlt;(have e:=KJ ks k;have a2:c<=16:=by rw[K];exact bH (fF _ _) (by rw[iI];omega));have q:=J (bA K X);rcases (H.o.kid k hlt).1.kid with⟨hn,hv⟩|⟨hn,T,x,hv⟩;{rw[hn,if_pos rfl,cC]at e;rw[hv]at Z;have A:=J e;clear e K X hn hv;go_wp2;go_roundw;(case rel=>exact⟨k+1,c,o,by omega,by go_num,rfl,rfl,rfl,by rw[A.o];exact q.o.1,by rw[A.o];exact q.o.2⟩);case measure=>exact vJ};rw[hn,if_neg ff]at e;rw[hv]at Z;have hq:=BP T x;have A:=J e;clear e K X hn hv;go_wp2;go_roundw;(case rel=>exact⟨k+1,c+1,k,by omega,by go_num,by go_num,rfl,rfl,by rw[A.o,bK, <-q.o.1];rfl,by rw[A.o];simp⟩);case measure=>exact vJ};obtain rfl:k=16:=vO;(have q:=J (bA K X);clear K X;have a0:c=1:=by rw[q.o.1];show (Gx ks).length=1;rw[HI.o];rfl);(subst a0;go_wp2);go_ret;exact Bk.y1 (H.o.pa.at'.mono λx hx=>.inl hx) (Ad.refl _ _)
theorem c2(D:Nat->Prop)(v:vB)(ks:Nat->PA)(b:Nat)(h:Hq (.br v ks) (Gr b) D wr)(hi:2<=(Gx ks).length):vQ 299 #[b] wr (Bk D wr (.br v ks)):=by
 obtain⟨vk,Dk,hb⟩:=h.br
 have O:=Xn hb.blk;have q0:=hb.blk.z1 (i:=0) (v:=.string v) vF;have H:=J hb
 obtain⟨W,hW⟩:=vE wr
 have HI:=J hi;rw[<-hW]at O q0 H ⊢;clear h hb hi hW;unfold vQ;go_in;go_wp2_with (refine Gz 385 (.tmp 9) rfl rfl _ _ rfl O ?_)
 go_loopw [3,4,11] (λcv ov iv wr=>LX ks W cv ov iv wr) (λ_ _ iv _=>16-(intOf iv).toNat)
 case atStart=>exact⟨0,0,0,by omega,rfl,rfl,rfl,rfl,rfl,rfl⟩
 case round =>obtain⟨k,c,o,hk,rfl,rfl,rfl,rfl,K,X⟩:=hrel;by_cases hlt:k<16;{have Z:=BT vk hlt;(have e:=KJ ks k;have a1:c<=16:=by rw[K];exact bH (fF _ _) (by rw[iI];omega));have q:=J (bA K X);rcases (H.o.kid k hlt).1.kid with⟨hn,hv⟩|⟨hn,T,x,hv⟩;{rw[hn,if_pos rfl,cC]at e;rw[hv]at Z;have A:=J e;clear e K X hn hv;go_wp2;go_roundw;(case rel=>exact⟨k+1,c,o,by omega,by go_num,rfl,rfl,rfl,by rw[A.o];exact q.o.1,by rw[A.o];exact q.o.2⟩);case measure=>exact vJ};rw[hn,if_neg ff]at e;rw[hv]at Z;have hq:=BP T x;have A:=J e;clear e K X hn hv;go_wp2;go_roundw;(case rel=>exact⟨k+1,c+1,k,by omega,by go_num,by go_num,rfl,rfl,by rw[A.o,bK, <-q.o.1];rfl,by rw[A.o];simp⟩);case measure=>exact vJ};obtain rfl:k=16:=vO;(have q:=J (bA K X);clear K X;have a0:2<=c:=by rw[q.o.1];exact HI.o);(have g0:((c:Int) == 0)=false:=by simp;omega);(have g1:((c:Int) == 1)=false:=by simp;omega);(clear a0;go_wp2);go_ret;exact Bk.y1 (H.o.pa.at'.mono λx hx=>.inl hx) (Ad.refl _ _)
theorem r3(D:Nat->Prop)(v:vB)(ks:Nat->PA)(b:Nat)(h:Hq (.br v ks) (Gr b) D wr)(i:Nat)(hi:Gx ks=[i])(hv:v.size=0)(hd:Dp (.br v ks) 900000):vQ 299 #[b] wr (Bk D wr (Jq (Eh i) (ks i))):=by
 obtain⟨vk,Dk,hb⟩:=h.br
 have a5:=Xn hb.blk;have q0:=hb.blk.z1 (i:=0) (v:=.string v) vF;have H:=J hb;have b1:=Ov hv;subst b1;have b2:=J hd;clear hv hd
 obtain⟨W,hW⟩:=vE wr
 have HI:=J hi;rw[<-hW]at a5 q0 H ⊢;clear h hb hi hW;unfold vQ;go_in;go_wp2_with (refine Gz 385 (.tmp 9) rfl rfl _ _ rfl a5 ?_)
 go_loopw [3,4,11] (λcv ov iv wr=>LX ks W cv ov iv wr) (λ_ _ iv _=>16-(intOf iv).toNat)
 case atStart=>exact⟨0,0,0,by omega,rfl,rfl,rfl,rfl,rfl,rfl⟩
 case round =>obtain⟨k,c,o,hk,rfl,rfl,rfl,rfl,hc,ho⟩:=hrel;by_cases hlt:k<16;{have b0:=BT vk hlt;(have O:=KJ ks k;have b7:c<=16:=by rw[hc];exact bH (fF _ _) (by rw[iI];omega));have X:=J (bA hc ho);rcases (H.o.kid k hlt).1.kid with⟨hn,hv⟩|⟨hn,T,x,hv⟩;{rw[hn,if_pos rfl,cC]at O;rw[hv]at b0;have Z:=J O;clear O hc ho hn hv;go_wp2;go_roundw;(case rel=>exact⟨k+1,c,o,by omega,by go_num,rfl,rfl,rfl,by rw[Z.o];exact X.o.1,by rw[Z.o];exact X.o.2⟩);case measure=>exact vJ};rw[hn,if_neg ff]at O;rw[hv]at b0;have hq:=BP T x;have Z:=J O;clear O hc ho hn hv;go_wp2;go_roundw;(case rel=>exact⟨k+1,c+1,k,by omega,by go_num,by go_num,rfl,rfl,by rw[Z.o,bK, <-X.o.1];rfl,by rw[Z.o];simp⟩);case measure=>exact vJ};obtain rfl:k=16:=vO;(have X:=J (bA hc ho);clear hc ho;have b3:c=1:=by rw[X.o.1];show (Gx ks).length=1;rw[HI.o];rfl);(have a7:o=i:=by rw[X.o.2];show (Gx ks).getLast?.getD 0=i;rw[HI.o];rfl);(subst b3;have a2:i∈Gx ks:=by rw[HI.o];exact bN);(have q:i<16:=dY.1 (cE.1 a2).1;have a0:(ks i).isNil=false:=by have:=(cE.1 a2).2;simpa using this);rw[<-a7]at a2 q a0;have b4:=J a7;have A:=H.o.kid o q;obtain⟨T,x,a8⟩:=A.1.form a0;have qk:=H.o.blk.z1 (BV () vk q);rw[a8]at qk;have QK:=J qk;have a3:=J (show Cc (ks o) (.iface T x) (Dk o) wr/\(∀ z,Dk o z->z<(wr:Nat))/\(ks o).isNil=false/\Dp (ks o) 1000000 from⟨by rw[<-a8];exact A.1,λz hz=>H.o.lt z (A.2.2 z hz),a0,Tl _ _ _ (b2.o o a0).2 vO⟩);have b5:=J A.2.2;have a9:o<16:=q;have c1:(o:Int)<16:=vO;(clear a2 q a0 A a8 qk a7 a5;go_wp2_with fail);(refine Hs [0,1,4,5,6,7,8,9,2,3,10,11] (Af) Aa Ap vY vY vY ?_;iterate 4 refine vK ?_);(refine Jf _ (b) rfl zh (vS ?_);iterate 2 refine vK ?_);refine Db ⟨b,1+o,none⟩ _ rfl (λw1 h1=>De zf (Am (Am QK.o (Ao _)) h1)) (vS ?_);refine CW _ rfl vY rfl (λw2 he K hK=>?_);have b6:=J (show Af wr w2 from(Ao _).trans he);clear he;go_simp;refine hK _ _ ((Ad.refl _ w2).alloc _) ?_;clear hK K;refine Jf _ (Eh o) rfl (λw3 h3=>E_ vY h3 kI a9) (vS ?_);refine CW _ rfl vY rfl (λwc hc K hK=>?_);have kc:Af wr wc:=(b6.o.alloc _).trans hc;refine Ou (Fb (vX 291) vY) ((Xg wc (Dk o) (Eh o) (ks o) (.iface T x) ⟨a3.o.1.Z kc _ _ _ λ_ _ e=>e,λz hz=>bE (a3.o.b z hz) kc.size⟩ a3.o.c (by show 1<=_;omega) a3.o.D).mono ?_);rintro e w5 ⟨v5,rfl,a4,a1⟩;refine⟨v5,rfl,hK _ _ a1 ?_⟩;have HZ:=J (kT kc a4 a1);clear hK K hc kc a4 a1;refine vS ?_;refine vK ?_;(refine Hi (λwd hd=>?_);have HQ:=J hd;clear hd;go_wp2);go_ret;obtain⟨kc,a4,a1⟩:=HZ.o;have hd:=HQ.o;rw[<-b4.o];refine Bk.y1 ((a4.Z hd _ _ _ λ_ _ e=>e).mono λz hz=>?_) (((kc.trans a1).trans hd).mono kZ);rcases hz with hz|hz;{exact .inl (b5.o z hz)};exact .inr ⟨bH kc.size hz.1,bE hz.2 hd.size⟩
theorem WZ(D:Nat->Prop)(v:vB)(ks:Nat->PA)(b:Nat)(h:Hq (.br v ks) (Gr b) D W)(hd:Dp (.br v ks) 900000):vQ 299 #[b] W (Bk D W (Tz v ks)):=by
 unfold Tz;cases hi:Gx ks with
 |nil =>show Calls _ _ _ W (Bk D W (if v.size=0 then PA.no else .leaf () v));by_cases h0:v.size=0;{rw[if_pos h0];exact j5 W D v ks b h hi h0};rw[if_neg h0];exact j4 W D v ks b h hi h0
 |cons i r =>cases r with| nil =>show Calls _ _ _ W (Bk D W (if v.size=0 then Jq ⟨#[UInt8.ofNat i]⟩ (ks i)else .br v ks));by_cases h0:v.size=0;{rw[if_pos h0];exact r3 W D v ks b h i hi h0 hd};rw[if_neg h0];exact c1 W D v ks b h i hi h0| cons j r=>exact c2 W D v ks b h (by rw[hi];simp)
theorem n6(D:Nat->Prop)(v:vB)(ks:Nat->PA)(b:Nat)(h:Hq (.br v ks) (Gr b) D W)(hd:Dp (.br v ks) 900000):vQ 296 #[b,()] W (Bk D W (Tz () ks)):=by
 obtain⟨vk,Dk,hb⟩:=h.br
 have q0:=hb.blk.z1 (i:=0) (v:=.string v) vF;have f0:W.frozen? b=false:=hb.blk.frozen;have H:=J hb;have HD:Hid (Dp (.br () ks) 900000):=hd;have a0:(⟨#[]⟩:vB).toList.isEmpty=true:=by rw[cA];rfl
 unfold vQ;go_in;go_wp2_with fail
 obtain⟨W1,K⟩:=vE (W.setCell b ())
 have X:Ad D W W1:=by rw[K];exact (Ad.z4 W b ()).mono (λx _ e=>by have e:x=b:=e;rw[e];exact H.o.mem)
 have O:=H.o.val ();rw[<-K]at O ⊢;have Z:=J (bA O X);refine (WZ W1 D () ks b Z.o.1.pa HD.o).mono ?_;rintro e w2 ⟨v2,rfl,q,A⟩;have HZ:=J (bA q A);go_wp2
 go_ret
 obtain⟨q,A⟩:=HZ.o
 exact Bk.y1 (q.mono λx hx=>hx.imp id λe=>⟨bH Z.o.2.size e.1,e.2⟩) (Z.o.2.trans A)
theorem B9(D:Nat->Prop)(v:vB)(ks:Nat->PA)(b:Nat)(h:Hq (.br v ks) (Gr b) D W)(p:vB)(h0:p.size≠0)(hp:Dy p=true)(hs:p.size<=900000)(hn:(ks (Az p)).isNil=true):vQ 296 #[b,p] W (Bk D W (.br v ks)):=by
 obtain⟨vk,Dk,hb⟩:=h.br
 obtain⟨y,t,O⟩:=Tn h0
 obtain⟨e1,e2⟩:=Se O
 have e:=Yv hp h0
 obtain⟨g0,A⟩:=Xo O
 have a1:=Wz h0;have H:=BK hp;have X:(Fw p).size<=900000:=by unfold Fw;rw[Jw];omega
 have Z:Az p=(p[0]'g0).toNat:=by rw[e1,A]
 have q:=hb.kid (Az p) e;have K:vk (Az p)=.nilIface:=by have:=q.1;rw[Qk hn]at this;exact this
 have q1:=hb.blk.z1 (BV v vk e);rw[K]at q1;have HB:=J hb;have a2:=J Z;have a0:=J e;have c1:(0:Int)<(p.size:Int):=vO
 have c2:((p[0]'g0).toNat:Int)<16:=vO
 have c3:(1:Int)<=(p.size:Int):=vO
 rw[Z]at q1;have hq:=xG;clear h K O e1 e2 h0 hp hn A H X e Z hb q;unfold vQ;go_in;go_wp2
 go_ret;exact Bk.y1 (HB.o.pa.at'.mono λx hx=>.inl hx) (Ad.refl _ _)
theorem z7{T:TypeId}{x:vV}{W:vW}(h:Cc P (.iface T x) D W)(hn:P.isNo=false)(w:vW):(Instr.typeAssert (.iface T x) 250 389 true).run prog w=.ok (.tuple #[.agg #[],false]) w:=by
 cases P with
 |nil=>cases h
 |no=>cases hn
 |leaf q u=>obtain⟨b,h,_⟩:=h;unfold AM at h;injection h with h1 h2;subst h1 h2;kernel_rfl
 |ext q n=>obtain⟨b,_,_,_,h,_⟩:=h;unfold Nl at h;injection h with h1 h2;subst h1 h2;kernel_rfl
 |br u ks=>obtain⟨b,_,_,h,_⟩:=h;unfold Gr at h;injection h with h1 h2;subst h1 h2;kernel_rfl
theorem n5(D:Nat->Prop)(v:vB)(ks:Nat->PA)(b:Nat)(h:Hq (.br v ks) (Gr b) D W)(p:vB)(h0:p.size≠0)(hp:Dy p=true)(hs:p.size<=900000)(hn:(ks (Az p)).isNil=false)(hd:Dp (.br v ks) 900000)(hk:QJ (ks (Az p)))(hno:(Ht (ks (Az p)) (Fw p)).isNo=false):vQ 296 #[b,p] W (Bk D W (Tz v (Cd ks (Az p) (Ht (ks (Az p)) (Fw p))))):=by
 obtain⟨vk,Dk,hb⟩:=h.br
 obtain⟨y,t,hy⟩:=Tn h0
 obtain⟨e1,e2⟩:=Se hy
 have A:=Yv hp h0
 obtain⟨g0,b7⟩:=Xo hy
 have d2:=Wz h0;have a9:=BK hp;have b8:(Fw p).size<=900000:=by unfold Fw;rw[Jw];omega
 have hI:Az p=(p[0]'g0).toNat:=by rw[e1,b7]
 have H:=hb.kid (Az p) A
 obtain⟨T,x,b1⟩:=H.1.form hn
 have q1:=hb.blk.z1 (BV v vk A);rw[b1]at q1;have Q1:=J q1;have HB:=J hb;have HM:=J ((show Cc (ks (Az p)) (.iface T x) (Dk (Az p)) W by rw[<-b1];exact H.1).meth);have b2:=hd (Az p) hn;have a1:=J (show ∀ Z,Af W Z->vQ (Zb (ks (Az p))) #[x,Fw p] Z (Bk (Dk (Az p)) Z (Ht (ks (Az p)) (Fw p)))from λZ e=>hk Z T x _ _ ⟨(show Cc (ks (Az p)) (.iface T x) (Dk (Az p)) W by rw[<-b1];exact H.1).Z e _ _ _ λ_ _ e=>e,λz O=>bE (hb.lt z (H.2.2 z O)) e.size⟩ b8 a9 (Tl _ _ _ b2.2 vO));have c0:Hid (Dp (.br v (Cd ks (Az p) (Ht (ks (Az p)) (Fw p)))) 900000):=EU hd b2.1 (LD _ _ _ b2.2) v;have c4:=J (show ¬(Dk (Az p) b\/(W:Nat)<=b)from λe=>e.elim (hb.kid _ A).2.1 λe=>kL (hb.lt b hb.mem));have hQ:=WR T x;have b9:=J hI;have q:=J A;have c1:(0:Int)<(p.size:Int):=vO
 have c2:((p[0]'g0).toNat:Int)<16:=vO
 have c3:(1:Int)<=(p.size:Int):=vO
 rw[hI]at q1;have c5:=J hno;clear h b1 hy e1 e2 h0 hp hn b7 a9 b8 A hI hb H hd b2 hk hno;unfold vQ;go_in;go_wp2_with fail
 refine BF [0,1,2,3,4,5,6,7,8,9,10,11,13,14,12,15] 16 [12] Af (Ad λz=>Dk (Az p) z\/(W:Nat)<=z) Aa Ap (λx y z h k=>Ad.trans h k) (λx y h=>h.mono kZ) vY vY vY ?_;iterate 4 refine vZ ?_
 refine Qs _ (b) rfl zf (vS ?_);iterate 2 refine vZ ?_
 refine Vi ⟨b,1+(p[0]'g0).toNat,none⟩ _ rfl (λw1 h1=>De zf (by rw[<-b9.o];exact Ed Q1.o (((Ad.refl (λz=>Dk (Az p) z\/(W:Nat)<=z) W).drew).trans h1) (by exact c4.o))) ?_;refine vS ?_;iterate 2 refine vZ ?_
 refine Qs _ (.iface T x) rfl zf (vS ?_)
 refine vZ ?_
 refine Qs _ (b) rfl zf (vS ?_)
 refine vZ ?_
 refine Zs _ rfl vY rfl (λZ hb K hK=>?_);have kb:Af W Z:=(Ao _).trans hb;refine Ou (DZ (f:=Zb (ks (Az p))) (vs:=#[Fw p]) rfl (HM.o.drop _) (NL _) vY) ?_;refine (a1.o Z kb).mono ?_;rintro e w2 ⟨v2,rfl,a5,a2⟩
 refine⟨v2,rfl,hK _ _ (a2.mono λz _ O=>.inl O) ?_⟩
 have HS:=J (kT kb a5 a2);clear hK K hb kb a5 a2;refine vS ?_
 refine vZ ?_
 refine BJ _ rfl vY rfl (λwc hc K hK=>?_)
 obtain⟨hb,a5,a2⟩:=HS.o
 have X:=HB.o.Z (F:=λ_=>False) (hb) (λ_ _ e=>e);have kc:Ad (Dk (Az p)) Z wc:=a2.trans (hc.mono kZ);have b3:Cc (Ht (ks (Az p)) (Fw p)) v2 (Du (Dk (Az p)) Z wc) wc:=(a5.Z hc _ _ _ λ_ _ e=>e).mono (λz O=>O.imp id λe=>⟨e.1,bE e.2 hc.size⟩)
 obtain⟨T2,x2,rfl⟩:=b3.form (NK _ _)
 have ht:=X.turn q.o kc b3;have a3:=X.y4 q.o kc (.iface T2 x2)
 obtain⟨old,q7⟩:∃ v,wc.cell? ⟨b,1+Az p,none⟩=some v:=⟨_,(X.blk.Z kc (X.kid _ q.o).2.1).z1 (bB (by rw[GX];have:=q.o;omega))⟩
 have f7:wc.frozen? ⟨b,1+Az p,none⟩=false:=(X.blk.Z kc (X.kid _ q.o).2.1).frozen
 obtain⟨W3,a7⟩:=vE (wc.setCell ⟨b,1+Az p,none⟩ (.iface T2 x2))
 rw[<-a7]at ht a3
 obtain⟨c7,a0⟩:=vE (setV vk (Az p) (.iface T2 x2))
 obtain⟨d3,b0⟩:=vE (λj=>if j=Az p then Du (Dk (Az p)) Z wc else Dk j)
 rw[<-a0, <-b0]at ht;have c8:W3.cell? ⟨b,1+Az p,none⟩=some (.iface T2 x2):=by have:=ht.blk.z1 (BV v c7 q.o);rw[this,a0];show some (setV vk (Az p) (.iface T2 x2) (Az p))=_;unfold setV;rw[if_pos rfl]
 have HT:=J (kU ht a3 hb (show (W3:Nat)=↑wc by rw[a7];exact fT _ _ _));have c9:=J b3;rw[b9.o]at q7 f7 a7 c8;clear hb a5 a2 X kc b3 ht a3 hc;go_simp;rw[<-a7];refine hK _ _ ?_;clear hK K q7 f7 a7 a0 b0;have d4:∀ w,(Instr.typeAssert (.iface T2 x2) 250 389 true).run prog w=.ok (.tuple #[.agg #[],false]) w:=z7 c9.o c5.o;go_wp2_with fail
 obtain⟨W4,b5⟩:=vE (W3.alloc (.cells #[] 389))
 have a4:Af W3 W4:=by rw[b5];exact (Aa W3).alloc _
 rw[<-b5];have b6:=J (bA (HT.o.1.Z a4 λ_ _ e=>e) a4);clear a4 b5;refine (WZ W4 _ v _ b b6.o.1.pa c0.o).mono ?_;rintro e w6 ⟨v6,rfl,b4,a8⟩;have HZ:=J (kT b4 a8 (BY b6.o.1.lt a8));clear b4 a8;go_wp2
 go_ret
 obtain⟨b4,a8,d0⟩:=HZ.o
 obtain⟨ht,a3,hb,d5⟩:=HT.o
 obtain⟨_,a4⟩:=b6.o
 have d6:(W:Nat)<=↑W3:=by have:=hb.size;have:=a3.size;omega
 have d1:=a4.size;have g1:∀ z,Du D Z wc z->D z\/(W:Nat)<=z:=λz O=>O.imp id (λe=>bH hb.size e.1);refine Bk.y1 (b4.mono λz O=>?_) ?_
 ·have hl:=d0 z O;rcases O with O|O;{exact (g1 z O).imp id (λe=>⟨e,hl⟩)};exact .inr ⟨kL O.1,hl⟩
 ·have k1:Ad D W W3:=(hb.mono kZ:Ad D W Z).trans a3;have k2:Ad D W W4:=k1.trans (a4.mono kZ);exact k2.O a8 (λz O e=>(g1 z e).elim id λe=>by omega)
theorem e8(D:Nat->Prop)(v:vB)(ks:Nat->PA)(b:Nat)(h:Hq (.br v ks) (Gr b) D W)(p:vB)(h0:p.size≠0)(hp:Dy p=true)(hs:p.size<=900000)(hn:(ks (Az p)).isNil=false)(hd:Dp (.br v ks) 900000)(hk:QJ (ks (Az p)))(hno:(Ht (ks (Az p)) (Fw p)).isNo=true):vQ 296 #[b,p] W (Bk D W (Tz v (Cd ks (Az p) .nil))):=by
 obtain⟨vk,Dk,hb⟩:=h.br
 obtain⟨y,t,hy⟩:=Tn h0
 obtain⟨e1,e2⟩:=Se hy
 have H:=Yv hp h0
 obtain⟨g0,c8⟩:=Xo hy
 have d9:=Wz h0;have b0:=BK hp;have c9:(Fw p).size<=900000:=by unfold Fw;rw[Jw];omega
 have hI:Az p=(p[0]'g0).toNat:=by rw[e1,c8]
 have O:=hb.kid (Az p) H
 obtain⟨T,x,b3⟩:=O.1.form hn
 have q1:=hb.blk.z1 (BV v vk H);rw[b3]at q1;have Q1:=J q1;have HB:=J hb;have HM:=J ((show Cc (ks (Az p)) (.iface T x) (Dk (Az p)) W by rw[<-b3];exact O.1).meth);have b8:=hd (Az p) hn;have a1:=J (show ∀ Z,Af W Z->vQ (Zb (ks (Az p))) #[x,Fw p] Z (Bk (Dk (Az p)) Z (Ht (ks (Az p)) (Fw p)))from λZ e=>hk Z T x _ _ ⟨(show Cc (ks (Az p)) (.iface T x) (Dk (Az p)) W by rw[<-b3];exact O.1).Z e _ _ _ λ_ _ e=>e,λz A=>bE (hb.lt z (O.2.2 z A)) e.size⟩ c9 b0 (Tl _ _ _ b8.2 vO));have d2:Hid (Dp (.br v (Cd ks (Az p) .nil)) 900000):=EU hd b8.1 ((show Dp PA.nil (900000-1)from trivial)) v;have d3:=J (show ¬(Dk (Az p) b\/(W:Nat)<=b)from λe=>e.elim (hb.kid _ H).2.1 λe=>kL (hb.lt b hb.mem));have hQ:=WR T x;have b9:=J hI;have q:=J H;have c1:(0:Int)<(p.size:Int):=vO
 have c2:((p[0]'g0).toNat:Int)<16:=vO
 have c3:(1:Int)<=(p.size:Int):=vO
 rw[hI]at q1;have d4:=J hno;clear h b3 hy e1 e2 h0 hp hn c8 b0 c9 H hI hb O hd b8 hk hno;unfold vQ;go_in;go_wp2_with fail
 refine BF [0,1,2,3,4,5,6,7,8,9,10,11,13,14,12,15] 16 [12] Af (Ad λz=>Dk (Az p) z\/(W:Nat)<=z) Aa Ap (λx y z h k=>Ad.trans h k) (λx y h=>h.mono kZ) vY vY vY ?_;iterate 4 refine vZ ?_
 refine Qs _ (b) rfl zf (vS ?_);iterate 2 refine vZ ?_
 refine Vi ⟨b,1+(p[0]'g0).toNat,none⟩ _ rfl (λw1 h1=>De zf (by rw[<-b9.o];exact Ed Q1.o (((Ad.refl (λz=>Dk (Az p) z\/(W:Nat)<=z) W).drew).trans h1) (by exact d3.o))) ?_;refine vS ?_;iterate 2 refine vZ ?_
 refine Qs _ (.iface T x) rfl zf (vS ?_)
 refine vZ ?_
 refine Qs _ (b) rfl zf (vS ?_)
 refine vZ ?_
 refine Zs _ rfl vY rfl (λZ hb K hK=>?_);have kb:Af W Z:=(Ao _).trans hb;refine Ou (DZ (f:=Zb (ks (Az p))) (vs:=#[Fw p]) rfl (HM.o.drop _) (NL _) vY) ?_;refine (a1.o Z kb).mono ?_;rintro e w2 ⟨v2,rfl,a7,a2⟩
 refine⟨v2,rfl,hK _ _ (a2.mono λz _ A=>.inl A) ?_⟩
 have HS:=J (kT kb a7 a2);clear hK K hb kb a7 a2;refine vS ?_
 refine vZ ?_
 refine BJ _ rfl vY rfl (λwc hc K hK=>?_)
 obtain⟨hb,a7,a2⟩:=HS.o
 have X:=HB.o.Z (F:=λ_=>False) (hb) (λ_ _ e=>e);have kc:Ad (Dk (Az p)) Z wc:=a2.trans (hc.mono kZ);have b4:Cc (Ht (ks (Az p)) (Fw p)) v2 (Du (Dk (Az p)) Z wc) wc:=(a7.Z hc _ _ _ λ_ _ e=>e).mono (λz A=>A.imp id λe=>⟨e.1,bE e.2 hc.size⟩)
 obtain⟨T2,x2,rfl⟩:=b4.form (NK _ _)
 have ht:=X.turn q.o kc b4;have a3:=X.y4 q.o kc (.iface T2 x2)
 obtain⟨old,q7⟩:∃ v,wc.cell? ⟨b,1+Az p,none⟩=some v:=⟨_,(X.blk.Z kc (X.kid _ q.o).2.1).z1 (bB (by rw[GX];have:=q.o;omega))⟩
 have f7:wc.frozen? ⟨b,1+Az p,none⟩=false:=(X.blk.Z kc (X.kid _ q.o).2.1).frozen
 obtain⟨W3,a8⟩:=vE (wc.setCell ⟨b,1+Az p,none⟩ (.iface T2 x2))
 rw[<-a8]at ht a3
 obtain⟨d5,a0⟩:=vE (setV vk (Az p) (.iface T2 x2))
 obtain⟨e0,b1⟩:=vE (λj=>if j=Az p then Du (Dk (Az p)) Z wc else Dk j)
 rw[<-a0, <-b1]at ht;have c0:W3.cell? ⟨b,1+Az p,none⟩=some (.iface T2 x2):=by have:=ht.blk.z1 (BV v d5 q.o);rw[this,a0];show some (setV vk (Az p) (.iface T2 x2) (Az p))=_;unfold setV;rw[if_pos rfl]
 have HT:=J (kU ht a3 hb (show (W3:Nat)=↑wc by rw[a8];exact fT _ _ _));have d6:=J b4;rw[b9.o]at q7 f7 a8 c0;clear hb a7 a2 X kc b4 ht a3 hc;go_simp;rw[<-a8];refine hK _ _ ?_;clear hK K q7 f7 a8 a0 b1;have d0:Value.iface T2 x2=Mr:=by have:=d6.o;rw[qR d4.o]at this;exact this
 unfold Mr at d0;injection d0 with hn1 hn2;subst hn1 hn2;have e3:∀ w,(Instr.typeAssert (.iface 389 (.agg #[])) 250 389 true).run prog w=.ok (.tuple #[.agg #[],true]) w:=λw=>by kernel_rfl
 have q4:(W3.alloc (.cells #[] 389)).cell? ⟨b,1+(p[0]'g0).toNat,none⟩=some (.iface 389 (.agg #[])):=Am c0 ((Aa W3).alloc _);have f4:(W3.alloc (.cells #[] 389)).frozen? ⟨b,1+(p[0]'g0).toNat,none⟩=false:=(HT.o.1.blk.alloc _).frozen;clear q4;have q4:=Am c0 ((Aa W3).alloc (.cells #[] 389));go_wp2_with fail
 obtain⟨W4,c4⟩:=vE (W3.alloc (.cells #[] 389))
 have a4:Af W3 W4:=by rw[c4];exact (Aa W3).alloc _
 rw[<-c4]at q4 f4 ⊢;have c5:=HT.o.1.Z a4 (λ_ _ e=>e);have b5:=c5.turn q.o (P:=.nil) (v:=.nilIface) (Ad.refl _ W4) rfl;have a5:=c5.y4 q.o (Ad.refl _ W4) .nilIface
 obtain⟨W5,b6⟩:=vE (W4.setCell ⟨b,1+Az p,none⟩ .nilIface)
 rw[<-b6]at b5 a5;rw[b9.o]at b6;rw[<-b6];have d1:Cd (Cd ks (Az p) (Ht (ks (Az p)) (Fw p))) (Az p) .nil=Cd ks (Az p) .nil:=by funext j;unfold Cd;by_cases e:j=Az p;{rw[if_pos e,if_pos e]};rw[if_neg e,if_neg e,if_neg e]
 rw[d1]at b5;have b2:(W4:Nat)<=↑W5:=a5.size;have c7:=J (kU b5 a5 a4 b2);clear c5 b5 a5 a4 c4 b6 q4 f4 d1 b2;refine (WZ W5 _ v _ b c7.o.1.pa d2.o).mono ?_;rintro e w6 ⟨v6,rfl,b7,a9⟩;have HZ:=J (kT b7 a9 (BY c7.o.1.lt a9));clear b7 a9;go_wp2
 go_ret
 obtain⟨b7,a9,d7⟩:=HZ.o
 obtain⟨ht,a3,hb,e4⟩:=HT.o
 obtain⟨_,a5,a4,e5⟩:=c7.o
 have e6:(W:Nat)<=↑W3:=by have:=hb.size;have:=a3.size;omega
 have d8:=a4.size;have g1:∀ z,Du D Z wc z->D z\/(W:Nat)<=z:=λz A=>A.imp id (λe=>bH hb.size e.1);have g2:∀ z,Du (Du D Z wc) W4 W4 z->D z\/(W:Nat)<=z:=λz A=>A.elim (g1 z) (λe=>by omega);refine Bk.y1 (b7.mono λz A=>?_) ?_
 ·have hl:=d7 z A;rcases A with A|A;{exact (g2 z A).imp id (λe=>⟨e,hl⟩)};exact .inr ⟨kL A.1,hl⟩
 ·have k1:Ad D W W3:=(hb.mono kZ:Ad D W Z).trans a3;have k2:Ad D W W4:=k1.trans (a4.mono kZ);have k3:Ad D W W5:=k2.O a5 (λz A e=>(g1 z e).elim id λe=>by omega);exact k3.O a9 (λz A e=>(g2 z e).elim id λe=>by omega)
theorem OQ:∀ (P:PA),FO P->QJ P
 |.nil,_=>λW T x D p h _ _ _=>by cases h.at'
 |.no,_=>λW T x D p h _ _ _=>by
  have e:Value.iface T x=Mr:=h.at';unfold Mr at e;injection e with e1 e2;subst e1 e2;exact N4 W D p
 |.leaf q v,hv=>λW T x D p h H K A=>by
  obtain⟨b,e,X,Z⟩:=h.at'
  unfold AM at e;injection e with e1 e2;subst e1 e2;exact Y7 W D q v p b Z X
 |.ext q n,hv=>λW T x D p h H K A=>by
  obtain⟨b,T',x',Dn,e,X,Z,h3,h4,h5⟩:=h.at'
  unfold Nl at e;injection e with e1 e2;subst e1 e2;have O:∀ z,Dn z->D z/\z<(W:Nat):=λz hz=>⟨h5 z hz,h.lt z (h5 z hz)⟩;show Calls _ _ _ W (Bk D W (Ht (.ext q n) p));unfold Ht;cases hf:Ff q p with
  |true =>
   rw[if_pos rfl];exact J4 W D q n T' x' Dn b Z X h3 h4 O p K A.1 H (Tl _ _ _ A.2 vO) (OQ n hv.2) hf
  |false =>
   rw[if_neg ff];exact J5 W D q n T' x' Dn b Z X h3 h4 O p K A.1 H hf
 |.br v ks,hv=>λW T x D p h H K A=>by
  obtain⟨b,vk,Dk,e,_⟩:=h.at'
  unfold Gr at e;injection e with e1 e2;subst e1 e2;show Calls _ _ _ W (Bk D W (Ht (.br v ks) p));unfold Ht
  by_cases h0:p.size=0
  ·rw[if_pos h0,Ov h0]
   exact n6 W D v ks b h A
  ·rw[if_neg h0]
   cases hk:(ks (Az p)).isNil with
   |true=>rw[if_pos rfl];exact B9 W D v ks b h p h0 K H hk
   |false =>
    rw[if_neg ff];unfold Vj;cases hno:(Ht (ks (Az p)) (Fw p)).isNo with
    |true=>rw[if_pos rfl];exact e8 W D v ks b h p h0 K H hk A (OQ (ks (Az p)) (hv _)) hno
    |false=>rw[if_neg ff];exact n5 W D v ks b h p h0 K H hk A (OQ (ks (Az p)) (hv _)) hno
def Bu:PA->Nat
 |.nil=>0
 |.no=>1
 |.leaf _ _=>1
 |.ext _ n=>1+Bu n
 |.br _ ks=>1+Ch (λi=>Bu (ks i)) 16
theorem nI(v:vB):(Jd p v).length<=1:=by unfold Jd;split<;>simp
theorem KT{α:Type}(g:Nat->List α)(f:Nat->Nat)(h:∀ i,(g i).length<=f i):∀ n,((List.range n).flatMap g).length<=Ch f n
 |0=>by simp
 |n+1=>by
  rw[gM,dS,bK]
  have:=KT g f h n
  have:=h n
  simp only[dJ,List.flatMap_nil,cC,Ch];omega
theorem WQ:∀ (P:PA) (p:vB),(Ij P p).length<=Bu P
 |.nil,_=>bO _
 |.no,_=>cD _
 |.leaf q v,p=>nI _ _
 |.ext q n,p=>bH (WQ n (p++q)) (Nat.le_add_left _ _)
 |.br v ks,p=>by
  show ((if v.size=0 then []else Jd p v)++(List.range 16).flatMap λi=>if (ks i).isNil then []else Ij (ks i) (p++Eh i)).length<=1+Ch (λi=>Bu (ks i)) 16;rw[bK];have e:(if v.size=0 then []else Jd p v:vL).length<=1:=by
   split
   ·simp
   ·exact nI _ _
  have A:=KT (λi=>if (ks i).isNil then []else Ij (ks i) (p++Eh i)) (λi=>Bu (ks i)) (λi=>by
   show (if (ks i).isNil=true then ([]:vL)else Ij (ks i) (p++Eh i)).length<=Bu (ks i);split
   ·simp
   ·exact WQ (ks i) _) 16
  omega
theorem Fg.len'{w0 w:vW}(h:Fg w0 w v n xs):n=xs.length:=by have:=h.len;rw[NG]at this;omega
def Wh(w0:vW)(xs:vL)(e:Ending)(w':vW):Prop:=∃ v n,e=.returned v/\Fg w0 w' v n xs
def Wi(P:PA):Prop:=∀ (w0 W:vW) (T:TypeId) (x:vV) (D:Nat->Prop) (p:vB) (v:vV) (n k:Nat) (E:vL),Hq P (.iface T x) D w0->Fg w0 W v n E->Dp P k->p.size+k<=900000->n+Bu P<=100000 ->
 vQ (Vy P) #[x,p,v] W (Wh w0 (E++Ij P p))
theorem V0(v:vV)(n:Nat)(E:vL)(h:Fg w0 W v n E):vQ 301 #[.agg #[],p,v] W (Wh w0 E):=by
 have H:=J h
 obtain⟨a,c,rfl⟩:=h.sl
 unfold vQ;go_in;go_wp2
 go_ret
 exact⟨_,n,rfl,H.o.mono ((Aa W).alloc _)⟩
theorem aN(k v:vB):Qp [(k,v)]=[.string k,.string v]:=rfl
theorem wJ(q u p:vB)(b:Nat)(hB:Ae w0 b (.cells #[q,u] 380))(v:vV)(n:Nat)(E:vL)(h:Fg w0 W v n E)(hs:p.size+q.size<=900000)(hn:n<=100000):vQ 287 #[b,p,v] W (Wh w0 (E++Jd (p++q) u)):=by
 have q0:=Am (hB.cell (i:=0) (v:=.string q) vF) h.ext;have Q1:=J (Am (hB.cell (i:=1) (v:=.string u) vF) h.ext);have H:=J h
 obtain⟨a,c,rfl⟩:=h.sl
 have e:=λw=>FI w (p++q) (by rw[Zy];omega);unfold Lg at e;unfold Jd;cases hok:Mo (p++q)with
 |false =>(rw[if_neg ff,cC];rw[hok,if_neg ff]at e;have K:=J e;unfold vQ;go_in;go_wp2_with fail);(refine vC (K.o W) λw1 A=>?_;have Z:=J A;go_wp2);go_ret;exact⟨_,n,rfl,H.o.mono Z.o⟩
 |true =>(rw[if_pos rfl];rw[hok,if_pos rfl]at e;have K:=J e;unfold vQ;go_in;go_wp2_with fail);(refine vC (K.o W) λw1 A=>?_;have Z:=J A;have q1:=Am Q1.o A;have HR:=J (H.o.mono A);go_wp2_with (at_builtin;refine Qm Fk (HR.o.mono ((Aa w1).alloc _)) (.tmp 20) (.tmp 27) rfl rfl rfl (Jx (Ae.new w1 _)) (news:=[Jh (p++q),u]) (by intro u hu;simp at hu;rcases hu with rfl|rfl<;>rfl) rfl rfl zi vO (λv' w' r1 r2 r3=>?_);obtain⟨a5,c5,O⟩:=r1.sl;subst O;have X:=J r1));go_ret;exact⟨_,n+1,rfl,by have:=X.o;rw[<-aN, <-FT]at this;exact this⟩
def LZ(w0 a b:vW):Prop:=Af w0 a->Af w0 b
theorem a1(x y z:vW)(h:LZ w0 x y)(k:LZ w0 y z):LZ w0 x z:=λe=>k (h e)
theorem n2(x y:vW)(h:Af x y):LZ w0 x y:=λe=>e.trans h
theorem xF(q:vB)(n:PA)(T:TypeId)(x:vV)(Dn:Nat->Prop)(b:Nat)(hB:Ae w0 b (.cells #[q,.iface T x] 383))(hv:Cc n (.iface T x) Dn w0)(hD:∀ x,Dn x->x<(w0:Nat))(p:vB)(v:vV)(m k:Nat)(E:vL)(h:Fg w0 W v m E)(Z:Dp n k)(hs:(p++q).size+k<=900000)(hn:m+Bu n<=100000)(hk:Wi n):vQ 293 #[b,p,v] W (Wh w0 (E++Ij n (p++q))):=by
 have Q0:=J (hB.cell (i:=0) (v:=.string q) vF);have Q1:=J (hB.cell (i:=1) (v:=.iface T x) vF);have O:=J h.ext;have HM:=J hv.meth;have hz:p.size+q.size<=900000:=by rw[<-Zy];omega
 obtain⟨a,c,a0⟩:=h.sl
 have A:=J (show ∀ H,Af W H->vQ (Vy n) #[x,(p++q:),v] H (Wh w0 (E++Ij n (p++q)))from λH e=>hk w0 H T x Dn (p++q) v m k E ⟨hv,hD⟩ (h.mono e) Z hs hn);subst a0;unfold vQ;go_in;go_wp2_with fail
 refine Na [0,1,2,3,4,5,6,7,8,9,10,11,12,13,14] [13] Af (LZ w0) Aa Ap (a1 w0) (n2 w0) vY vY vY ?_
 refine vD ?_
 refine Lx _ (b) rfl zh (vS ?_)
 refine vD ?_
 refine Fa ⟨b,1,none⟩ _ rfl (λw1 h1=>De zf (Am Q1.o (h1 (O.o.trans (Ao _))))) (vS ?_);iterate 2 refine vD ?_
 refine Lx _ (b) rfl zh (vS ?_)
 refine vD ?_
 refine Fa b _ rfl (λw1 h1=>De zf (Am Q0.o (h1 (O.o.trans (Ao _))))) (vS ?_);iterate 2 refine vD ?_
 refine Lx _ (.iface T x) rfl zh (vS ?_)
 refine vD ?_
 refine Hh _ rfl (λH hb K hK=>?_);have kb:Af W H:=(Ao _).trans hb;refine Ou (DZ (f:=Vy n) (vs:=#[(p++q:),.slice a m c]) rfl (HM.o.ent _) (KG _) vY) ?_;refine (A.o H kb).mono ?_;rintro e w2 ⟨v2,m2,rfl,X⟩
 refine⟨v2,rfl,hK _ _ (λ_=>X.ext) ?_⟩
 have HS:=J X;refine vS ?_
 refine vD ?_
 refine Mt (λwd Z=>?_);have HQ:=J Z;go_wp2
 go_ret
 exact⟨_,_,rfl,HS.o.mono HQ.o⟩
def La(ks:Nat->PA)(p:vB)(k:Nat):vL:=(List.range k).flatMap λi=>if (ks i).isNil then []else Ij (ks i) (p++Eh i)
theorem UA(k:Nat):La ks p (k+1)=La ks p k++(if (ks k).isNil then []else Ij (ks k) (p++Eh k)):=by
 unfold La;rw[gM,dS]
 simp
theorem VN(k:Nat):(La ks p k).length<=Ch (λi=>Bu (ks i)) k:=KT _ _ (λi=>by
 show (if (ks i).isNil=true then ([]:vL)else Ij (ks i) (p++Eh i)).length<=Bu (ks i);split
 ·simp
 ·exact WQ (ks i) _) k
theorem GD(f:Nat->Nat)(k:Nat):∀ d,Ch f k<=Ch f (k+d)
 |0=>bO _
 |d+1=>bH (GD f k d) (Nat.le_add_right _ _)
def XV(w0:vW)(ks:Nat->PA)(p:vB)(E:vL)(tv iv:vV)(wr:vW):Prop:=∃ (k m:Nat),k<=16/\iv=.int .i64 (k:Int)/\Fg w0 wr tv m (E++La ks p k)
theorem VL(hm:m<16):(convert 83 9 (.slice (some w) 1 1)).run prog (w.alloc (.cells #[.int .u8 (m:Int)] 5))=.ok (Eh m) (w.alloc (.cells #[.int .u8 (m:Int)] 5)):=by
 have e:(m:Int)=((UInt8.ofNat m).toNat:Int):=by rw[IX m vO]
 rw[e];exact Km w (UInt8.ofNat m)
structure Wg(u:vB)(ks:Nat->PA)(b:Nat)(vk:Nat->Value)(Dk:Nat->Nat->Prop)(W:World):Prop where
 blk:Ae W b (.cells (Uu u vk).toArray 387)
 kid:∀ i,i<16->Hq (ks i) (vk i) (Dk i) W
theorem qB(u p:vB)(ks:Nat->PA)(b:Nat)(vk:Nat->vV)(Dk:Nat->Nat->Prop)(hb:Wg u ks b vk Dk w0)(v:vV)(n kk:Nat)(E:vL)(h:Fg w0 W v n E)(hd:Dp (.br u ks) kk)(hs:p.size+kk<=900000)(hn:n+1+Ch (λi=>Bu (ks i)) 16<=100000)(ih:∀ i,i<16->(ks i).isNil=false->Wi (ks i))(ho:Mo p=false):vQ 297 #[b,p,v] W (Wh w0 (E++La ks p 16)):=by
 have H:=J hb;have b3:=J hd;have a8:=J hs;have b4:=J ih;have b5:=J h.ext;have H0:=J h;have b6:=h.len';have q0:=Am (hb.blk.z1 (i:=0) (v:=.string u) vF) h.ext;have X:=Xn (hb.blk.Z h.ext kI);have c5:=OX;have A:=FI W p vO;unfold Lg at A
 obtain⟨a,c,a7⟩:=h.sl
 rw[ho,if_neg ff]at A;have HK:=J A;have b7:=J (show E.length+Ch (λi=>Bu (ks i)) 16<=100000 by omega);have hB:=J hb.blk;clear hb hd hs ih h hn ho A X;subst a7;unfold vQ;go_in;go_wp2_with fail
 refine HK.o.mono ?_;rintro e w1 ⟨rfl,hE⟩;have X:=Xn (hB.o.Z (b5.o.trans hE) kI);have b8:=J (H0.o.mono hE);clear hE q0;clear b6;go_wp2_with (refine Gz 385 (.tmp 35) rfl rfl _ _ rfl X ?_)
 go_loopw [2,37] (λtv iv wr=>XV w0 ks p E tv iv wr) (λ_ iv _=>16-(intOf iv).toNat)
 case atStart=>exact⟨0,n,by omega,rfl,by rw[show La ks p 0=[]from rfl,cC];exact b8.o⟩
 case round =>obtain⟨k,m,hk,rfl,hR⟩:=hrel;(have Z:=J hR;have a9:m<=E.length+Ch (λi=>Bu (ks i)) k:=by have h1:=hR.len';have h2:=VN ks p k;rw[bK]at h1;omega);have b9:=J a9;obtain⟨a2,c2,K⟩:=hR.sl;clear hR a9;by_cases hlt:k<16;{have b0:=BT vk hlt;have q:=UA ks p k;rcases (H.o.kid k hlt).at'.kid with⟨hn,hv⟩|⟨hn,T,x,hv⟩;{rw[hn,if_pos rfl,cC]at q;rw[hv]at b0;have a1:=J q;clear q hn hv;subst K;go_wp2;go_roundw;(case rel=>exact⟨k+1,m,by omega,by go_num,by rw[a1.o];exact Z.o⟩);case measure=>exact vJ};rw[hn,if_neg ff]at q;(rw[hv]at b0;have hq:=BP T x;have O:=H.o.kid k hlt;rw[hv]at O;have b1:=O.at'.meth;have c7:∀ w,(Go.method (522+1) T x "guilloche/trie.entries").run prog w=.ok (Vy (ks k),x) w:=b1.ent;have c8:=KG (ks k);have c9:=VL wr hlt;have a4:=b3.o k hn;have c0:Ch (λi=>Bu (ks i)) k+Bu (ks k)<=Ch (λi=>Bu (ks i)) 16:=by have h1:=GD (λi=>Bu (ks i)) (k+1) (15-k);rw[show k+1+(15-k)=16 by omega]at h1;exact h1);(have a0:=J (show ∀ wb,Af wr wb->vQ (Vy (ks k)) #[x,(p++Eh k:),.slice a2 m c2] wb (Wh w0 (E++La ks p k++Ij (ks k) (p++Eh k)))from λwb e=>b4.o k hlt hn w0 wb T x (Dk k) (p++Eh k) _ m (kk-1) _ O (by rw[<-K];exact Z.o.mono e) a4.2 (by rw[Zy];have:(Eh k).size=1:=rfl;have:=a8.o;have:=a4.1;omega) (by have:=b9.o;have:=b7.o;omega));have a1:=J q;have d0:p.size+(Eh k).size<=900001:=by have:(Eh k).size=1:=rfl;have:=a8.o;omega);have b2:(k:Int)<16:=vO;(clear q hn hv O b1 a4 c0;subst K;go_wp2_with fail);refine (a0.o _ ((Aa wr).alloc _)).mono ?_;rintro e w2 ⟨v2,m2,rfl,a5⟩;have c1:=J a5;obtain⟨a3,c3,c4⟩:=a5.sl;(subst c4;clear a5;go_wp2);go_roundw;(case rel=>exact⟨k+1,m2,by omega,by go_num,by rw[a1.o, <-bZ];exact c1.o⟩);case measure=>exact vJ};obtain rfl:k=16:=vO;(subst K;go_wp2);go_ret;exact⟨_,_,rfl,Z.o⟩
theorem C1(u p:vB)(ks:Nat->PA)(b:Nat)(vk:Nat->vV)(Dk:Nat->Nat->Prop)(hb:Wg u ks b vk Dk w0)(v:vV)(n kk:Nat)(E:vL)(h:Fg w0 W v n E)(hd:Dp (.br u ks) kk)(hs:p.size+kk<=900000)(hn:n+1+Ch (λi=>Bu (ks i)) 16<=100000)(ih:∀ i,i<16->(ks i).isNil=false->Wi (ks i))(ho:Mo p=true)(hu:u.size≠0):vQ 297 #[b,p,v] W (Wh w0 ((E++[(Jh p,u)])++La ks p 16)):=by
 have H:=J hb;have b5:=J hd;have a9:=J hs;have b6:=J ih;have H0:=J h;have b7:=h.len';have q0:=Am (hb.blk.z1 (i:=0) (v:=.string u) vF) h.ext;have X:=Xn (hb.blk.Z h.ext kI);have d0:=OX;have A:=FI W p vO;unfold Lg at A
 obtain⟨a,c,a8⟩:=h.sl
 rw[ho,if_pos rfl]at A;have HK:=J A;have d1:=Wz hu;have b8:=J (show (E++[(Jh p,u)]).length+Ch (λi=>Bu (ks i)) 16<=100000 by rw[bK,List.length_singleton];omega);have hB:=J hb.blk;have Q0:=J q0;have c9:n<=100000:=vO
 clear hb hd hs ih h hn ho A X hu q0;subst a8;unfold vQ;go_in;go_wp2_with fail
 refine HK.o.mono ?_;rintro e w1 ⟨rfl,hE⟩;have q0:=Am Q0.o hE;have b9:=J (H0.o.mono hE);clear hE b7;go_wp2_with (first|(at_builtin;refine Qm Fk (b9.o.mono ((Aa w1).alloc _)) (.tmp 24) (.tmp 31) rfl rfl rfl (Jx (Ae.new w1 _)) (news:=[Jh p,u]) (by intro u hu;simp at hu;rcases hu with rfl|rfl<;>rfl) rfl rfl zi vO (λv' w' r1 r2 r3=>?_);obtain⟨a5,c5,c0⟩:=r1.sl;subst c0;have b0:Hid (Fg w0 w' (.slice a5 (n+1) c5) (n+1) (E++[(Jh p,u)])):=J (by rw[<-aN, <-FT]at r1;exact r1);have X:=Xn (hB.o.Z b0.o.ext kI))|(refine Gz 385 (.tmp 35) rfl rfl _ _ rfl X ?_))
 go_loopw [2,37] (λtv iv wr=>XV w0 ks p (E++[(Jh p,u)]) tv iv wr) (λ_ iv _=>16-(intOf iv).toNat)
 case atStart=>exact⟨0,(n+1),by omega,rfl,by rw[show La ks p 0=[]from rfl,cC];exact b0.o⟩
 case round =>obtain⟨k,m,hk,rfl,hR⟩:=hrel;(have Z:=J hR;have b1:m<=(E++[(Jh p,u)]).length+Ch (λi=>Bu (ks i)) k:=by have h1:=hR.len';have h2:=VN ks p k;rw[bK]at h1;omega);have c1:=J b1;obtain⟨a2,c2,K⟩:=hR.sl;clear hR b1;by_cases hlt:k<16;{have b3:=BT vk hlt;have q:=UA ks p k;rcases (H.o.kid k hlt).at'.kid with⟨hn,hv⟩|⟨hn,T,x,hv⟩;{rw[hn,if_pos rfl,cC]at q;rw[hv]at b3;have a1:=J q;clear q hn hv;subst K;go_wp2;go_roundw;(case rel=>exact⟨k+1,m,by omega,by go_num,by rw[a1.o];exact Z.o⟩);case measure=>exact vJ};rw[hn,if_neg ff]at q;(rw[hv]at b3;have hq:=BP T x;have O:=H.o.kid k hlt;rw[hv]at O;have b4:=O.at'.meth;have d2:∀ w,(Go.method (522+1) T x "guilloche/trie.entries").run prog w=.ok (Vy (ks k),x) w:=b4.ent;have d3:=KG (ks k);have d4:=VL wr hlt;have a4:=b5.o k hn;have c4:Ch (λi=>Bu (ks i)) k+Bu (ks k)<=Ch (λi=>Bu (ks i)) 16:=by have h1:=GD (λi=>Bu (ks i)) (k+1) (15-k);rw[show k+1+(15-k)=16 by omega]at h1;exact h1);(have a0:=J (show ∀ wb,Af wr wb->vQ (Vy (ks k)) #[x,(p++Eh k:),.slice a2 m c2] wb (Wh w0 ((E++[(Jh p,u)])++La ks p k++Ij (ks k) (p++Eh k)))from λwb e=>b6.o k hlt hn w0 wb T x (Dk k) (p++Eh k) _ m (kk-1) _ O (by rw[<-K];exact Z.o.mono e) a4.2 (by rw[Zy];have:(Eh k).size=1:=rfl;have:=a9.o;have:=a4.1;omega) (by have:=c1.o;have:=b8.o;omega));have a1:=J q;have d5:p.size+(Eh k).size<=900001:=by have:(Eh k).size=1:=rfl;have:=a9.o;omega);have b2:(k:Int)<16:=vO;(clear q hn hv O b4 a4 c4;subst K;go_wp2_with fail);refine (a0.o _ ((Aa wr).alloc _)).mono ?_;rintro e w2 ⟨v2,m2,rfl,a7⟩;have c7:=J a7;obtain⟨a3,c3,c8⟩:=a7.sl;(subst c8;clear a7;go_wp2);go_roundw;(case rel=>exact⟨k+1,m2,by omega,by go_num,by rw[a1.o, <-bZ];exact c7.o⟩);case measure=>exact vJ};obtain rfl:k=16:=vO;(subst K;go_wp2);go_ret;exact⟨_,_,rfl,Z.o⟩
theorem C0(u p:vB)(ks:Nat->PA)(b:Nat)(vk:Nat->vV)(Dk:Nat->Nat->Prop)(hb:Wg u ks b vk Dk w0)(v:vV)(n kk:Nat)(E:vL)(h:Fg w0 W v n E)(hd:Dp (.br u ks) kk)(hs:p.size+kk<=900000)(hn:n+1+Ch (λi=>Bu (ks i)) 16<=100000)(ih:∀ i,i<16->(ks i).isNil=false->Wi (ks i))(ho:Mo p=true)(hu:u.size=0):vQ 297 #[b,p,v] W (Wh w0 (E++La ks p 16)):=by
 have H:=J hb;have b3:=J hd;have a8:=J hs;have b4:=J ih;have b5:=J h.ext;have H0:=J h;have b6:=h.len';have q0:=Am (hb.blk.z1 (i:=0) (v:=.string u) vF) h.ext;have X:=Xn (hb.blk.Z h.ext kI);have c7:=OX;have A:=FI W p vO;unfold Lg at A
 obtain⟨a,c,a7⟩:=h.sl
 rw[ho,if_pos rfl]at A;have HK:=J A;have b7:=Ov hu;subst b7;have b8:=J (show E.length+Ch (λi=>Bu (ks i)) 16<=100000 by omega);have hB:=J hb.blk;have Q0:=J q0;clear hb hd hs ih h hn ho A X hu q0;subst a7;unfold vQ;go_in;go_wp2_with fail
 refine HK.o.mono ?_;rintro e w1 ⟨rfl,hE⟩;have q0:=Am Q0.o hE;have X:=Xn (hB.o.Z (b5.o.trans hE) kI);have b9:=J (H0.o.mono hE);clear hE b6;go_wp2_with (refine Gz 385 (.tmp 35) rfl rfl _ _ rfl X ?_)
 go_loopw [2,37] (λtv iv wr=>XV w0 ks p E tv iv wr) (λ_ iv _=>16-(intOf iv).toNat)
 case atStart=>exact⟨0,n,by omega,rfl,by rw[show La ks p 0=[]from rfl,cC];exact b9.o⟩
 case round =>obtain⟨k,m,hk,rfl,hR⟩:=hrel;(have Z:=J hR;have a9:m<=E.length+Ch (λi=>Bu (ks i)) k:=by have h1:=hR.len';have h2:=VN ks p k;rw[bK]at h1;omega);have c0:=J a9;obtain⟨a2,c2,K⟩:=hR.sl;clear hR a9;by_cases hlt:k<16;{have b0:=BT vk hlt;have q:=UA ks p k;rcases (H.o.kid k hlt).at'.kid with⟨hn,hv⟩|⟨hn,T,x,hv⟩;{rw[hn,if_pos rfl,cC]at q;rw[hv]at b0;have a1:=J q;clear q hn hv;subst K;go_wp2;go_roundw;(case rel=>exact⟨k+1,m,by omega,by go_num,by rw[a1.o];exact Z.o⟩);case measure=>exact vJ};rw[hn,if_neg ff]at q;(rw[hv]at b0;have hq:=BP T x;have O:=H.o.kid k hlt;rw[hv]at O;have b1:=O.at'.meth;have c8:∀ w,(Go.method (522+1) T x "guilloche/trie.entries").run prog w=.ok (Vy (ks k),x) w:=b1.ent;have c9:=KG (ks k);have d0:=VL wr hlt;have a4:=b3.o k hn;have c1:Ch (λi=>Bu (ks i)) k+Bu (ks k)<=Ch (λi=>Bu (ks i)) 16:=by have h1:=GD (λi=>Bu (ks i)) (k+1) (15-k);rw[show k+1+(15-k)=16 by omega]at h1;exact h1);(have a0:=J (show ∀ wb,Af wr wb->vQ (Vy (ks k)) #[x,(p++Eh k:),.slice a2 m c2] wb (Wh w0 (E++La ks p k++Ij (ks k) (p++Eh k)))from λwb e=>b4.o k hlt hn w0 wb T x (Dk k) (p++Eh k) _ m (kk-1) _ O (by rw[<-K];exact Z.o.mono e) a4.2 (by rw[Zy];have:(Eh k).size=1:=rfl;have:=a8.o;have:=a4.1;omega) (by have:=c0.o;have:=b8.o;omega));have a1:=J q;have d1:p.size+(Eh k).size<=900001:=by have:(Eh k).size=1:=rfl;have:=a8.o;omega);have b2:(k:Int)<16:=vO;(clear q hn hv O b1 a4 c1;subst K;go_wp2_with fail);refine (a0.o _ ((Aa wr).alloc _)).mono ?_;rintro e w2 ⟨v2,m2,rfl,a5⟩;have c4:=J a5;obtain⟨a3,c3,c5⟩:=a5.sl;(subst c5;clear a5;go_wp2);go_roundw;(case rel=>exact⟨k+1,m2,by omega,by go_num,by rw[a1.o, <-bZ];exact c4.o⟩);case measure=>exact vJ};obtain rfl:k=16:=vO;(subst K;go_wp2);go_ret;exact⟨_,_,rfl,Z.o⟩
end
theorem WG:∀ (P:PA),Wi P
 |.nil=>λw0 W T x D p v n k E h _ _ _ _=>by cases h.at'
 |.no=>λw0 W T x D p v n k E h A _ _ _=>by
  have e:Value.iface T x=Mr:=h.at';unfold Mr at e;injection e with e1 e2;subst e1 e2;show Calls _ _ _ W (Wh w0 (E++[]));rw[cC];exact V0 w0 W p v n E A
 |.leaf q u=>λw0 W T x D p v n k E h A H O K=>by
  obtain⟨b,e,h1,X⟩:=h.at'
  unfold AM at e;injection e with e1 e2;subst e1 e2;have H:q.size<=k:=H;have K:n+1<=100000:=K;exact wJ w0 W q u p b X v n E A vO vO
 |.ext q m=>λw0 W T x D p v n k E h A H O K=>by
  obtain⟨b,T',x',Dn,e,h1,X,h3,h4,h5⟩:=h.at'
  unfold Nl at e;injection e with e1 e2;subst e1 e2;have K:n+(1+Bu m)<=100000:=K;have h1:=H.1;exact xF w0 W q m T' x' Dn b X h3 (λz hz=>h.lt z (h5 z hz)) p v n (k-q.size) E A H.2 (by rw[Zy];omega) vO (WG m)
 |.br u ks=>λw0 W T x D p v n k E h A H O K=>by
  obtain⟨b,Z,Dk,e,h1,X,h3,h4⟩:=h.at'
  unfold Gr at e;injection e with e1 e2;subst e1 e2;have hb:Wg u ks b Z Dk w0:=⟨X,λi hi=>⟨(h3 i hi).1,λz hz=>h.lt z ((h3 i hi).2.2 z hz)⟩⟩;have K:n+(1+Ch (λi=>Bu (ks i)) 16)<=100000:=K;have ih:∀ i,i<16->(ks i).isNil=false->Wi (ks i):=λi _ _=>WG (ks i);show Calls _ _ _ W (Wh w0 (E++((if u.size=0 then []else Jd p u)++La ks p 16)));unfold Jd;rw[<-bZ]
  by_cases hu:u.size=0
  ·rw[if_pos hu,cC]
   cases ho:Mo p with
   |true=>exact C0 w0 W u p ks b Z Dk hb v n k E A H O vO ih ho hu
   |false=>exact qB w0 W u p ks b Z Dk hb v n k E A H O vO ih ho
  ·rw[if_neg hu]
   cases ho:Mo p with
   |true=>rw[if_pos rfl];exact C1 w0 W u p ks b Z Dk hb v n k E A H O vO ih ho hu
   |false=>rw[if_neg ff,cC];exact qB w0 W u p ks b Z Dk hb v n k E A H O vO ih ho
section
attribute [local go_sem] Oper.semAt_some
def Vw(k:Eo)(L:vT):vT:=L.map λx=>if x.1=k then (x.1,x.2.1,Jt 2 (x.2.2.used+1) x.2.2)else x
def Qe(T:vM)(L:vT):vT:=T.foldl (λL r=>Vw r.data.toList L) L
theorem jpS(L:vT):Qe (T++[r]) L=Vw r.data.toList (Qe T L):=by unfold Qe;rw[fE];rfl
theorem e5(L:vT):(Vw k L).map (·.1)=L.map (·.1):=by
 unfold Vw;rw[dB];refine dA (λx _=>?_);simp only[Function.comp];split<;>rfl
theorem e4(L:vT):(Vw k L).map (·.2.1)=L.map (·.2.1):=by
 unfold Vw;rw[dB];refine dA (λx _=>?_);simp only[Function.comp];split<;>rfl
theorem TH:∀ (T:vM) (L:vT),(Qe T L).map (·.1)=L.map (·.1)
 |[],_=>rfl
 |r::T,L=>by
  show (Qe T (Vw r.data.toList L)).map (·.1)=_;rw[TH T,e5]
theorem TG:∀ (T:vM) (L:vT),(Qe T L).map (·.2.1)=L.map (·.2.1)
 |[],_=>rfl
 |r::T,L=>by
  show (Qe T (Vw r.data.toList L)).map (·.2.1)=_;rw[TG T,e4]
theorem mH(h:A.map (·.1)=B.map (·.1))(k:Eo):(Be A k).isSome=(Be B k).isSome:=by
 have e:∀ L:vT,(Be L k).isSome=(L.map (·.1)).any (λy=>decide (k=y)):=λL=>by unfold Be;rw[List.isSome_find?,List.any_map];rfl
 rw[e,e,h]
theorem aK:∀ (T:vM) (L:vT) (lo hi:Int),(∀ x∈L,lo<=x.2.2.used/\x.2.2.used<=hi)->∀ x∈Qe T L,lo<=x.2.2.used/\x.2.2.used<=hi+T.length
 |[],L,lo,hi,h=>λx e=>by have:=h x e;simp;exact this
 |r::T,L,lo,hi,h=>λx e=>by
  have:=aK T (Vw r.data.toList L) lo (hi+1) (λy q=>by
   obtain⟨z,A,rfl⟩:=bC.1 q
   have:=h z A
   split
   ·simp only[Jt,if_true];omega
   ·omega) x e
  rw[bQ];omega
def MA(x:Gk):Nat × vB × vM:=(x.2.1,x.2.2.text,x.2.2.refs)
def AU(W:vW)(bg:Nat)(G:vT):Prop:=∃ G',Lw W bg G'/\∀ k,(Be G' k).map MA=(Be G k).map MA
theorem B7(v:Int)(L:vT)(k:Eo):Be (L.map (Cn f c v)) k=(Be L k).map (Cn f c v):=by
 unfold Be;rw[List.find?_map]
 congr 1
 refine congrFun (congrArg _ (funext λx=>?_)) L;simp only[Function.comp,Cn];split<;>rfl
theorem H7(v:Int)(x:Gk):MA (Cn f c v x)=MA x:=by
 unfold Cn MA Jt
 by_cases e:x.2.1=c
 ·rw[if_pos e];by_cases e2:f=2;{rw[if_pos e2]};rw[if_neg e2]
 ·rw[if_neg e]
theorem AU.setF{W:vW}(h:AU W bg G){c:Nat}{it:It}(hc:Xv W c it){f:Nat}(hf:f=2\/f=3)(v:Int):AU (W.setCell ⟨c,f,none⟩ (.int .i64 v)) bg G:=by
 obtain⟨A,e,q⟩:=h
 refine⟨_,e.setF hc hf v,λk=>?_⟩
 rw[B7,Option.map_map, <-q k]
 congr 1
 funext x
 exact H7 f c v x
theorem y0{W:vW}(h:Lw W bm L){k:Eo}(hy:Be L k=some y):L.map (Cn 2 y.2.1 (y.2.2.used+1))=Vw k L:=by
 obtain⟨O,ck,_,H⟩:=h.mp
 have q:=H.keys;rw[dB]at q;have q:(L.map (·.1)).Nodup:=q;unfold Vw;refine dA (λx A=>?_);unfold Cn
 by_cases e:x.2.1=y.2.1
 ·have:x=y:=Qj h.blks A (Fd hy).1 e;subst this;rw[if_pos rfl,if_pos (Fd hy).2]
 ·rw[if_neg e,if_neg];intro K;have:x=y:=Qj q A (Fd hy).1 (K.trans (Fd hy).2.symm);subst this;exact e rfl
structure Zn(w5:World)(s bm bg:Nat)(room:Int)(S1 G:vT)(F:vM)(v:Value)(T:vM)(W:World):Prop where
 kp:Ad (λz=>z∈S1.map (·.2.1)) w5 W
 st:Ev W s bm room (Qe T S1)
 gv:AU W bg G
 row:W.ownsRow 0 9 1 v F.length (F.map Value.string)
theorem Zn.bump{T:vM}{W:vW}(h:Zn w5 s bm bg room S1 G F v T W)
  (hu:∀ x∈S1,0<=x.2.2.used/\x.2.2.used<=1000000000) (hT:T.length<=1000000) (r:vB) (hr:(Be S1 r.data.toList).isSome=true) :
  ∃ (zb:Nat) (u:Int),(Instr.lookup 123 (.map (some bm)) r false).run prog W=.ok zb W/\W.cell? ⟨zb,2,none⟩=some (.int .i64 u)/\W.frozen? ⟨zb,2,none⟩=false/\0<=u/\u<=2000000000 /\
   Zn w5 s bm bg room S1 G F v (T++[r]) (W.setCell ⟨zb,2,none⟩ (.int .i64 (u+1)))/\∀ H n xs,W.ownsRow 0 9 1 H n xs->(W.setCell ⟨zb,2,none⟩ (.int .i64 (u+1))).ownsRow 0 9 1 H n xs:=by
 have hs:(Be (Qe T S1) r.data.toList).isSome=true:=by rw[mH (TH T S1)];exact hr
 obtain⟨y,O⟩:=cW.1 hs
 have q:=(Fd O).1;have X:=h.st.mp.items y q
 obtain⟨H,hb,a1⟩:=X.cells
 have A:=h.st.mp.look r false;rw[O]at A;simp only[cH,if_false]at A;have K:Ad (λz=>z=y.2.1) W (W.setCell ⟨y.2.1,2,none⟩ (.int .i64 (y.2.2.used+1))):=Ad.z4 W ⟨y.2.1,2,none⟩ _;have hN:Mm W (λz=>z=y.2.1):=λz a2 fz e hz=>by have e:z=y.2.1:=e;subst e;have:=hb.uniq hz;injection this with _ h2;exact absurd h2 vI
 have Z:y.2.1∈S1.map (·.2.1):=by rw[<-TG T S1];exact bC.2 ⟨y,q,rfl⟩
 have a0:=aK T S1 0 1000000000 hu y q
 refine⟨y.2.1,y.2.2.used,A,hb.cell (i:=2) vF,hb.frozen,a0.1,by omega,⟨h.kp.trans (K.mono λz _ e=>by have e:z=_:=e;rw[e];exact Z),⟨h.st.st.Z K λe=>?_,?_⟩,h.gv.setF X (.inl rfl) _,BR h.row K hN⟩,λH n xs hx=>BR hx K hN⟩
 ·have e:s=y.2.1:=e;rw[e]at h;have:=hb.uniq h.st.st;injection this with _ h2;exact absurd h2 vI
 ·rw[jpS, <-y0 h.st.mp O];exact h.st.mp.setF X (.inl rfl) _
def Zi(k:Eo)(L:vT):vT:=L.map λx=>if x.1=k then (x.1,x.2.1,Jt 3 (x.2.2.held+1) x.2.2)else x
theorem h0{W:vW}(h:Lw W bm L){k:Eo}(hy:Be L k=some y):L.map (Cn 3 y.2.1 (y.2.2.held+1))=Zi k L:=by
 obtain⟨O,ck,_,H⟩:=h.mp
 have q:=H.keys;rw[dB]at q;have q:(L.map (·.1)).Nodup:=q;unfold Zi;refine dA (λx A=>?_);unfold Cn
 by_cases e:x.2.1=y.2.1
 ·have:x=y:=Qj h.blks A (Fd hy).1 e;subst this;rw[if_pos rfl,if_pos (Fd hy).2]
 ·rw[if_neg e,if_neg];intro K;have:x=y:=Qj q A (Fd hy).1 (K.trans (Fd hy).2.symm);subst this;exact e rfl
theorem eV:∀ (T:vM) (L:vT) (lo hi:Int),(∀ x∈L,lo<=x.2.2.held/\x.2.2.held<=hi)->∀ x∈Qe T L,lo<=x.2.2.held/\x.2.2.held<=hi
 |[],L,lo,hi,h=>λx e=>h x e
 |r::T,L,lo,hi,h=>λx e=>by
  refine eV T (Vw r.data.toList L) lo hi (λy q=>?_) x e
  obtain⟨z,A,rfl⟩:=bC.1 q
  have:=h z A
  split
  ·simp only[Jt,if_true];exact this
  ·exact this
theorem Zn.hold{T:vM}{W:vW}(h:Zn w5 s bm bg room S1 G F v T W)
  (hu:∀ x∈S1,0<=x.2.2.held/\x.2.2.held<=1000000000) (r:vB) (hr:(Be S1 r.data.toList).isSome=true) :
  ∃ (zb:Nat) (u:Int),(Instr.lookup 123 (.map (some bm)) r false).run prog W=.ok zb W/\W.cell? ⟨zb,3,none⟩=some (.int .i64 u)/\W.frozen? ⟨zb,3,none⟩=false/\0<=u/\u<=1000000000 /\
   Ev (W.setCell ⟨zb,3,none⟩ (.int .i64 (u+1))) s bm room (Zi r.data.toList (Qe T S1))/\Ad (λz=>z∈S1.map (·.2.1)) w5 (W.setCell ⟨zb,3,none⟩ (.int .i64 (u+1))):=by
 have hs:(Be (Qe T S1) r.data.toList).isSome=true:=by rw[mH (TH T S1)];exact hr
 obtain⟨y,K⟩:=cW.1 hs
 have q:=(Fd K).1;have X:=h.st.mp.items y q
 obtain⟨rv,hb,a0⟩:=X.cells
 have A:=h.st.mp.look r false;rw[K]at A;simp only[cH,if_false]at A;have Z:Ad (λz=>z=y.2.1) W (W.setCell ⟨y.2.1,3,none⟩ (.int .i64 (y.2.2.held+1))):=Ad.z4 W ⟨y.2.1,3,none⟩ _;have O:y.2.1∈S1.map (·.2.1):=by rw[<-TG T S1];exact bC.2 ⟨y,q,rfl⟩
 have H:=eV T S1 0 1000000000 hu y q
 refine⟨y.2.1,y.2.2.held,A,hb.cell (i:=3) vF,hb.frozen,H.1,H.2,⟨h.st.st.Z Z λe=>?_,?_⟩,h.kp.trans (Z.mono λz _ e=>by have e:z=_:=e;rw[e];exact O)⟩
 ·have e:s=y.2.1:=e;rw[e]at h;have:=hb.uniq h.st.st;injection this with _ h2;exact absurd h2 vI
 ·rw[<-h0 h.st.mp K];exact h.st.mp.setF X (.inr rfl) _
def Lj(G:vT)(F:vM):vT:=F.filterMap λx=>Be G x.data.toList
theorem k1{x:vB}(hx:F[i]?=some x)(hy:Be G x.data.toList=some y):Lj G (F.take (i+1))=Lj G (F.take i)++[y]:=by
 unfold Lj;rw[cB,hx,List.filterMap_append];simp[hy]
theorem Vn(h:y∈Lj G F):y∈G/\∃ x∈F,y.1=x.data.toList:=by
 obtain⟨x,q,e⟩:=List.mem_filterMap.1 h
 exact⟨(Fd e).1,x,q,(Fd e).2⟩
theorem R7{k:Eo}(h:∀ x∈B,k≠x.1):Be (A++B) k=Be A k:=by
 unfold Be;rw[iX]
 have:B.find? (λx=>decide (k=x.1))=none:=by rw[List.find?_eq_none];simpa using h
 rw[this];simp
theorem Lw.notRow{W:vW}(h:Lw W bm L):Mm W (λz=>z=bm):=λz q K e A=>by
 obtain⟨O,ck,H,_⟩:=h.mp
 have e:z=bm:=e;subst e
 have:=H.uniq A;cases this
structure CL(w4:World)(s bm bg:Nat)(room:Int)(S G:vT)(F:vM)(v:Value)(i:Nat)(W:World):Prop where
 kp:Ad (λz=>z=bm) w4 W
 st:Ev W s bm room (S++Lj G (F.take i))
 gv:Lw W bg G
 row:W.ownsRow 0 9 1 v F.length (F.map Value.string)
theorem CL.ext{W:vW}(h:CL w4 s bm bg room S G F v i W)(e:Af W W'):CL w4 s bm bg room S G F v i W':=
 ⟨h.kp.trans (e.mono kZ),h.st.ext e,h.gv.ext e,Kh h.row e⟩
theorem CL.put{W:vW}(h:CL w4 s bm bg room S G F v i W)
  (hSG:∀ x∈S,∀ y∈G,x.2.1≠y.2.1) (hbg:bg≠bm) (hv:∀ z,v.ownBlock=some z->z≠bm) (hnd:F.Nodup) (hFS:∀ x∈F,Be S x.data.toList=none)
  {x:vB} {y:Gk} (hx:F[i]?=some x) (hy:Be G x.data.toList=some y) :
  ∃ o,(Instr.mapUpdate 123 (.map (some bm)) x y.2.1).run prog W=.ok () (W.putObj bm o)/\CL w4 s bm bg room S G F v (i+1) (W.putObj bm o):=by
 have hk:∀ z∈Lj G (F.take i),x.data.toList≠z.1:=λz q e=>by obtain⟨_,x',X,e'⟩:=Vn q;have:=VW (e.trans e');subst this;exact j9 hnd hx X
 have hn:Be (S++Lj G (F.take i)) x.data.toList=none:=by rw[R7 hk];exact hFS x (bD hx)
 have A:=(Fd hy).1;have H:=(Fd hy).2;have K:∀ z∈S++Lj G (F.take i),z.2.1≠y.2.1:=λz q e=>by rcases bR.1 q with q|q;{exact hSG z q y A e};have:=Qj h.gv.blks (Vn q).1 A e;subst this;exact hk z q H.symm
 obtain⟨o,Z,hA⟩:=h.st.mp.put x hn (h.gv.items y A) K
 have O:Ad (λz=>z=bm) W (W.putObj bm o):=Ad.z7 W bm o;have hN:=h.st.mp.notRow;have a0:∀ {c:Nat} {it:It},Xv W c it->¬ c=bm:=λhi e=>by obtain⟨_,hc,_⟩:=hi.cells;obtain⟨es,ck,h1,_⟩:=h.st.mp.mp;subst e;have:=h1.uniq hc;cases this
 refine⟨o,Z,h.kp.trans O,⟨h.st.st.Z O λe=>?_,?_⟩,h.gv.Z O hbg (λz q=>a0 (h.gv.items z q)) hN,Lb h.row O λz q e=>hv z q e⟩
 ·have e:s=bm:=e;obtain⟨es,ck,h1,_⟩:=h.st.mp.mp;subst e;have:=h1.uniq h.st.st;cases this
 ·rw[k1 hx hy, <-bZ];(have e:(x.data.toList,y.2.1,y.2.2)=y:=by rw[<-H]);rw[e]at hA;exact hA
theorem wT(A B:vT)(k:Eo):(Be (A++B) k).isSome=((Be A k).isSome ||(Be B k).isSome):=by
 unfold Be;rw[iX,Option.isSome_or]
def RF(w5:vW)(s bm bg:Nat)(room:Int)(S1 G:vT)(F:vM)(v iv:vV)(W:vW):Prop:=∃ i:Nat,i<=F.length/\iv=.int .i64 i/\Zn w5 s bm bg room S1 G F v ((F.take i).flatMap (Ik G)) W
def JD(w5:vW)(s bm bg:Nat)(room:Int)(S1 G:vT)(F:vM)(v:vV)(T R:vM)(rv jv:vV)(W:vW):Prop:=∃ j:Nat,j<=R.length/\jv=.int .i64 j/\Zn w5 s bm bg room S1 G F v (T++R.take j) W/\W.ownsRow 0 9 1 rv R.length (R.map Value.string)
def RE(w4:vW)(s bm bg:Nat)(room:Int)(S G:vT)(F:vM)(v iv:vV)(W:vW):Prop:=∃ i:Nat,i<=F.length/\iv=.int .i64 i/\CL w4 s bm bg room S G F v i W
def Gi(l:vM):Prop:=∀ x∈l,∀ y∈l,Aj x=Aj y->x=y
theorem Gi.step{L:vM}(h:Gi (L.take i))(ht:L[i]?=some t)(hs:∀ x∈L.take i,Aj x=Aj t->x=t):Gi (L.take (i+1)):=by
 intro x q y A e;rw[cB,ht]at q A;rcases bR.1 q with h1|h1<;>rcases bR.1 A with h2|h2
 ·exact h x h1 y h2 e
 ·simp at h2;subst h2;exact hs x h1 e
 ·simp at h1;subst h1;exact (hs y h2 e.symm).symm
 ·simp at h1 h2;rw[h1,h2]
def RI(w:vW)(L:vM)(hv iv:vV)(W:vW):Prop:=∃ i:Nat,i<=L.length/\iv=.int .i64 i/\Cg w W hv i ((L.take i).map Aj)/\Gi (L.take i)
def RJ(w4:vW)(L:vM)(t:vB)(i:Nat)(kv:vV)(W:vW):Prop:=∃ k:Nat,k<=i/\kv=.int .i64 k/\Af w4 W/\∀ x∈L.take k,Aj x=Aj t->x=t
def tY(L:vM)(w:vW)(e:Ending)(w':vW):Prop:=∃ b,e=.returned (.bool b)/\(b=true↔Gi L)/\Af w w'
theorem R3(hc:Ha w)(v:vV)(L:vM)(hv:Ie w v L)(hl:L.length<=1000000):vQ 32 #[v] w (tY L w):=by
 obtain⟨a,c,rfl,_⟩:=hv.slice
 have HV:=J hv;have HC:=J hc;clear hv hc;unfold vQ;go_in;go_wp2
 go_loopw [3,4] (λhv iv wr=>RI w L hv iv wr) (λ_ iv _=>L.length-(intOf iv).toNat)
 case atStart=>exact⟨0,cD _,rfl,Ar.nil _ _ (Aa w),λx X=>by cases X⟩
 case round =>obtain⟨i,hi,rfl,hR,hI⟩:=hrel;obtain⟨ah,ch,rfl⟩:=hR.sl;have HR:=J hR;have HI:=J hI;clear hR hI;by_cases hlt:i<L.length;{have b1:(i:Int)<(L.length:Int):=vO;obtain⟨t,ht⟩:∃ t,L[i]?=some t:=⟨_,bB hlt⟩;obtain⟨ax,cx,hh,q⟩:=HV.o.slice;obtain⟨ba,oa,b5,a0⟩:=q i t ht;subst b5;cases hh;have q1:=Am a0 HR.o.ext;have HT:=J ht;have b6:=J a0;have b7:=J (show ∀ (j:Nat) x,L[j]?=some x->w.cell? ⟨ba,oa+j,none⟩=some (.string x)from λj x X=>by obtain⟨b',o',e,h⟩:=q j x X;cases e;exact h);(clear q a0 ht;go_wp2_with fail);refine vH (Tr _ _ [t] (by simp) (BS wr [t] 9) (HC.o.ext (HR.o.ext.alloc _))) λw4 hE=>?_;rw[CX];have a1:=((Aa wr).alloc (.cells #[.string t] 9)).trans hE;have a2:=J (HR.o.mono a1);have a3:=J (HR.o.ext.trans a1);obtain⟨sh,a4⟩:=vE (Aj t);(have a5:=J a4;rw[<-a4];clear a1 a4 q1 HR;go_wp2);(go_loopw [6] (λkv b8=>RJ w4 L t i kv b8) (λkv _=>i-(intOf kv).toNat));(case atStart=>exact⟨0,cD _,rfl,Aa w4,λx X=>by cases X⟩);case round =>obtain⟨k,hk,rfl,hE,hs⟩:=hrel;have K:=J hE;have HS:=J hs;clear hE hs;by_cases hlt2:k<i;{have b2:(k:Int)<(i:Int):=vO;have b3:(k:Int)<(L.length:Int):=vO;obtain⟨x,X⟩:∃ x,L[k]?=some x:=⟨_,bB vO⟩;(have Z:((L.take i).map Aj)[k]?=some (Aj x):=by rw[bY,List.getElem?_take,if_pos hlt2,X];rfl);(have b0:=EW a2.o.own;have A:∃ bh oh,ah=some ⟨bh,oh,none⟩/\w4.cell? ⟨bh,oh+k,none⟩=some (.string (Aj x)):=by rcases b0 with⟨_,_,_,h0⟩|⟨bq,oq,cq,hh,_,_,q⟩;{rw[h0]at Z;cases Z};exact⟨bq,oq,(dF hh).1,q k _ Z⟩);obtain⟨bh,oh,rfl,A⟩:=A;obtain⟨sx,a7⟩:=vE (Aj x);(rw[<-a7]at A;have b4:=J a7;have Q1:=J (Am A K.o);have Q2:=J (Am (b7.o k x X) (a3.o.trans K.o));have Q3:=J (Am b6.o (a3.o.trans K.o));have HX:=J X;clear X Z b0 A a7;go_wp2_with fail);(refine Hs [0,1,2,3,4,5,6,7,8,9,10,11,12,13,14,15,16] Af Aa Ap vY vY vY ?_;iterate 3 refine vK ?_);(refine Db ⟨bh,oh+k,none⟩ _ rfl (λw1 H=>Bv underlying9 rfl (Am Q1.o ((Ao _).trans H))) (vS ?_);iterate 3 refine vK ?_);cases hq:(sx.toList == sh.toList)with| false =>have HN:=J (show Aj x=Aj t->x=t from λe=>by rw[<-b4.o, <-a5.o]at e;rw[e]at hq;simp at hq);(clear hq;iterate 9 (refine Xh _ rfl (vS ?_)));refine vK ?_;refine Hi (λw5 he=>?_);have O:=J (K.o.trans ((Ao _).trans he));have a8:=J (show ∀ z∈L.take (k+1),Aj z=Aj t->z=t from λz hz e=>by rw[cB,HX.o]at hz;rcases bR.1 hz with H|H;{exact HS.o z H e};simp at H;subst H;exact HN.o e);(clear he Q1 Q2 Q3 K HS;go_wp2);go_roundw;(case rel=>exact⟨k+1,by omega,by go_num,O.o,a8.o⟩);case measure=>exact vJ| true =>(have b9:=J (show Aj x=Aj t by rw[<-b4.o, <-a5.o];exact TC (by simpa using hq));clear hq;iterate 3 refine vK ?_);(refine Db ⟨ba,oa+k,none⟩ _ rfl (λw1 H=>Bv underlying9 rfl (Am Q2.o ((Ao _).trans H))) (vS ?_);iterate 3 refine vK ?_);refine Db ⟨ba,oa+i,none⟩ _ rfl (λw1 H=>Bv underlying9 rfl (Am Q3.o ((Ao _).trans H))) (vS ?_);refine vK ?_;cases A:(x.toList == t.toList)with| true =>have HN:Hid (x=t):=(TC (by simpa using A));have hb:(!true)=false:=rfl;clear A;rw[hb];refine vK ?_;refine Hi (λw5 he=>?_);have O:=J (K.o.trans ((Ao _).trans he));have a8:=J (show ∀ z∈L.take (k+1),Aj z=Aj t->z=t from λz hz e=>by rw[cB,HX.o]at hz;rcases bR.1 hz with H|H;{exact HS.o z H e};simp at H;subst H;exact HN.o);(clear he Q1 Q2 Q3 K HS hb;go_wp2);go_roundw;(case rel=>exact⟨k+1,by omega,by go_num,O.o,a8.o⟩);case measure=>exact vJ| false =>have hb:(!false)=true:=rfl;have c0:=J (show ¬ Gi L from λh=>by have:=h x (bD HX.o) t (bD HT.o) b9.o;rw[this]at A;simp at A);clear A;rw[hb];refine vK ?_;(refine Hi (λw5 he=>?_);have O:=J (K.o.trans ((Ao _).trans he));clear he Q1 Q2 Q3 K HS hb;go_wp2);go_ret;exact⟨false,rfl,⟨λe=>(by cases e),λh=>absurd h c0.o⟩,a3.o.trans O.o⟩};have c1:k=i:=vO;(subst c1;have c2:=J (HI.o.step HT.o HS.o);have c3:=J (a2.o.mono K.o);have c4:=J (show (L.take (k+1)).map Aj=(L.take k).map Aj++[sh] by rw[cB,HT.o,bW,a5.o];rfl);have c5:k+1<=maxLen:=by unfold maxLen;omega);have c7:(k+1)*16<=140737488355328:=vO;(clear HS HI K a2;go_wp2_with (at_builtin;refine Qm Ci (c3.o.mono ((Aa wr).alloc _)) (.tmp 41) (.tmp 43) rfl rfl rfl (Jx (Ae.new wr _)) (news:=[sh]) (by intro u hu;simp at hu;rcases hu with rfl;rfl) rfl rfl c5 c7 ?_;intro v' w' r1 r2 r3));(have a9:Cg w w' v' (k+1) ((L.take (k+1)).map Aj):=by unfold Cg;rw[c4.o,bW];exact r1);obtain⟨d1,d2,rfl⟩:=a9.sl;(have c8:=J a9;clear r1 r2 r3 a9;go_wp2);go_roundw;(case rel=>exact⟨k+1,by omega,by go_num,c8.o,c2.o⟩);case measure=>exact vJ};have c9:i=L.length:=vO;(have d0:=J (show Gi L by have:=HI.o;rwa [c9,cF]at this);clear HI;go_wp2);go_ret;exact⟨true,rfl,⟨λ_=>d0.o,λ_=>rfl⟩,HR.o.ext⟩
end
def cK(T:vM)(k:Eo):Nat:=(T.map (·.data.toList)).count k
theorem PK(A B:vM)(k:Eo):cK (A++B) k=cK A k+cK B k:=by unfold cK;rw[bW,List.count_append]
theorem LJ(B:vM)(k:Eo):cK (r::B) k=cK B k+(if k=r.data.toList then 1 else 0):=by
 unfold cK;rw[bP,List.count_cons]
 by_cases h:k=r.data.toList
 ·rw[if_pos h,h];simp
 ·rw[if_neg h,if_neg];simpa using λe=>h e.symm
theorem P5{T:vM}{k:Eo}(h:∀ r∈T,r.data.toList≠k):cK T k=0:=by
 unfold cK;rw[List.count_eq_zero];intro q
 obtain⟨r,A,e⟩:=bC.1 q
 exact h r A e
theorem XF{T:vM}{r:vB}(h:r∈T):1<=cK T r.data.toList:=by
 unfold cK;exact gB.2 (bC.2 ⟨r,h,rfl⟩)
def Wv(n:Nat)(x:Gk):Gk:=(x.1,x.2.1,⟨x.2.2.text,x.2.2.refs,x.2.2.used+n,x.2.2.held⟩)
def DY(n:Nat)(x:Gk):Gk:=(x.1,x.2.1,⟨x.2.2.text,x.2.2.refs,x.2.2.used,x.2.2.held+n⟩)
theorem mC:∀ (T:vM) (L:vT),Qe T L=L.map λx=>Wv (cK T x.1) x
 |[],L=>by
  show L=_
  have:(λx:Gk=>Wv (cK [] x.1) x)=id:=by
   funext x
   obtain⟨a,b,⟨t,r,u,h⟩⟩:=x
   unfold Wv cK;simp
  rw[this,jK]
 |r::T,L=>by
  show Qe T (Vw r.data.toList L)=_;rw[mC T,Vw,dB];refine dA λx _=>?_;show Wv (cK T (if x.1=r.data.toList then (x.1,x.2.1,Jt 2 (x.2.2.used+1) x.2.2)else x).1) (if x.1=r.data.toList then (x.1,x.2.1,Jt 2 (x.2.2.used+1) x.2.2)else x)=_;rw[LJ]
  by_cases h:x.1=r.data.toList
  ·simp only[if_pos h]
   unfold Wv Jt;simp only[if_true];rw[show x.2.2.used+1+((cK T x.1:Nat):Int)=x.2.2.used+((cK T x.1+1:Nat):Int) by omega]
  ·simp only[if_neg h,gJ]
theorem z9(L:vT):Zi r.data.toList L=L.map λx=>DY (cK [r] x.1) x:=by
 unfold Zi;refine dA λx _=>?_;rw[LJ]
 by_cases h:x.1=r.data.toList
 ·rw[if_pos h,if_pos h];rfl
 ·rw[if_neg h,if_neg h];obtain⟨a,b,⟨t,r,u,h⟩⟩:=x;unfold DY cK;simp
def DN(T:vM)(r:vB)(x:Gk):Gk:=DY (cK [r] x.1) (Wv (cK T x.1) x)
theorem P3(L:vT):Zi r.data.toList (Qe T L)=L.map (DN T r):=by
 rw[z9,mC,dB];rfl
theorem n8(L:vT):(L.map (DN T r)).map (·.1)=L.map (·.1):=by
 rw[dB];rfl
theorem n9(L:vT):(L.map (DN T r)).flatMap (λy=>y.2.2.refs)=L.flatMap (λy=>y.2.2.refs):=by
 rw[List.flatMap_map];rfl
theorem aE(G:vT):∀ F:vM,F.flatMap (Ik G)=(Lj G F).flatMap (λy=>y.2.2.refs)
 |[]=>rfl
 |x::F=>by
  have e:=aE G F;unfold Lj at *;rw[dJ,fX];cases h:Be G x.data.toList with
  |none=>rw[e];unfold Ik;rw[h];rfl
  |some y=>rw[e,NC h,dJ]
theorem Xs{k:Eo}:(Be S k).isSome=true↔k∈S.map (·.1):=by
 constructor
 ·intro h;obtain⟨y,q⟩:=cW.1 h;exact bC.2 ⟨y,(Fd q).1,(Fd q).2⟩
 ·intro h;obtain⟨y,q,e⟩:=bC.1 h;cases ha:Be S k with| some z=>rfl| none=>exact absurd e.symm (EJ.1 ha y q)
theorem R9(hn:(S.map (·.1)).Nodup){k:Eo}(hx:x∈S)(e:x.1=k)(hy:Be S k=some y):y=x:=by
 obtain⟨q,A⟩:=Fd hy
 exact Qj hn q hx (A.trans e.symm)
def yH(L:vM)(top:vB):Prop:=∀ P:vB->Prop,(∀ t∈L,P (Aj t)->∀ h∈Gc (Bq t),P h)->P (Aj top)->∀ t∈L,P (Aj t)
theorem wE(hU:Gi U){s:vB}(hs:s∈U)(ht:t∈U)(h:ky s=ky t):s=t:=hU s hs t ht (VW h)
def Gl(S G:vT)(M:vM)(top:vB):vT:=Zi (Aj top).data.toList (Qe ((Da S M).flatMap (Ik G)) (S++Lj G (Da S M)))
theorem Vp(S G:vT)(M:vM)(top:vB):Gl S G M top=(S++Lj G (Da S M)).map (DN ((Da S M).flatMap (Ik G)) (Aj top)):=P3 _ _ _
theorem zY(w:vW)(P:vB->Prop):∀ (f:Nat) (l:vL),Ep f l->(∀ t∈Bz (An (f+1) l),P (Aj t)->∀ h∈Gc (Bq t),P h)->P (Aj (Cu (Bj (An f) l)))->∀ t∈Bz (An (f+1) l),P (Aj t):=by
 intro f;induction f with
 |zero =>(intro l h _ Z t q;have e2:Dc (An 0) l=[]:=by have:=Vt h;unfold Dc;rw[if_pos vO]);(have H:Bz (An (0+1) l)=[Cu (Bj (An 0) l)]:=by show Bz (.mk (Cu (Bj (An 0) l)) (Dc (An 0) l))=_;rw[Bz,e2];simp[En]);rw[H,bG]at q;subst q;exact Z
 |succ f ih =>(intro l h O Z t q;have H:Bz (An (f+1+1) l)=Cu (Bj (An (f+1)) l)::En (Dc (An (f+1)) l):=by show Bz (.mk (Cu (Bj (An (f+1)) l)) (Dc (An (f+1)) l))=_;rw[Bz]);have hh:=SM (f+1) l h;have A:Hv (Cu (Bj (An (f+1)) l)) (Bj (An (f+1)) l):=⟨rfl,f+1,(good (f+1) l h).1⟩;rw[H]at q;rcases bU.1 q with rfl|q;{exact Z};obtain⟨K,hK,q⟩:=Zw.1 q;obtain⟨g,m,eg,e,h1,a0⟩:=uI h hK;obtain rfl:f=g:=vO;(subst e;have X:∀ t∈Bz (An (f+1) m),t∈Bz (An (f+1+1) l):=λt q=>by rw[H];exact bM _ (Zw.2 ⟨_,hK,q⟩));refine ih m h1 (λt q=>O t (X t q)) ?_ t q;refine O _ (by rw[H];exact bN) Z _ ?_;rw[BL w (Vm A) A,hh];exact bC.2 ⟨_,hK,rfl⟩
theorem K5(w:vW)(h:Em l=0):yH (Hg (Bz (Cr l))) (Cr l).text:=λP q A t e =>
 zY w P 12 (Cq l) (Nn (Ge h)) (λt e=>q t ((Ql _ _).2 e)) A t ((Ql _ _).1 e)
theorem Ev.nd{W:vW}(h:Ev W s bm room S):(S.map (·.1)).Nodup:=by
 obtain⟨q,ck,_,e⟩:=h.mp.mp
 have:=e.keys
 rw[dB]at this;exact this
section
attribute [local go_sem] Oper.semAt_some
def Ld(l:vL):vM:=Hg (Bz (Cr l))
theorem n_(h:Em l=0):(Ld l).length<=121:=by
 have e:=(h8 h).1;have q:=(Ge h).len;show (Hg (Bz (Cr l))).length<=_;omega
end
def Oz:vV:=.iface 27 (.int .i64 2)
def YH(W0 W:vW)(v:vV):Prop:=∃ (b:Nat) (k:Int),v=.iface 356 b/\Ae W b (.cells #[.int .i64 k,Oz] 358)/\(W0:Nat)<=b
def RR(w:vW)(e:Ending)(w':vW):Prop:=∃ v,e=.returned v/\Af w w'/\YH w w' v
theorem c4(k:Int):vQ 217 #[.int .i64 k] w (RR w):=by
 unfold vQ;go_in;go_wp2
 go_ret
 exact⟨_,rfl,(Aa w).alloc _,_,k,rfl,Ae.new w _,bO _⟩
def xX(w:vW)(e:Ending)(w':vW):Prop:=∃ v,e=.returned (.tuple #[false,(),(),v])/\Af w w'/\YH w w' v
theorem r8:vQ 176 #[()] w (xX w):=by
 unfold vQ;go_in;go_wp2_with fail
 refine (c4 w 0).mono ?_;rintro e w1 ⟨v,rfl,A,H⟩
 obtain⟨b,k,rfl,K⟩:=H
 have q:=J (bA A K);go_wp2_with fail
 refine bodyPost_ret (v:=.tuple #[false,(),(),.iface 356 b]) (by simp[results,results176,go_sem]) rfl ?_
 exact⟨_,rfl,q.o.1,b,k,rfl,q.o.2⟩
section
attribute [local go_sem] Oper.semAt_some
theorem Uj(v:vV)(xT:TypeId)(w:vW):(Instr.typeAssert (.iface 356 v) xT 234 true).run prog w=.ok (.tuple #[qg,false]) w:=run_typeAssert_lacksB underlying234 vY vY v xT w
theorem Nk(v:vV)(xT:TypeId)(w:vW):(Instr.typeAssert (.iface 356 v) xT 237 true).run prog w=.ok (.tuple #[.iface 356 v,true]) w:=run_typeAssert_hasB underlying237 vY v xT w
end
theorem Ew(n:Nat)(v:vV)(w:vW):(Go.method (n+1) 232 v "Comparable").run prog w=.ok (268,v) w:=vY
theorem Kt(n:Nat)(v:vV)(w:vW):(Go.method (n+1) 356 v "Unwrap").run prog w=.ok (285,v) w:=vY
theorem M6(k:Int)(c:vV)(hB:Ae w b (.cells #[.int .i64 k,c] 358)):vQ 285 #[b] w λe w'=>e=.returned c/\w=w':=by
 have q:=hB.cell (i:=1) (v:=c) vF;unfold vQ;go_in;go_wp2
 go_ret
 exact⟨rfl,rfl⟩
theorem xO(k:Int)(hB:Ae w b (.cells #[.int .i64 k,Oz] 358)):vQ 79 #[.iface 356 b,Oz,true] w λe w'=>e=.returned true/\w=w':=by
 have q:=J hB;have A:=λw=>run_eql_iface_types (P:=prog) 356 27 b (.int .i64 2) underlying93 vI w;have H:∀ w,(binOp .eql 93 Oz Oz).run prog w=.ok true w:=λw=>by kernel_rfl
 have K:∀ w,(binOp .eql 93 Oz .nilIface).run prog w=.ok false w:=λw=>by kernel_rfl
 unfold Oz at *;have O:=Uj;have X:=Nk;have Z:=Kt 522;unfold vQ;go_in;go_wp2_with fail
 refine wp_loop_rounds 2 ?_;rw[rounds_succ];go_wp2_with fail
 refine (M6 w b k _ q.o).mono ?_;rintro e w1 ⟨rfl,rfl⟩;go_wp2_with fail
 rw[rounds_succ];go_wp2
 go_ret
 exact⟨rfl,rfl⟩
theorem H4(k:Int)(hB:Ae w b (.cells #[.int .i64 k,Oz] 358)):vQ 36 #[.iface 356 b,Oz] w λe w'=>e=.returned true/\w=w':=by
 have q:=J (xO w b k hB);have A:∀ w,(binOp .eql 93 (.iface 356 b) .nilIface).run prog w=.ok false w:=λw=>by kernel_rfl
 have H:∀ w,(binOp .eql 93 Oz .nilIface).run prog w=.ok false w:=λw=>by kernel_rfl
 unfold Oz at *;have O:∀ w,(callFunc 78 #[.iface 27 (.int .i64 2)]).run prog w=.ok (.value (.iface 232 (.agg #[.pointer (some ⟨3,27,none⟩)]))) w:=λw=>by kernel_rfl
 have K:∀ w,(callFunc 268 #[.agg #[.pointer (some ⟨3,27,none⟩)]]).run prog w=.ok (.value true) w:=λw=>by kernel_rfl
 have X:=Ew 522;unfold vQ;go_in;go_wp2_with fail
 refine q.o.mono ?_;rintro e w1 ⟨rfl,rfl⟩;go_wp2
 go_ret
 exact⟨rfl,rfl⟩
section
attribute [local go_sem] Oper.semAt_some
def Zh(s:vB):Option vB:=match Dx s with|some r=>Vx s r|none=>none
theorem eZ:vR 149 #[()] w (.tuple #[false,(),(),.int .i64 2]):=by
 have q:=J (r8 w);unfold vR vQ;go_in;go_wp2_with fail
 refine q.o.mono ?_;rintro e w1 ⟨v,rfl,A,b,k,rfl,H,_⟩;have K:=J A;have O:=J H;go_wp2_with fail
 refine (show vQ 36 #[.iface 356 b,.iface 27 (.int .i64 2)] w1 λe w'=>e=.returned true/\w1=w' from H4 w1 b k O.o).mono ?_;rintro e X ⟨rfl,rfl⟩;go_wp2_with fail
 exact bodyPost_ret (v:=.tuple #[false,(),(),.int .i64 2]) (by simp[results,results149,go_sem]) rfl ⟨rfl,K.o⟩
theorem jqA:vR 167 #[()] w (Cw none):=by
 have q:=J (eZ w);unfold vR vQ;go_in;go_wp2_with fail
 refine q.o.mono ?_;rintro e w1 ⟨rfl,A⟩;have H:=J A;go_wp2
 go_ret2
 exact⟨rfl,H.o⟩
theorem jl3:vR 137 #[()] w (Cw none):=by
 have q:=J (jqA w);unfold vR vQ;go_in;go_wp2_with fail
 refine q.o.mono ?_;rintro e w1 ⟨rfl,A⟩;unfold Cw;have H:=J A;go_wp2
 go_ret2
 exact⟨rfl,H.o⟩
def Yf(s:vB):Prop:=Dx s=none->s=⟨#[]⟩
theorem KI(s:vB)(hs:s.size<=1000000000)(he:Yf s):vR 137 #[s] w (Cw (Zh s)):=by
 unfold Zh;cases h:Dx s with
 |none=>rw[he h];exact jl3 w
 |some r=>exact Xc w s r hs h
theorem k9{s h:vB}(hh:Zh s=some h):Yf s:=λe=>by
 unfold Zh at hh;rw[e]at hh;cases hh
end
def DV(w:vW)(e:Ending)(w':vW):Prop:=∃ m:Ai,m.refs.length=16/\e=.returned (.tuple #[m.V,false])/\Af w w'
def QM(w:vW)(e:Ending)(w':vW):Prop:=e=.returned (.tuple #[Cv.V,.int .i64 2])/\Af w w'
theorem w9(w:vW)(s:vB)(hs:s.size<=1000000000)(h:Dx s=none)(hsp:∀ w,vR 149 #[s] w (.tuple #[false,(),(),.int .i64 2])):vQ 159 #[s] w (DV w):=by
 obtain⟨em,q⟩:=vE (Av ())
 have H:s≠em:=λe=>by obtain⟨o,h1,_⟩:=KF () vI;rw[e,q,h1]at h;cases h
 have a5:=KA H;have Z:=J q;have HS:=J hsp;have HZ:=J hs;clear q H h hs hsp;unfold vQ;go_in;go_wp2_with (refine Di Ac rfl rfl ?_;intro W1 K O)
 refine vC (Rt _ () vI) λw2 A=>?_;rw[<-Z.o];have X:=J (K.Z A kI);have a0:=J (O.trans A);clear K O A;go_wp2_with fail
 refine vC (HS.o w2) λw3 A=>?_;have a1:=X.o.Z A kI;have a2:=J (a0.o.trans A);clear A X;go_wp2_with (refine Bt (vs:=Cv.cells) rfl rfl rfl rfl a1 rfl Ab (Ai.one _) ?_;intro W8 a3 a4)
 refine bodyPost_ret (Ot rfl rfl rfl (Qb W8 _ Cv rfl a3)) rfl ?_
 exact⟨Cv,rfl,rfl,a2.o.O a4 kJ⟩
theorem Y0(w:vW)(s:vB)(h:∀ w,vQ 159 #[s] w (DV w)):vQ 114 #[s] w (QM w):=by
 have HR:=J h;unfold vQ;go_in;go_wp2_with (refine Di Ac rfl rfl ?_;intro W1 O X)
 refine (HR.o W1).mono ?_;rintro e w2 ⟨m,hm,rfl,hE⟩;have q:=O.Z hE kI;have Z:=J (X.trans hE);have HL:=J (m.z3 hm);have HM:=J hm;unfold Ai.V;go_wp2_with (first|(refine Di Ac rfl rfl ?_;intro W3 a0 A;refine Bt (vs:=m.cells) rfl rfl rfl rfl a0 (by rw[HL.o];rfl) (by rw[HL.o];exact Ab) m.one ?_;intro W4 a4 H;have K:=(q.Z A kI).Z H (kL q.lt))|(refine Bt (vs:=Cv.cells) rfl rfl rfl rfl K rfl Ab (Ai.one _) ?_;intro W8 a1 a2))
 refine bodyPost_ret (Ot rfl rfl rfl (Qb W8 _ Cv rfl a1)) rfl ?_;have a3:Af w2 W4:=A.O H kJ
 exact⟨rfl,(Z.o.trans a3).O a2 kJ⟩
theorem vA(w:vW)(s:vB)(hs:s.size<32)(h:∀ w,vQ 114 #[s] w (QM w)):vR 138 #[s] w (.tuple #[Cv.V,false]):=by
 have HR:=J h;have c1:¬(32:Int)<=(s.size:Int):=vO
 unfold vR vQ;go_in;go_wp2_with (refine Di Ac rfl rfl ?_;intro W1 O X)
 refine vC (HR.o W1) λZ hE=>?_;have q:=O.Z hE kI;have a0:=J (X.trans hE);unfold Ai.V;go_wp2_with (first|(refine Di Ac rfl rfl ?_;intro W3 a1 A;refine Bt (vs:=Cv.cells) rfl rfl rfl rfl a1 rfl Ab Cv.one ?_;intro W4 a2 H;have q0:W4.cell? Z=some (.int .i64 0):=a2.z1 vF;have K:=(q.Z A kI).Z H (kL q.lt))|(refine Bt (vs:=Cv.cells) rfl rfl rfl rfl K rfl Ab (Ai.one _) ?_;intro W8 a3 a4))
 refine bodyPost_ret (Ot rfl rfl rfl (Qb W8 _ Cv rfl a3)) rfl ?_;have a5:Af Z W4:=A.O H kJ
 exact⟨rfl,(a0.o.trans a5).O a4 kJ⟩
theorem W6:Dx ()=none:=by decide +kernel
theorem x0:vQ 159 #[()] w (DV w):=w9 w _ vI W6 eZ
theorem Zr:vR 138 #[()] w (.tuple #[Cv.V,false]):=
 vA w () vI λw=>Y0 w _ x0
theorem Zx:vR 137 #[()] w (.tuple #[(),false]):=jl3 w
