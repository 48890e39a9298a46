/- Lemmas. -/
import Derived.Test.YtgmmpefjadjajaaGreatDoorPa0
import Derived.Test.YtgmmpefjadjajaaGreatDoorPa24
namespace Go.Proofs.YtgmmpefjadjajaaGreatDoor
open Go.Proofs.Tryz
set_option linter.unusedSimpArgs false
set_option linter.unusedVariables false
set_option maxRecDepth 100000
set_option maxHeartbeats 16000000
variable (o:Option vB)(args:Array vV)(W w:vW)(k:Int)(D:Nat->Prop)(b cb wb z mb s bm:Nat)(p fr:vB){af:Array Edge}{tmps:Array vV}{F:Bd}{e:Ending}{Q:Exit->Act->vW->Prop}{fn:Func}{x bk room room':Int}{es:List (Ce Int)}{cs:List Br}{M:Dm}{f g1 u sz i sb ck c rm:Nat}{q fz:Nat × Nat}{g:Option (Nat × Bool)}{a a6:Option Addr}{d:Option Tmp}{P:Program}{pos:String}{n:Ai}{r t root key:vB}{l m:vL}{L U xs:vM}{S S1 S' G:vT}{v ev v1 v2:vV}{w0 w' w1 W':vW}
section
open Go Go.RowKit
def ER(es:List (Ce Int))(M:Dm):vB:=match Cp es ((Nu M).block:Int)with|some (.string r)=>r|_=>⟨#[]⟩
def Sb(b rm bm:Nat)(S:vT):Bd:=λz=>z=b\/z=rm\/z=bm\/z∈S.map (·.2.1)
def Rz(es:List (Ce Int))(M:Dm)(t:vB)(ck:Nat):List (Ce Int):=es++[((M.next:Int),.string t,ck)]
def YF(w0 w:vW)(b:Nat)(M:Dm)(cs:List Br)(I:vW->Prop)(rm sb cb:Nat)(es:List (Ce Int))(ck bm:Nat)(room:Int)(S:vT)(n:Nat)(N:Int->Prop)(R:vB->vT->Prop)(e:Ending)(w':vW):Prop:=
 (∃ k:Int,k≠0/\((Hn M cs).2.2=k\/(Hn M cs).2.2=0/\N k)/\e=.returned (.tuple #[qa,.int .i64 k])/\I w'/\Ad (λz=>z=b) w w') \/
 ((Hn M cs).2.2=0/\∃ t S1 S' D' a' c',R t S1/\e=.returned (.tuple #[(M.next:Int),qa])/\Fp w0 D' w' b (Hn M cs).1 a' c' rm sb cb ((Rz es M t ck).filter λx=>Co (Hn M cs).1.all x.1) (ck+1) bm room S' (n+1000)/\Ad (Sb b rm bm S) w w'/\(∀ x∈S',x.2.1∈S.map (·.2.1)\/(w:Nat)<=x.2.1)/\((∀ x∈Rz es M t ck,Co (Hn M cs).1.all x.1=true)->S'=S1)/\(∀ z,D' z->(w:Nat)<=z)/\Ub (Hn M cs).1.all (Rz es M t ck) S1 ((Rz es M t ck).filter λx=>Co (Hn M cs).1.all x.1) S')
theorem v4(h:∀ x∈es,∃ r,x.2.1=.string r):(Cp es ((Nu M).block:Int)).getD ()=.string (ER es M):=by
 unfold ER;cases e:Cp es ((Nu M).block:Int)with
 |none=>rfl
 |some v =>(have:∃ r,v=.string r:=by unfold Cp at e;rw[dH]at e;obtain⟨x,q,rfl⟩:=e;exact h x (List.mem_of_find?_eq_some q));obtain⟨r,rfl⟩:=this;rfl
theorem Lp:(callFunc 46 args).run prog w=.ok (.enter 46 args) w:=vY
theorem t9:(Hn M cs).2.2=0->(Hn M cs).2.1=M.next:=by
 unfold Hn;split
 ·rename_i h;exact λe=>absurd e h
 ·split;{exact λe=>absurd (show (12:Int)=0 from e) vI};exact λ_=>rfl
theorem KX{w:vW}{r:Nat}{x:Array vV}{T:TypeId}(h:Ae w r (.cells x T q))(hT:T≠9):Mm w (λz=>z=r):=λz A q e hb=>by
 have e:z=r:=e;subst e
 have:=h.uniq hb
 injection this with _ e _;exact hT e
theorem KN{w:vW}{r:Nat}{x:Array MapEntry}(h:Ae w r (.map x ck)):Mm w (λz=>z=r):=λz q A e hb=>by
 have e:z=r:=e;subst e
 have:=h.uniq hb
 cases this
theorem aS:(Hn M cs).1.all.length<=M.all.length+1:=by
 unfold Hn;split
 ·exact iD _
 ·split;{exact iD _};refine bH BG.length_le ?_;rw[bK];exact bO _
theorem v5{k:Int}(h:k ∉ es.map (·.1)):Cp es k=none:=by
 unfold Cp;rw[Option.map_eq_none_iff,List.find?_eq_none];intro x q;simp only[decide_eq_true_eq];exact λe=>h (bC.2 ⟨x,q,e.symm⟩)
theorem aY{k:Int}{v:vV}{n:Nat}:∀ {es:List (Ce Int)},k ∉ es.map (·.1)->Iv es k v n=es++[(k,v,n)]
 |[],_=>rfl
 |x::r,h=>by
  have q:¬ k=x.1:=λe=>h (by simp[e]);have A:k ∉ r.map (·.1):=λe=>h (by simp only[bP,bU];exact .inr e);unfold Iv;rw[if_neg q,aY A];rfl
theorem UX{W:vW}{D:Nat->Prop}{b:Nat}{cb:Nat}{bm:Nat}{n:Nat}(h:Fp w0 D W b M a c rm sb cb es ck bm room S n)(hall:∀ x∈es,Co M.all x.1=true):(M.next:Int) ∉ es.map (·.1):=λe=>by
 obtain⟨x,q,e⟩:=bC.1 e
 obtain⟨i,A⟩:=cW.1 (hall x q)
 obtain⟨v,H,hb⟩:=MY A
 have:=h.ok.less v (bD H)
 omega
theorem Fp.more{w W:vW}{D E:Nat->Prop}{b:Nat}{c6 cb:Nat}{bm:Nat}{n:Nat}(h:Fp w0 D w b M a c rm sb cb es ck bm room S n)(hall:∀ x∈es,Co M.all x.1=true)(cs:List Br)(t:vB)
  (hB:Ae W b (.cells (([((Hn M cs).1.win:Int),((Hn M cs).1.next:Int),.slice a6 (Hn M cs).1.all.length c6]:List vV)++(Sd M a c rm sb cb).drop 3).toArray 80))
  (hv:Dh E W (.slice a6 (Hn M cs).1.all.length c6) (Hn M cs).1.all) (hE:∀ z,E z->(w:Nat)<=z/\z<g1) (hg:g1<=(W:Nat)) (hg0:(w:Nat)<=g1)
  (hm:Ae W rm (.map (EB.arr (Rz es M t ck)) (ck+1))) (hs:Kq w0 sb bm room S1 W (n+1000)) (hS1:∀ x∈S1,x.2.1∈S.map (·.2.1)\/g1<=x.2.1):Fp w0 E W b (Hn M cs).1 a6 c6 rm sb cb (Rz es M t ck) (ck+1) bm room S1 (n+1000):=by
 obtain⟨l1,l2,l3,l4,Z⟩:=h.lt'
 have O:=UX h hall
 refine⟨⟨hB,hv,hm⟩,hs,λz H=>?_,h.rb,λe=>?_,λz H=>?_,k7 h.ok cs,?_,?_,λx q=>?_,λx q=>?_⟩
 ·have A:∀ z,z≠bm/\z≠sb/\z ∉ S.map (·.2.1)->z<g1->z≠bm/\z≠sb/\z ∉ S1.map (·.2.1):=λz X h2=>⟨X.1,X.2.1,λe=>by obtain⟨x,q,e⟩:=bC.1 e;rcases hS1 x q with h3|h3;{exact X.2.2 (by rw[<-e];exact h3)};omega⟩;rcases H with H|H|H;{exact A z (h.sep z (.inl H)) vO};{exact A z (h.sep z (.inr (.inl H))) vO};have:=hE z H;exact A z ⟨by omega,by omega,λe=>kL (Z z e)⟩ vO
 ·have:=hE b e;omega
 ·have:=hE z H;omega
 ·unfold Rz;rw[bW,dW];refine⟨h.st,by simp,λx q y K=>?_⟩;obtain⟨u,hu,rfl⟩:=bC.1 q;have:=h.lt u hu;(have K:y=ck:=by simpa using K);omega
 ·unfold Rz;rw[bW,dW];refine⟨h.kn,by simp,λx q y K=>?_⟩;(have K:y=(M.next:Int):=by simpa using K);rw[K];exact λe=>O (by rw[<-e];exact q)
 ·rcases bR.1 q with q|q;{have:=h.lt x q;omega};rw[bG.1 q];exact Nat.lt_succ_self ck
 ·rcases bR.1 q with q|q;{exact h.val x q};rw[bG.1 q];exact⟨t,rfl⟩
theorem aR(w0:vW)(D:Nat->Prop)(b:Nat)(M:Dm)(a:Option Addr)(c rm sb cb:Nat)(es:List (Ce Int))(ck bm:Nat)(room:Int)(S:vT)(n:Nat)(h:Fp w0 D w b M a c rm sb cb es ck bm room S n)(hn:n<=19000)(hl:M.all.length<=900)(d2:∀ x∈es,Co M.all x.1=true)(u:vV)(cs:List Br)(hu:Jj w u cs)(hnc:cs.length<=1000)(hsc:∀ c∈cs,c.key.size<=1000/\c.value.size<=1000)(N:Int->Prop)(R:vB->vT->Prop)(hT:∀ W,Ad (λz=>z=b) w W->Kq w0 sb bm room S W n->vQ 46 #[sb,ER es M,u] W (RM w0 W sb bm room S n N R)) :
  vQ 14 #[b,u] w (YF w0 w b M cs (λw'=>Fp w0 D w' b M a c rm sb cb es ck bm room S n) rm sb cb es ck bm room S n N R):=by
 have s8:∀ (fn:Fn) (first cap:Array vV) (w:vW),(Instr.makeFunc fn first cap).run prog w=.ok (.func fn first cap) w:=λ_ _ _ _=>rfl;have H:=J h;have HP:=J (kQ hn hl d2 hu hnc hsc hT)
 obtain⟨nl,k1⟩:=vE M.all.length
 have HN:=J k1
 obtain⟨X,hX⟩:=vE (Hn M cs)
 have HX:=J hX
 obtain⟨lv,k2,p2⟩:=h.ok.lastAt
 have p3:=J (bA k2 p2);have h5:=h.lt';have g0:=J h5;have r8:0<nl:=by rw[k1];have:=(bI.1 k2).1;omega
 obtain⟨kl,p4⟩:∃ kl,nl=kl+1:=⟨nl-1,by omega⟩
 have d9:IntKind.i64.wrap ((nl:Int)-1)=(kl:Int):=by rw[Qh vO vO];omega
 have d7:(kl:Int)<(nl:Int):=vO
 have d8:(nl:Int)-1=(kl:Int):=vO
 have p5:=J (kU p4 d9 d7 d8);clear h hn hl d2 hu hnc hsc hT k1 hX k2 p2 h5 r8 p4 d9 d7 d8;go_enter_defers func14,ntmps14;go_wp2_with fail
 have e8:=((Aa w).alloc (.cells #[b] 26)).alloc (.cells #[qa] 3);have j0:=(Ae.new w (.cells #[b] 26)).alloc (.cells #[qa] 3);have k3:Ae ((w.alloc (.cells #[b] 26)).alloc (.cells #[qa] 3)) ((w:Nat)+1) (.cells #[qa] 3):=by
  have:=Ae.new (w.alloc (.cells #[b] 26)) (.cells #[qa] 3)
  rwa [bJ]at this
 generalize (w.alloc (.cells #[b] 26)).alloc (.cells #[qa] 3)=w1 at e8 j0 k3 ⊢;refine vC (DC w1 D b M a c rm sb cb es ck (H.o.m.ext e8)) λw2 e7=>?_;have q0:w2.cell? b=some (.int .i64 (M.win:Int)):=((H.o.m.ext e8).ext e7).blk.z1 rfl;have q1:w2.cell? ⟨b,1,none⟩=some (.int .i64 (M.next:Int)):=((H.o.m.ext e8).ext e7).blk.z1 rfl;have q2:w2.cell? ⟨b,2,none⟩=some (.slice a nl c):=by rw[HN.o];exact ((H.o.m.ext e8).ext e7).blk.z1 rfl
 have qc:w2.cell? w=some (.pointer (some b)):=(j0.Z e7 λh=>h).cell (i:=0) rfl;have H2:=J (kT (e8.trans e7) (j0.Z e7 λh=>h) (k3.Z e7 λh=>h));clear e8 j0 k3 e7;go_wp2_with (first
  |(refine Di Cy rfl rfl ?_;intro O k4 p6)
  |(refine Bt (vs:=[(M.win:Int),(M.next:Int),.slice a nl c]) rfl rfl rfl rfl (k4.alloc _) rfl Aq zc ?_;intro W4 p7 k5
    have h6:=k4.lt;have j1:=(Ae.new O (.cells #[false] 4)).Z k5 (show ¬ (O:Nat)=↑w2 by omega);have d4:W4.cell? O=some (.bool false):=j1.cell (i:=0) rfl;have f4:W4.frozen? O=false:=j1.frozen))
 have p8:=H2.o.2.2.lt;have p9:=H.o.m.blk.lt;have k6:(w:Nat)+1 < ↑w2:=p8;have kW:Af w2 (W4.setCell O false):=((p6.alloc (.cells #[false] 4)).O k5 λx hx e=>by have e:x=(w2:Nat):=e;omega).O (Ad.z4 W4 O false) λx hx e=>by have e:x=(O:Nat):=e;omega
 have k7:=p7.z6 (p:=O) (by show (w2:Nat)≠↑O;omega) false;have k9:=j1.z2 (i:=0) false;have r9:(w2:Nat) < ↑O:=h6;generalize W4.setCell O false=W5 at kW k7 k9 ⊢;have H5:=J (kX (H2.o.1.trans kW) (H2.o.2.1.Z kW λh=>h) (H2.o.2.2.Z kW λh=>h) k7 k9);have HS:=J (kT p9 k6 r9);clear p8 kW k7 k9 k4 p6 p7 k5 h6 j1 d4 f4 H2 q0 q1 q2 qc;have p9:=HS.o.1;refine Na [0,1,2,3,4,5,6,7,8,9,10,11,12] [3,10,11] Af (Ad λz=>z=b\/z=(w:Nat)+1) Aa Ap (λx y z h k=>Ad.trans h k) (λx y h=>h.mono λ_ _ h=>h.elim) vY vY vY ?_;refine Fa w b rfl (λw1 h1=>De zf ((H5.o.2.1.drew.Z h1 vO).cell (i:=0) rfl)) ?_;refine vS ?_;refine Fa w2 _ rfl (λw1 h1=>JR w1 w2 0 [(M.win:Int),(M.next:Int),.slice a nl c] rfl λj v hv=>by rw[bX];exact ((H5.o.2.2.2.1.drew).Z h1 (by have:=HS.o.b;omega)).z1 hv) ?_;refine vS ?_
 refine vD ?_
 refine Hh _ rfl (λwb hb K hK=>?_);have kb:Af W5 wb:=(Ao _).trans hb;have j2:=x5 wb D M (.slice a M.all.length c) ((H.o.m.ver.ext H5.o.1).ext kb) H.o.ok HP.o.b u cs ((HP.o.2.2.2.1.Z H5.o.1 λ_ _ e=>e).Z kb λ_ _ e=>e) HP.o.e HP.o.i;rw[<-HX.o]at j2;unfold Il at j2;refine Ou (Fb (vs:=#[.agg #[(M.win:Int),(M.next:Int),.slice a nl c],u]) Lo vY) ?_;rw[HN.o];refine j2.mono ?_;rintro e w6 ⟨av,rfl,l0,l6⟩
 refine⟨_,rfl,hK _ _ (l0.mono λ_ _ h=>h.elim) ?_⟩
 obtain⟨a6,c6,s0⟩:=l6.sl
 subst s0;have e9:=J (kT kb l0 l6);clear hK K hb kb l0 l6 j2;refine vS ?_;iterate 4 refine vD ?_
 refine Lx _ b rfl zh ?_;refine vS ?_
 refine vD ?_
 refine Hh _ rfl (λwc hc K hK=>?_);have kc:Af w wc:=H5.o.1.trans (e9.o.1.trans (e9.o.2.1.trans hc));have g5:Af W5 wc:=e9.o.1.trans (e9.o.2.1.trans hc);have q3:=e9.o.2.2.ext hc;refine PJ (old:=Sd M a c rm sb cb) (vs:=[(X.1.win:Int),(X.1.next:Int),.slice a6 X.1.all.length c6]) rfl rfl rfl (H.o.m.blk.Z kc λh=>h) (by show 3<=6;decide) Aq zc (λW7 g6 c7=>hK _ _ (c7.mono λz _ e=>.inl e) ?_);have H7:=J (kR kc g5 g6 c7 q3 e9.o.1.size (bH e9.o.2.1.size hc.size) hc.size);clear hK K hc kc g5 g6 c7 q3;refine vS ?_;refine Hh _ rfl (λwd hd K hK=>?_);have k6:=HS.o.b;have j3:=((H5.o.2.2.1.Z H7.o.b λh=>h).Z H7.o.d (show ¬ (w:Nat)+1=b by omega)).Z hd (λh=>h);have q7:=j3.cell (i:=0) (v:=.int .i64 0) rfl;have f7:wd.frozen? ((w:Nat)+1:)=false:=j3.frozen;have H8:=J (bA hd j3);clear hd j3;go_simp;refine hK _ _ (Ad.setCell (Ad.refl _ _) (.inl (.inr rfl)) _) ?_;clear hK K q7 f7;have q4:=H8.o.2.z2 (i:=0) (X.2.1:Int);have k8:=Ad.z4 wd ((w:Nat)+1:) (X.2.1:Int);generalize wd.setCell ((w:Nat)+1:) (X.2.1:Int)=w8 at q4 k8 ⊢
 refine vD ?_
 refine Mt (λw9 h9=>?_);have c5:Ae w9 ((w:Nat)+1) (.cells #[(X.2.1:Int)] 3):=q4.Z h9 (λh=>h);have q9:w9.cell? ((w:Nat)+1:)=some (.int .i64 (X.2.1:Int)):=c5.cell (i:=0) rfl;have f9:w9.frozen? ((w:Nat)+1:)=false:=c5.frozen
 obtain⟨k8,h9,c5⟩:=kT k8 h9 c5
 obtain⟨kc,g5,g6,c7,q5,f3,h7,h8⟩:=H7.o
 obtain⟨s9,k6,t0⟩:=HS.o
 have g2:Ad (λz=>z=(w:Nat)+1) _ w9:=(((H8.o.1.mono (G:=λz=>z=(w:Nat)+1) λ_ _ e=>e.elim).trans k8).trans (h9.mono λ_ _ e=>e.elim));have g7:Ad (λz=>z=b\/z=(w:Nat)+1) W5 w9:=((g5.mono (G:=λz=>z=b\/z=(w:Nat)+1) λ_ _ e=>e.elim).trans (c7.mono λz _ e=>.inl e)).trans (g2.mono λz _ e=>.inr e);have q6:=g6.Z g2 (show ¬ b=(w:Nat)+1 by omega);have g8:Ad (λz=>z=b) w w9:=(H5.o.1.mono (G:=λz=>z=b) λ_ _ e=>e.elim).O g7 (λz hz e=>e.elim id λe=>by omega);have j4:=(q5.Z c7 λz hz e=>by have h:=hz.1;have h2:=H5.o.2.2.2.2.lt;have e:z=b:=e;omega).Z g2 (λz hz e=>by have h:=hz.1;have h2:=H5.o.2.2.2.2.lt;have e:z=(w:Nat)+1:=e;omega);have g9:=H5.o.2.2.2.2.Z g7 vO;have l7:=H5.o.2.1.Z g7 vO;have l8:Ae w9 w2 (.cells (MC M (.slice a M.all.length c)).toArray 72):=by
  have:=H5.o.2.2.2.1.Z g7 vO
  rw[HN.o]at this;exact this
 have l9:(O:Nat) < ↑W5:=H5.o.2.2.2.2.lt;have m0:(wb:Nat)<=↑w9:=bH h7 (bH c7.size g2.size);have m1:(w6:Nat)<=↑w9:=bH h8 (bH c7.size g2.size);have H9:=J (kM g8 q6 c5 j4 g9 l7 l8 l9 f3 m0 m1);have q8:=J (λ(W:vW) (v0:vV) (kW:Ad (λz=>z=b\/z=(w:Nat)+1) w9 W) (hBW:Ae W b _) (f0:Ae W ((w:Nat)+1) (.cells #[v0] 3))=>Q1 W w0 D b M a c rm sb cb es ck bm room S n (by have:=HP.o.1;omega) (by have:=HP.o.b;omega) .returning O w2 w ((w:Nat)+1) (X.1.win:Int) (X.1.next:Int) (.slice a6 X.1.all.length c6) v0
  ((g9.Z kW vO).cell (i:=0) rfl) ((l7.Z kW vO).cell (i:=0) rfl) (l8.Z kW vO) f0 ⟨by omega,by omega,by omega⟩ hBW (λW' s1 n8=>H.o.back (((g8.O kW λz hz e=>e.elim id λe=>by omega)).O s1 λz hz e=>e.elim id λe=>by omega) n8) HP.o.c)
 clear k8 h9 c5 kc g5 g6 c7 q5 f3 h7 h8 g2 g7 q6 g8 j4 g9 l7 l8 l9 m0 m1
 obtain⟨er,m2⟩:=vE X.2.2
 have j5:=J m2;rw[<-m2];clear m2
 by_cases he:er=0
 case neg =>
  have e1:(er != 0)=true:=by simpa using he
  have HE:=J he;clear he;go_wp2_with fail
  have i0:=H9.o.2.2.1.z2 (i:=0) (X.2.1:Int);have m3:=Ad.z4 w9 ((w:Nat)+1:) (X.2.1:Int);generalize w9.setCell ((w:Nat)+1:) (X.2.1:Int)=m4 at i0 m3 ⊢;have i1:Ad (λz=>z=b\/z=(w:Nat)+1) w9 m4:=m3.mono λz _ e=>.inr e;have a7:=q8.o m4 _ i1 (H9.o.2.1.Z m3 (show ¬ b=(w:Nat)+1 by omega)) i0;refine leaves_cons (f:=44) (args:=#[O,w2,w,((w:Nat)+1:)]) (by simp) (by simp[go_sem]) ?_;refine a7.mono ?_;rintro e u' b1 ⟨rfl,rfl,hI,hK,f0⟩;have h0:(loadVar 3 ((w:Nat)+1:)).run prog b1=.ok qa b1:=by
   have:=Bv Fl rfl (f0.cell (i:=0) (v:=.int .i64 0) rfl)
   simpa [Instr.loadAt,Instr.sureAddr,bS,Result.andThen]using this
  refine⟨_,EH rfl rfl rfl h0,.inl ⟨er,HE.o,.inl (by rw[j5.o,HX.o]),rfl,hI,?_⟩⟩
  exact (H9.o.1.O i1 λz hz e=>e.elim id λe=>by omega).O hK λz hz e=>e.elim id λe=>by omega
 case pos =>
  have e1:(er != 0)=false:=by rw[he];rfl
  subst he;have r0:=H.o.m.ver.Z H9.o.1 (λz hz e=>H.o.db (by have e:z=b:=e;rw[<-e];exact hz))
  obtain⟨b',o',a1,c1,a2,c2,e0,p0,_⟩:=r0.at' p3.o.1
  cases e0;have s2:w9.cell? ⟨b',o'+kl*4,none⟩=some (.int .i64 (lv.block:Int)):=by
   have h:=p5.o.1;have h2:=HN.o;rw[show M.all.length-1=kl by omega]at p0;exact p0
  have qw:w9.cell? ⟨↑w2,2,none⟩=some (.slice (some ⟨b',o',none⟩) nl c):=by rw[HN.o];exact H9.o.2.2.2.2.2.2.1.z1 rfl
  obtain⟨-,d9,d7,d8⟩:=p5.o
  have d5:nl<=900:=by have h:=HP.o.b;have h2:=HN.o;omega
  have d6:Go.RowKit.wrap64 (kl:Int)=(kl:Int):=by unfold Go.RowKit.wrap64;omega
  clear r0 p0;go_wp2_with fail
  have r1:Nu M=lv:=Fh.newV p3.o.1;have j6:=v4 (M:=M) H.o.val;rw[r1]at j6
  obtain⟨rt,m5⟩:=vE (ER es M)
  rw[<-m5]at j6;have h4:=J (kT m5 j6 (H.o.m.map.Z H9.o.1 H.o.rb))
  obtain⟨l1,l2,l3,l4,l5⟩:=g0.o
  have n1:¬((w:Nat)=bm\/↑w∈S.map (·.2.1)):=λe=>e.elim (λe=>by omega) λe=>by have:=l5 _ e;omega
  have n2:¬(b=bm\/b∈S.map (·.2.1)):=λe=>e.elim (H.o.sep b (.inl rfl)).1 (H.o.sep b (.inl rfl)).2.2;have n3:¬(rm=bm\/rm∈S.map (·.2.1)):=λe=>e.elim (H.o.sep rm (.inr (.inl rfl))).1 (H.o.sep rm (.inr (.inl rfl))).2.2;have c8:=J (kT n1 n2 n3);clear m5 j6 r1 s2 qw d9 d7 d8 d5 d6 l1 l2 l3 l4 l5 n1 n2 n3;refine Na [0,1,2,3,4,5,6,7,8,9,10,11,12,13,14,15,16] [11] Af (Ad λz=>z=bm\/z∈S.map (·.2.1)) Aa Ap (λx y z h k=>Ad.trans h k) (λx y h=>h.mono λ_ _ h=>h.elim) vY vY vY ?_;refine Fa w b rfl (λw1 h1=>De zf ((H9.o.2.2.2.2.2.1.drew.Z h1 c8.o.1).cell (i:=0) rfl)) ?_;refine vS ?_;refine Lx _ b rfl zh ?_;refine vS ?_
  refine vD ?_
  refine Fa ⟨b,4,none⟩ sb rfl (λw1 h1=>De zf ((H9.o.2.1.drew.Z h1 c8.o.b).z1 rfl)) ?_;refine vS ?_;refine Fa w b rfl (λw1 h1=>De zf ((H9.o.2.2.2.2.2.1.drew.Z h1 c8.o.1).cell (i:=0) rfl)) ?_;refine vS ?_;refine Lx _ b rfl zh ?_;refine vS ?_
  refine vD ?_
  refine Fa ⟨b,3,none⟩ (.map (some rm)) rfl (λw1 h1=>De zf ((H9.o.2.1.drew.Z h1 c8.o.b).z1 rfl)) ?_;refine vS ?_
  refine vD ?_
  refine Lx _ rt rfl (λw3 h3=>by
   refine (SL false (h4.o.2.2.drew.Z h3 c8.o.C) rfl rfl).trans ?_;rw[h4.o.b];rfl) ?_
  refine vS ?_
  refine vD ?_
  refine Hh _ rfl (λf1 c5 K hK=>?_);have f2:Af w9 f1:=(Ao _).trans c5;have j7:Ad (λz=>z=b) w f1:=H9.o.1.trans (f2.mono λ_ _ e=>e.elim);have b5:=H.o.sep b (.inl rfl);have m6:Kq w0 sb bm room S f1 n:=H.o.s.Z j7 (λe=>b5.2.1 e.symm) (λe=>b5.1 e.symm) (λx hx e=>b5.2.2 (bC.2 ⟨x,hx,e⟩)) (λz t1 fz e s3=>by
   have e:z=b:=e;subst e
   have:=H.o.m.blk.uniq s3
   injection this with _ e _;exact absurd e vI)
  have j8:=HP.o.2.2.2.2.2.2 f1 j7 m6;rw[<-h4.o.1]at j8;refine Ou (Fb Lp vY) (j8.mono ?_);rintro e m4 (⟨k,hk,r2,rfl,f5⟩|⟨t,S1,j9,rfl,d3,b6,a8⟩)
  case inl =>
   refine⟨_,rfl,hK _ _ (f5.mono λ_ _ e=>e.elim) ?_⟩
   have c9:=J (kT (f2.trans f5) hk r2);have e2:(k != 0)=true:=by simpa using hk
   clear hK K c5 f2 j7 b5 m6 j8 f5 hk r2 e1;refine vS ?_;iterate 5 refine vD ?_
   refine Mt (λb1 b2=>?_);have f6:=c9.o.1.trans b2;have Z:=H9.o.2.2.1.Z f6 (λh=>h);have t2:=Z.cell (i:=0) (v:=.int .i64 (X.2.1:Int)) rfl;have t3:b1.frozen? ((w:Nat)+1:)=false:=Z.frozen;have d0:=J (bA f6 Z);clear b2 f6 Z;go_wp2_with fail
   have i2:=d0.o.2.z2 (i:=0) (X.2.1:Int);have m7:=Ad.z4 b1 ((w:Nat)+1:) (X.2.1:Int);generalize b1.setCell ((w:Nat)+1:) (X.2.1:Int)=w12 at i2 m7 ⊢;have i3:Ad (λz=>z=b\/z=(w:Nat)+1) w9 w12:=(d0.o.1.mono λ_ _ e=>e.elim).trans (m7.mono λz _ e=>.inr e);have a7:=q8.o w12 _ i3 ((H9.o.2.1.Z d0.o.1 λh=>h).Z m7 (show ¬ b=(w:Nat)+1 by omega)) i2;refine leaves_cons (f:=44) (args:=#[O,w2,w,((w:Nat)+1:)]) (by simp) (by simp[go_sem]) ?_;refine a7.mono ?_;rintro e u' b3 ⟨rfl,rfl,hI,hK,f0⟩;have h0:(loadVar 3 ((w:Nat)+1:)).run prog b3=.ok qa b3:=by
    have:=Bv Fl rfl (f0.cell (i:=0) (v:=.int .i64 0) rfl)
    simpa [Instr.loadAt,Instr.sureAddr,bS,Result.andThen]using this
   refine⟨_,EH rfl rfl rfl h0,.inl ⟨k,c9.o.b,.inr ⟨by rw[<-HX.o, <-j5.o],c9.o.C⟩,rfl,hI,?_⟩⟩
   exact (H9.o.1.O i3 λz hz e=>e.elim id λe=>by omega).O hK λz hz e=>e.elim id λe=>by omega
  case inr =>
   refine⟨_,rfl,hK _ _ b6 ?_⟩
   have k0:X.2.1=M.next:=by rw[HX.o];exact t9 (by rw[<-HX.o, <-j5.o])
   have m8:=UX H.o HP.o.c;have c9:=J (kQ f2 j9 d3 b6 a8 k0 m8);rw[k0]at H9;clear hK K c5 f2 j7 b5 m6 j8 b6 a8 j9 d3 e1 k0 m8;refine vS ?_;iterate 5 refine vD ?_
   refine Mt (λb1 b2=>?_);have A:Ad (λz=>z=bm\/z∈S.map (·.2.1)) w9 b1:=((c9.o.1.mono λ_ _ e=>e.elim).trans c9.o.d).trans (b2.mono λ_ _ e=>e.elim);have m9:=g0.o;have n4:¬((w:Nat)+1=bm\/(w:Nat)+1∈S.map (·.2.1)):=λe=>e.elim (λe=>by omega) λe=>by have:=m9.2.2.2.2 _ e;omega
   have n5:¬((O:Nat)=bm\/↑O∈S.map (·.2.1)):=λe=>e.elim (λe=>by omega) λe=>by have:=m9.2.2.2.2 _ e;omega
   have Z:=H9.o.2.2.1.Z A n4;have e3:=h4.o.2.2.Z A c8.o.C;have b7:=H9.o.2.1.Z A c8.o.b;have b8:=H9.o.2.2.2.2.2.1.Z A c8.o.1;have b9:=H9.o.2.2.2.2.1.Z A n5;have d0:=J (kQ A Z e3 b7 b8 b9 b2);clear A Z e3 b7 b8 b9 b2 m9 n4 n5;go_wp2_with fail
   refine Na [0,1,2,3,4,5,6] [6] Af (Ad λz=>z=rm) Aa Ap (λx y z h k=>Ad.trans h k) (λx y h=>h.mono λ_ _ h=>h.elim) vY vY vY ?_;refine Fa w b rfl (λw1 h1=>De zf ((d0.o.2.2.2.2.1.drew.Z h1 (by have:=g0.o.b;omega)).cell (i:=0) rfl)) ?_;refine vS ?_;refine Lx _ b rfl zh ?_;refine vS ?_
   refine vD ?_
   refine Fa ⟨b,3,none⟩ (.map (some rm)) rfl (λw1 h1=>De zf ((d0.o.2.2.2.1.drew.Z h1 λe=>H.o.rb e.symm).z1 rfl)) ?_;refine vS ?_;refine Fa ((w:Nat)+1:) (M.next:Int) rfl (λw1 h1=>De zf ((d0.o.2.1.drew.Z h1 (by have:=g0.o.b;omega)).cell (i:=0) rfl)) ?_;refine vS ?_
   refine vD ?_
   refine Hh _ rfl (λwe he K hK=>?_);have g3:Af b1 we:=(Ao _).trans he;have g4:=d0.o.2.2.1.Z g3 (λh=>h)
   obtain⟨r3,a9⟩:=vE (we.putObj rm (.map (EB.arr (Rz es M t ck)) (ck+1)))
   have s4:(Instr.mapUpdate 74 (.map (some rm)) (M.next:Int) t).run prog we=.ok () r3:=by
    have:=Yq EB Ft g4 (M.next:Int) t
    rw[aY c9.o.2.2.2.2.2.2,v5 c9.o.2.2.2.2.2.2]at this;rw[a9];exact this
   have s5:=J (kT g3 g4 a9);have n0:Ad (λz=>z=rm) we r3:=by rw[a9];exact Ad.z7 _ _ _
   clear g3 g4 a9;go_simp;refine hK _ _ n0 ?_;clear hK K he;refine Mt (λb3 n6=>?_)
   obtain⟨g3,g4,a9⟩:=s5.o
   have q:Ad (λz=>z=rm) b1 b3:=((g3.mono λ_ _ e=>e.elim).trans n0).trans (n6.mono λ_ _ e=>e.elim);have e4:Ae b3 rm (.map (EB.arr (Rz es M t ck)) (ck+1)):=by
    refine Ae.Z ?_ n6 (λh=>h);rw[a9];exact g4.put_same _
   obtain⟨A,Z,e3,b7,b8,b9,b2⟩:=d0.o
   have hl:=g0.o.b;have i4:=Z.Z q vO;have i5:=b8.Z q vO;have b0:=b9.Z q vO;have e5:=b7.Z q (λe=>H.o.rb e.symm);have t4:b3.cell? O=some (.bool false):=b0.cell (i:=0) rfl;have t5:b3.frozen? O=false:=b0.frozen;have b4:=Ad.z4 b3 O true;have a0:=i4.Z b4 (show ¬ (w:Nat)+1=↑O by omega);have c0:=b0.z2 (i:=0) true;have c3:=i5.Z b4 (show ¬ (w:Nat)=↑O by omega)
   obtain⟨r4,c4⟩:=vE (b3.setCell O true)
   rw[<-c4]at b4 a0 c0 c3;have t6:(b3.setCell O true).cell? ((w:Nat)+1:)=some (.int .i64 (M.next:Int)):=by rw[<-c4];exact a0.cell (i:=0) rfl
   have t7:(b3.setCell O true).frozen? ((w:Nat)+1:)=false:=by rw[<-c4];exact a0.frozen
   have r5:=J (kP A q e4 e5 b4 a0 c0 c3 b2 c4);clear n6 n0 g3 g4 a9 A Z e3 b7 b8 b9 b2 hl i4 i5 b0 e5 e4 b4 a0 c0 c3 c4 q s4;go_wp2_with fail
   rw[<-r5.o.2.2.2.2.2.2.2.2.2]
   obtain⟨A,q,e4,e5,b4,a0,c0,c3,b2,_⟩:=r5.o
   obtain⟨f2,j9,d3,b6,a8,k0,m8⟩:=c9.o
   obtain⟨g8,_,_,j4,g9,_,_,l9,f3,m0,m1⟩:=H9.o
   obtain⟨l1,l2,l3,l4,l5⟩:=g0.o
   have d1:=Ad.z4 r4 ((w:Nat)+1:) (M.next:Int);have i6:=a0.z2 (i:=0) (M.next:Int);have i7:=c0.Z d1 (show ¬ (O:Nat)=↑w+1 by omega);have i8:=c3.Z d1 (show ¬ (w:Nat)=↑w+1 by omega);generalize r4.setCell ((w:Nat)+1:) (M.next:Int)=w15 at d1 i6 i7 i8 ⊢;have t8:=f2.size;have f8:∀ z,z ∉ S.map (·.2.1)->z<(f1:Nat)->z ∉ S1.map (·.2.1):=λz h1 h2 e=>by
    obtain⟨x,hx,e⟩:=bC.1 e
    rcases a8 x hx with h3|h3
    ·exact h1 (by rw[<-e];exact h3)
    ·omega
   have e6:∀ z,(w:Nat)<=z->z ∉ S.map (·.2.1):=λz h e=>by have:=l5 z e;omega
   have o1:=f8 rm (H.o.sep rm (.inr (.inl rfl))).2.2 vO;have o2:=f8 O (e6 _ vO) vO;have o3:=f8 ((w:Nat)+1) (e6 _ vO) vO;have r6:=H.o.sep rm (.inr (.inl rfl));have n9:=(d3.ext b2).Z q (λe=>r6.2.1 e.symm) (λe=>r6.1 e.symm) (λx hx e=>o1 (bC.2 ⟨x,hx,e⟩)) (KN (h4.o.2.2.Z A c8.o.C));have b0:=(g9.Z A (show ¬((O:Nat)=bm\/↑O∈S.map (·.2.1))from λe=>e.elim (λe=>by omega) (e6 _ vO))).Z q (show ¬ (O:Nat)=rm by omega);have o0:=n9.Z b4 (show ¬ sb=(O:Nat) by omega) (show ¬ bm=(O:Nat) by omega) (λx hx e=>o2 (bC.2 ⟨x,hx,e⟩)) (KX b0 vI);have o4:=o0.Z d1 (show ¬ sb=(w:Nat)+1 by omega) (show ¬ bm=(w:Nat)+1 by omega) (λx hx e=>o3 (bC.2 ⟨x,hx,e⟩)) (KX a0 vI);have o5:=(((j4.Z A λz hz e=>e.elim (λe=>by have:=hz.1;omega) (e6 z (by have:=hz.1;omega))).Z q λz hz e=>by have:=hz.1;have e:z=rm:=e;omega).Z b4 λz hz e=>by have:=hz.1;have e:z=(O:Nat):=e;omega).Z d1 (λz hz e=>by have:=hz.1;have e:z=(w:Nat)+1:=e;omega);have o6:=(e5.Z b4 (show ¬ b=(O:Nat) by omega)).Z d1 (show ¬ b=(w:Nat)+1 by omega);have o7:=(e4.Z b4 (show ¬ rm=(O:Nat) by omega)).Z d1 (show ¬ rm=(w:Nat)+1 by omega);have o8:(f1:Nat)<=↑w15:=bH b6.size (bH b2.size (bH q.size (bH b4.size d1.size)));have o9:=H.o.more HP.o.c cs t (a6:=a6) (c6:=c6) (E:=Fs wb w6) (W:=w15) (g1:=(f1:Nat)) (S1:=S1) (by rw[<-HX.o];exact o6) (by rw[<-HX.o];exact o5) (λz hz=>by have h1:=hz.1;have h2:=hz.2;omega) o8 vO o7 o4 a8;have a7:=A4 w15 w0 _ b (Hn M cs).1 a6 c6 rm sb cb (Rz es M t ck) (ck+1) bm room S1 (n+1000) o9 (by have:=HP.o.1;omega) (by have:=aS (M:=M) (cs:=cs);have:=HP.o.b;omega) .returning O w2 w ((w:Nat)+1) (i7.cell (i:=0) rfl) (i8.cell (i:=0) rfl);refine leaves_cons (f:=44) (args:=#[O,w2,w,((w:Nat)+1:)]) (by simp) (by simp[go_sem]) ?_;refine a7.mono ?_;rintro e u' n7 ⟨rfl,rfl,S',s6,r7,i9,d2⟩;have f0:=i6.Z r7 (show ¬((w:Nat)+1=rm\/(w:Nat)+1=bm\/(w:Nat)+1∈S1.map (·.2.1))from λe=>e.elim (λe=>by omega) λe=>e.elim (λe=>by omega) o3);have h0:(loadVar 3 ((w:Nat)+1:)).run prog n7=.ok (M.next:Int) n7:=by
    have:=Bv Fl rfl (f0.cell (i:=0) (v:=.int .i64 (M.next:Int)) rfl)
    simpa [Instr.loadAt,Instr.sureAddr,bS,Result.andThen]using this
   have s7:(Hn M cs).2.2=0:=by rw[<-HX.o];exact j5.o.symm
   have p1:Ad (Sb b rm bm S) w n7:=by
    have a1:Ad (Sb b rm bm S) w w9:=g8.mono λz _ e=>.inl e;have a2:Ad (Sb b rm bm S) w9 b1:=A.mono λz _ e=>.inr (.inr e);have a3:Ad (Sb b rm bm S) b1 b3:=q.mono λz _ e=>.inr (.inl e);have a4:=((a1.trans a2).trans a3).O b4 λz hz e=>by have e:z=(O:Nat):=e;omega
    have a5:=a4.O d1 λz hz e=>by have e:z=(w:Nat)+1:=e;omega
    refine a5.O r7 λz hz e=>?_;rcases e with e|e|e
    ·exact .inr (.inl e)
    ·exact .inr (.inr (.inl e))
    ·obtain⟨x,hx,e⟩:=bC.1 e
     rcases a8 x hx with h3|h3
     ·exact .inr (.inr (.inr (by rw[<-e];exact h3)))
     ·omega
   refine⟨_,EH rfl rfl rfl h0,.inr ⟨s7,t,S1,S',_,a6,c6,j9,rfl,s6,p1,λx hx=>?_,λh=>(d2 h).1,λz hz=>by have h1:=hz.1;omega,i9⟩⟩
   obtain⟨z,hz,e⟩:=i9.sub x hx
   rw[e];exact (a8 z hz).imp id λh=>by omega
end
section
open Go Go.RowKit
attribute [local go_sem] Oper.semAt_some
theorem Up.bad{w:vW}(h:Ez l cs=x)(h0:x≠0)(he:Af w w'):Up w S l cs (.returned (.tuple #[qe,.int .i64 x])) w':=by
 unfold Up;rw[h,if_neg h0];exact⟨rfl,he⟩
theorem c_(hc:Ha w)(he:Gh w)(s bm:Nat)(room:Int)(S:vT)(hs:Ev w s bm room S)(hN:AH S)(l:vL)(h:Iy S l)(u:vV)(cs:List Br)(hu:Jj w u cs)(hnc:cs.length<=9223372036854775807)(hsc:∀ c∈cs,c.key.size<=9223372036854775807/\c.value.size<=9223372036854775807):vQ 95 #[s,Bi l,u] w (Up w S l cs):=by
 have HR:=J (U5 w s bm room S hs hN l h);have HK:=J h.ok;have g7:=J (bA hc he);have l4:=J hs;have c9:=Ge h.ok;have g8:=J (show (l.length<=9223372036854775807)/\∀ p∈l,p.1.size<=9223372036854775807/\p.2.size<=9223372036854775807 from⟨kL c9.len,λp hp=>kL (c9.size p hp)⟩);have f6:=J (λ(w2:vW) (v:vV) (hv:Jv w2 v l) (e:Af w w2)=>WF w2 v u l cs hv (hu.ext e) g8.o.1 hnc g8.o.2 hsc)
 obtain⟨a,c,m8⟩:=hu.sl
 subst m8
 obtain⟨P,hP⟩:=vE (Dj 13 (Cq l))
 have HP:=J hP;have o8:=KG P;have g9:=J (λ(w3:vW) (v:vV) (hv:Jv w3 v l) (e:Af w w3)=>rO w3 v l (hc.ext e) hv h.ok);have l5:Hid (Aj (Cr l).text=Bi l):=rfl;rw[l5.o]at g9;clear hs hN h hP hc he c9 hu hsc l5
 obtain⟨rt,l6⟩:=vE (Bi l)
 rw[<-l6]at HR g9 ⊢;clear l6;unfold vQ;go_in;go_wp2_with fail
 refine HR.o.mono ?_;rintro e w1 ⟨T,x,rfl,hM⟩;have HM:=J hM;have d0:=hM.pa.at'.meth;rw[<-HP.o]at d0;have m9:∀ w,(Go.method (522+1) T x "guilloche/trie.entries").run prog w=.ok (Vy P,x) w:=d0.ent;have HC:=J (wK w1 w1 l HK.o T x _ hM.pa (Aa w1));rw[<-HP.o]at HC;clear hM d0;go_wp2_with fail
 refine HC.o.mono ?_;rintro e w2 ⟨v,rfl,h1⟩;have H1:=J h1;have i6:=J (HM.o.ext.trans h1.ext);have d8:=J (bA (HM.o.pa.ext h1.ext) h1.ext.size);rw[<-HP.o]at d8;have HA:=J (f6.o w2 v h1.rd i6.o)
 obtain⟨a1,c1,hv⟩:=h1.sl
 subst hv;clear h1 m9 f6 HC;go_wp2_with fail
 refine HA.o.mono ?_;rintro e w3 e5;unfold Xa at e5
 by_cases h0:Ez l cs=0
 case neg =>rw[if_neg h0]at e5;obtain⟨rfl,hE⟩:=e5;have HX:=J (i6.o.trans hE);obtain⟨x0,i7⟩:=vE (Ez l cs);(have n0:=J i7.symm;rw[<-i7]at h0 ⊢;clear hE i7;go_wp2);go_ret2;exact Up.bad n0.o h0 HX.o
 rw[if_pos h0]at e5
 obtain⟨r,rfl,h3⟩:=e5
 have n1:=J h0;have h4:=Zo h0
 obtain⟨m,hm⟩:=vE (Jc (Pf l cs))
 rw[<-hm]at h3 h4;have n2:=J hm;have c0:=J h4;have c9:=Ge h4;have f7:=J (show (m.length<=9223372036854775807)/\∀ p∈m,p.1.size<=9223372036854775807/\p.2.size<=9223372036854775807 from⟨kL c9.len,λp hp=>kL (c9.size p hp)⟩);have l7:=J (i6.o.trans h3.ext);have f8:=J (bA (d8.o.1.ext h3.ext) (bH d8.o.2 h3.ext.size));have HV:=J (bA (Fg.rd (H1.o.mono h3.ext)) h3.rd)
 obtain⟨a2,c2,hr⟩:=h3.sl
 subst hr;have l8:=J (g9.o w3 _ HV.o.1 l7.o);clear h3 c9 h4 hm h0 HA H1 g9;go_wp2_with fail
 refine l8.o.mono ?_;rintro e w4 ⟨rfl,hE⟩;have n3:=J (l7.o.trans hE);have d9:=J (bA (f8.o.1.ext hE) (bH f8.o.2 hE.size));have l9:=J (sQ w4 _ _ l m (HV.o.1.ext hE) (HV.o.2.ext hE) g8.o.1 f7.o.1 g8.o.2 f7.o.2);clear hE l8;go_wp2_with fail
 refine l9.o.mono ?_;rintro e w5 ⟨dv,rfl,hd⟩;have HD:=J hd;have n4:=J (n3.o.trans hd.ext);have k7:=J (bA (d9.o.1.ext hd.ext) (bH d9.o.2 hd.ext.size));have i8:=aV HK.o c0.o;have n5:=q0 (Ge HK.o).len (Ge c0.o).len
 obtain⟨ds,i9⟩:=vE (Ph l m)
 rw[<-i9]at HD i8 n5;have j0:=J i8
 obtain⟨a3,c3,m0⟩:=hd.sl
 rw[<-i9]at m0;subst m0;clear hd i8 i9 l9;have f9:=J (uQ HK.o);rw[<-HP.o]at f9;have k8:=J HD.o.rdT;go_wp2
 go_loopw [8,56] (λpv iv wr=>Z7 w5 (DK w w1) P ds pv iv wr) (λ_ iv _=>ds.length-(intOf iv).toNat)
 case atStart=>exact⟨0,T,x,DK w w1,by omega,rfl,rfl,k7.o.1,λz hz=>.inl hz,(Aa w5).mono kZ⟩
 case round =>obtain⟨k,Tk,xk,D,hk,rfl,rfl,d1,hD,d2⟩:=hrel;by_cases hlt:k<ds.length;{rcases k8.o with⟨_,_,_,hz⟩|⟨b,o,cd,hh,hb,hcd,hcell⟩;{rw[hz]at hlt;cases hlt};cases hh;obtain⟨p,hp⟩:∃ p,ds[k]?=some p:=⟨_,bB hlt⟩;obtain⟨q1,q2,q3⟩:=hcell k p hp;(have h7:¬ DK w w1 b:=λe=>by have h1:=HD.o.new b rfl;have h2:=d9.o.2;have h3:=e.2;omega);(have q1:=Ed q1 d2 h7;have q2:=Ed q2 d2 h7;have q3:=Ed q3 d2 h7;have X:p.bad=false:=by cases e:p.bad with| false=>rfl| true=>exact absurd (sI hp e) (by rw[j0.o.fine];simp));have j1:=mX X;have b1:(k:Int)<(ds.length:Int):=vO;(have b5:=G1 f9.o ds j0.o.fine k;have b2:(ds.take (k+1)).foldl Ow P=Ow ((ds.take k).foldl Ow P) p:=by rw[WM hp,fE];rfl);obtain⟨Q,hQ⟩:=vE ((ds.take k).foldl Ow P);rw[<-hQ]at d1 b5 b2;have e4:=J (bA b5 (b5.step X));have c8:=J b2;have d0:=d1.at'.meth;have O:=J (kT d1 hD d2);obtain⟨ky,vl,gn⟩:=p;(simp only at q1 q2 q3 j1;clear hcell hp hb hcd h7 X b5 b2 d1 hD d2 hQ;have o9:=NL Q;have p0:=UB Q;have p1:∀ w,(Go.method (522+1) Tk xk "guilloche/trie.drop").run prog w=.ok (Zb Q,xk) w:=d0.drop;have p2:∀ w,(Go.method (522+1) Tk xk "guilloche/trie.put").run prog w=.ok (CE Q,xk) w:=d0.put;clear d0;go_wp2_with fail);have p3:=J j1;clear q1 q2 q3;refine vC (Zc _ ky vO) λw6 d3=>?_;have j2:=(Ae.new wr (.cells #[ky,vl,gn] 46)).Z d3 kI;have g0:=((Aa wr).alloc (.cells #[ky,vl,gn] 46)).trans d3;have q1:w6.cell? ⟨↑wr,1,none⟩=some (.string vl):=j2.cell (i:=1) vF;have q2:w6.cell? ⟨↑wr,2,none⟩=some (.bool gn):=j2.cell (i:=2) vF;have c4:=J g0;have m1:(Bw ky).size<=900000:=kL (GB ky);have m2:=J m1;clear d3 j2 g0 j1 m1;cases gn with| true =>have Z:=J (OQ Q e4.o.1.va w6 Tk xk D (Bw ky) (O.o.1.ext c4.o) m2.o (BO ky) e4.o.1.dp9);obtain⟨pb,X⟩:=vE (Bw ky);(have e8:=J X;rw[<-X]at Z ⊢;clear X;go_wp2_with fail);(refine Z.o.mono ?_;rintro e K ⟨v7,rfl,d4,d5⟩;have a5:(ds.take (k+1)).foldl Ow P=Ht Q pb:=by rw[c8.o,e8.o];rfl);have d6:=e4.o.2.there;rw[show Ow Q ⟨ky,vl,true⟩=Ht Q pb by rw[e8.o];rfl]at d6;obtain⟨T7,x7,rfl⟩:=d4.form d6;(have HF:=J (show Hq ((ds.take (k+1)).foldl Ow P) (.iface T7 x7) (Du D w6 K) K from by rw[a5];exact Bk.own d4 d5 (O.o.1.ext c4.o).lt);have j3:=J d5;clear d4 d5 a5 d6;go_wp2);go_roundw;(case rel=>exact⟨k+1,T7,x7,_,by omega,by go_num,rfl,HF.o,λz hz=>by rcases hz with hz|hz;{exact O.o.b z hz};exact .inr (bH O.o.2.2.size (bH c4.o.size hz.1)),O.o.2.2.O ((c4.o.mono kZ).trans j3.o) λz hz e=>(O.o.b z e).resolve_right vO⟩);case measure=>exact vJ| false =>have Z:=J (WJ Q e4.o.1.va w6 Tk xk D (Bw ky) vl (O.o.1.ext c4.o) m2.o (BO ky) e4.o.1.dp9);obtain⟨pb,X⟩:=vE (Bw ky);(have e8:=J X;rw[<-X]at Z ⊢;clear X;go_wp2_with fail);(refine Z.o.mono ?_;rintro e K ⟨v7,rfl,d4,d5⟩;have a5:(ds.take (k+1)).foldl Ow P=Ds Q pb vl:=by rw[c8.o,e8.o];rfl);have d6:=e4.o.2.there;rw[show Ow Q ⟨ky,vl,false⟩=Ds Q pb vl by rw[e8.o];rfl]at d6;obtain⟨T7,x7,rfl⟩:=d4.form d6;(have HF:=J (show Hq ((ds.take (k+1)).foldl Ow P) (.iface T7 x7) (Du D w6 K) K from by rw[a5];exact Bk.own d4 d5 (O.o.1.ext c4.o).lt);have j3:=J d5;clear d4 d5 a5 d6;go_wp2);go_roundw;(case rel=>exact⟨k+1,T7,x7,_,by omega,by go_num,rfl,HF.o,λz hz=>by rcases hz with hz|hz;{exact O.o.b z hz};exact .inr (bH O.o.2.2.size (bH c4.o.size hz.1)),O.o.2.2.O ((c4.o.mono kZ).trans j3.o) λz hz e=>(O.o.b z e).resolve_right vO⟩);case measure=>exact vJ};obtain rfl:k=ds.length:=vO;rw[cF,HP.o,G0 HK.o c0.o j0.o]at d1;have j4:Hid (Af w wr):=(n4.o.O d2 λz hz e=>kL e.1);obtain⟨W6,h8⟩:=vE (wr.alloc (.cells #[qe] 258));(have d3:Af wr W6:=by rw[h8];exact (Aa wr).alloc _);have j5:Eb wr wr qe [] W6:=⟨bO _,by rw[h8];exact Ae.new wr _,fK _ _ _ _,λb hb=>(by cases hb),λ_=>rfl⟩;have k9:Bu (Dj 13 (Cq m))=Er 12 (Cq m):=VK 12 _ (Nn (Ge c0.o));have b6:=v8 12 (Cq m) (Nn (Ge c0.o)) wr W6 Tk xk D wr qe [] (g7.o.1.ext j4.o) (g7.o.2.ext j4.o) d1 d3 j5 (by have:=PD (Ge c0.o);have:([]:vM).length=0:=rfl;show 0+Bu (Dj 13 (Cq m))<=100000;omega);rw[cL,show Bc (Dj (12+1) (Cq m))=(Cr m).text from jzs c0.o,show Ca (Dj (12+1) (Cq m))=Hl m from rfl]at b6;have h9:=J (jlv c0.o);have g2:=J (show Ho S (Gp l cs)=(Cr m).text::Eg S (Hl m)from by unfold Ho Gp;rw[<-n2.o]);obtain⟨t,ht⟩:=vE (Cr m).text;obtain⟨U,hU⟩:=vE (Hl m);(rw[<-ht, <-hU]at g2;rw[<-hU]at h9;rw[<-ht, <-hU]at b6;have l0:=J b6;have j6:=J (kT j5 d3 h8);clear d1 hD d2 d3 j5 k9 b6 ht hU h8;go_wp2_with fail);rw[<-j6.o.C];refine l0.o.mono ?_;rintro e K ⟨rfl,v7,i0⟩;have b4:=J (kT i0.at' (j4.o.trans (i0.ext0 j6.o.1 j6.o.b (bO _))) i0.at'.var.lt);obtain⟨g,hg⟩:=vE wr.heap.size;rw[<-hg]at b4 ⊢;clear i0 hg;obtain⟨a7,c7,m3⟩:=Ir b4.o.1.row;obtain⟨n7,j7⟩:∃ n,n=U.length:=⟨_,rfl⟩;(have b3:=J b4.o.1.row;rw[<-j7]at m3 b3;subst m3;have j8:=J j7;have q7:=b4.o.1.var.cell (i:=0) (v:=.slice a7 n7 c7) vF;clear j7;have n6:(Instr.makeMap 126 none).run prog (K.alloc (.cells #[t] 9))=.ok (.map (some ((K:Nat)+1))) ((K.alloc (.cells #[t] 9)).alloc (.map #[] 0)):=by rw[<-bJ K (.cells #[t] 9)];exact Ef _);obtain⟨W8,e9⟩:=vE ((K.alloc (.cells #[t] 9)).alloc (.map #[] 0));obtain⟨mb,j9⟩:=vE ((K:Nat)+1);(rw[<-e9, <-j9]at n6;have m4:Af K W8:=by rw[e9];exact ((Aa K).alloc _).alloc _);(have m5:Ae W8 mb (.map (Al.arr []) 0):=by rw[e9,j9, <-bJ K (.cells #[t] 9)];exact Ae.new _ _);(have i1:Cg K (K.alloc (.cells #[t] 9)) (.slice (some K) 1 1) 1 [t]:=Ar.lit (n:=1) #[t] (Aa K) vI rfl;have i1:Cg K W8 (.slice (some K) 1 1) 1 [t]:=by rw[e9];exact i1.mono ((Aa _).alloc _));(have n8:=J (show YK K S mb t U 0 (.slice (some K) 1 1) W8 from⟨⟨1,i1⟩,λe=>by injection e with e;have e:(K:Nat)=mb:=e;omega,[],0,m5,λy=>rfl⟩);have q7:=Am q7 m4;have n9:=J (show (K:Nat)<=mb by omega);clear e9 j9 m4 m5 i1;go_wp2);(go_loopw [19,86] (λrv iv wr=>wO K S mb t U rv iv wr) (λ_ iv _=>U.length-(intOf iv).toNat));(case atStart=>exact⟨0,by omega,rfl,n8.o⟩);case round =>obtain⟨k,hk,rfl,m6⟩:=hrel;by_cases hlt:k<U.length;{rcases Nat.eq_zero_or_pos n7 with h0|h0;{have:=j8.o;omega};obtain⟨b7,rfl⟩:=IE b3.o vO;obtain⟨x,hx⟩:∃ x,U[k]?=some x:=⟨_,bB hlt⟩;obtain⟨⟨n,q⟩,e0,es,ck,h5,h6⟩:=m6;obtain⟨ar,cr,k0⟩:=q.sl;subst k0;have HX:=J q.ext;have qx:=Am (BN b3.o (j:=k) (u:=.string x) (by rw[bY,hx];rfl)) q.ext;obtain⟨cn,f0⟩:=vE (Fc (U.take k) x);(have p4:cn<=1000000:=by rw[f0];unfold Fc;refine bH jL ?_;rw[bT,cR];have:=h9.o;omega);(have e6:=h6 x;rw[<-f0]at e6;have k1:(Instr.lookup 126 (.map (some mb)) (.string x) false).run prog wr=.ok (cn:Int) wr:=by have:=Wx Al Bf h5 (Cz wr) x.data.toList false;rw[e6]at this;unfold Kf at this;by_cases h0:cn=0;{rw[if_pos h0]at this;rw[h0];exact this};rw[if_neg h0]at this;exact this);obtain⟨a8,b8⟩:∃ Gb,Gb=Iv es x.data.toList (.int .i64 ((cn:Int)+1)) ck:=⟨_,rfl⟩;obtain⟨b9,g3⟩:∃ ck2,ck2=(if (Cp es x.data.toList).isSome then ck else ck+1):=⟨_,rfl⟩;obtain⟨W2,i2⟩:=vE (wr.putObj mb (.map (Al.arr a8) b9));(have k2:(Instr.mapUpdate 126 (.map (some mb)) (.string x) (.int .i64 ((cn:Int)+1))).run prog wr=.ok () W2:=by have:=Yq Al Bf h5 x.data.toList (.int .i64 ((cn:Int)+1));rw[<-b8, <-g3, <-i2]at this;exact this);(have B2:Ae W2 mb (.map (Al.arr a8) b9):=by rw[i2];exact h5.put_same _);(have e7:∀ y:vB,Cp a8 y.data.toList=Kf (Fc (U.take (k+1)) y):=λy=>by rw[b8,EF,h6 y,WM hx,p9];by_cases hxy:y.data.toList=x.data.toList;{have o0:y=x:=ByteArray.ext (Array.ext' hxy);subst o0;rw[if_pos rfl,if_pos rfl, <-f0];unfold Kf;rw[if_neg vO];simp};rw[if_neg hxy,if_neg λe=>hxy e.symm];rfl);(have g4:∀ W3,Af W2 W3->(Instr.lookup 126 (.map (some mb)) (.string x) false).run prog W3=.ok (.int .i64 ((cn:Int)+1)) W3:=λW3 e3=>by have:=Wx Al Bf (B2.Z e3 kI) (Cz W3) x.data.toList false;rw[b8,EF,if_pos rfl]at this;exact this);(have K2:Ad (λz=>z=mb) wr W2:=by rw[i2];exact Ad.z7 _ _ _);have O2:Cg K W2 (.slice ar n cr) n (t::Eg S (U.take k)):=q.Z K2 (λb hb e=>e0 (by rw[hb];exact congrArg some e)) (λb hb e=>by have e:b=mb:=e;have:=n9.o;omega);have g5:=J (show n<=119 by have h1:=q.len;rw[bT,bQ]at h1;have h2:=kO S (U.take k);rw[cR]at h2;have:=h9.o;omega);have g6:=J (show Jr (Hg (U.take k)) x=true↔cn≠0 from by rw[GU,Ql,f0];unfold Fc;rw[<-Nat.pos_iff_ne_zero,gB,bC];exact⟨λhm=>⟨x,hm,rfl⟩,λ⟨y,hy,e⟩=>by rw[<-show y=x from ByteArray.ext (Array.ext' e)];exact hy⟩);have i3:=J (q4 S (U.take k) x);rw[<-WM hx]at i3;have e2:=J (show ∀ W3,Af W2 W3->∃ es ck,Ae W3 mb (.map (Al.arr es) ck)/\∀ y:vB,Cp es y.data.toList=Kf (Fc (U.take (k+1)) y)from λW3 e3=>⟨a8,b9,B2.Z e3 kI,e7⟩);have k3:=J (bA B2 e7);have k4:=J g4;have c5:=J O2;have a9:=J e0;have b1:(k:Int)<(n7:Int):=kL j8.o;have i4:=J (bA hk hlt);have p5:=h9.o;clear q e0 h5 h6 hx f0 e6 b8 g3 i2 B2 e7 g4 K2 O2 h0;by_cases hc0:cn=0;{subst hc0;have i5:=J (show Jr (Hg (U.take k)) x=false by cases hm:Jr (Hg (U.take k)) x with| false=>rfl| true=>exact absurd rfl (g6.o.1 hm));(have o6:(Instr.lookup 126 (.map (some mb)) (.string x) false).run prog wr=.ok qa wr:=k1;have o7:(Instr.mapUpdate 126 (.map (some mb)) (.string x) (.int .i64 1)).run prog wr=.ok () W2:=k2;have l1:Hid (∀ W3,Af W2 W3->(Instr.lookup 126 (.map (some mb)) (.string x) false).run prog W3=.ok (.int .i64 1) W3):=k4.o;clear k1 k2 k4;go_wp2_with fail);refine vC (Tr _ _ [x] (by simp) (BS W2 [x] 9) (g7.o.1.ext (b4.o.2.1.trans (c5.o.ext.alloc _)))) λw8 a0=>?_;rw[CX];have a0:=((Aa W2).alloc (.cells #[.string x] 9)).trans a0;have f1:=J a0;have A:=J (AL w8 s bm room S (Aj x) (l4.o.ext (b4.o.2.1.trans (c5.o.ext.trans a0))));have k5:Hid (Qr S x=(Be S (Aj x).data.toList).isNone):=rfl;obtain⟨ag,f2⟩:=vE (Be S (Aj x).data.toList);rw[<-f2]at A k5;obtain⟨sx,f3⟩:=vE (Aj x);rw[<-f3]at A ⊢;clear a0 f2 f3 qx;cases ag with| some y =>obtain⟨ty,f4⟩:=vE y.2.2.text;(have d7:=J (show vQ 85 #[s,sx] w8 (λe w'=>e=.returned (.tuple #[y.2.2.text,true])/\Af w8 w')from A.o);go_wp2_with fail);(refine d7.o.mono ?_;rintro e w9 ⟨rfl,a4⟩;have H:=J (f1.o.trans a4);clear a4;rw[<-f4];clear f4;have f5:Eg S (U.take (k+1))=Eg S (U.take k):=by rw[i3.o];rw[if_neg (by rw[i5.o];simp),if_neg (by rw[k5.o];simp),cC]);(have HF:=J f5;clear f5;go_wp2);go_roundw;(case rel=>exact⟨k+1,kL i4.o,by go_num,⟨n,by rw[HF.o];exact c5.o.mono H.o⟩,a9.o,e2.o w9 H.o⟩);case measure=>exact vJ| none =>(have d7:=J (show vQ 85 #[s,sx] w8 (λe w'=>e=.returned (.tuple #[(),false])/\Af w8 w')from A.o);go_wp2_with fail);(refine d7.o.mono ?_;rintro e w9 ⟨rfl,a4⟩;have H:=J (f1.o.trans a4);clear a4;have l2:=l1.o w9 H.o;have o1:n+1<=maxLen:=by have:=g5.o;unfold maxLen;omega);have o2:(n+1)*16<=140737488355328:=kL g5.o;(go_wp2_with (at_builtin;refine Qm Ci ((c5.o.mono H.o).mono ((Aa w9).alloc _)) (.tmp 110) (.tmp 112) rfl rfl rfl (Jx (Ae.new w9 _)) (news:=[.string x]) (by intro u hu;simp at hu;rcases hu with rfl;rfl) rfl rfl o1 o2 ?_;intro v' w' r1 r2 r3));(have k6:Cg K w' v' (n+1) (t::Eg S (U.take (k+1))):=by(have e1:Eg S (U.take (k+1))=Eg S (U.take k)++[x]:=by rw[i3.o,if_neg (by rw[i5.o];simp),if_pos (by rw[k5.o];rfl)]);unfold Cg;rw[e1, <-cS,bW];exact r1);obtain⟨o3,o4,rfl⟩:=k6.sl;have l3:=(k3.o.1.Z H.o kI).lt;have m7:=J (bA k6 (show (Value.slice o3 (n+1) o4).ownBlock≠some mb from λe=>by rcases r3 with r3|r3;{exact a9.o (r3 ▸ e)};have:=r3 mb e;rw[bJ]at this;omega));(have o5:=J (((k3.o.1.Z H.o kI).alloc (.cells #[.string x] 9)).Z r2 λe=>a9.o e);clear r1 r2 r3 k6 l3;go_wp2);go_roundw;(case rel=>exact⟨k+1,kL i4.o,by go_num,⟨n+1,m7.o.1⟩,m7.o.2,a8,b9,o5.o,k3.o.2⟩);case measure=>exact vJ};have p6:¬((cn:Int)+1=1):=vO;(have p7:(((cn:Int)+1) == 1)=false:=by simp;omega);(have i5:=J (g6.o.2 hc0);go_wp2_with fail);refine vC (Tr _ _ [x] (by simp) (BS W2 [x] 9) (g7.o.1.ext (b4.o.2.1.trans (c5.o.ext.alloc _)))) λw8 a0=>?_;rw[CX];have a0:=((Aa W2).alloc (.cells #[.string x] 9)).trans a0;have f1:=J a0;have A:=J (AL w8 s bm room S (Aj x) (l4.o.ext (b4.o.2.1.trans (c5.o.ext.trans a0))));obtain⟨ag,f2⟩:=vE (Be S (Aj x).data.toList);rw[<-f2]at A;obtain⟨sx,f3⟩:=vE (Aj x);(rw[<-f3]at A ⊢;clear a0 f2 f3 qx k1 k2;have f5:Eg S (U.take (k+1))=Eg S (U.take k):=by rw[i3.o,if_pos i5.o,cC]);have HF:=J f5;clear f5;cases ag with| some y =>obtain⟨ty,f4⟩:=vE y.2.2.text;(have d7:=J (show vQ 85 #[s,sx] w8 (λe w'=>e=.returned (.tuple #[y.2.2.text,true])/\Af w8 w')from A.o);go_wp2_with fail);(refine d7.o.mono ?_;rintro e w9 ⟨rfl,a4⟩;have H:=J (f1.o.trans a4);clear a4;rw[<-f4];clear f4;go_wp2);go_roundw;(case rel=>exact⟨k+1,kL i4.o,by go_num,⟨n,by rw[HF.o];exact c5.o.mono H.o⟩,a9.o,e2.o w9 H.o⟩);case measure=>exact vJ| none =>(have d7:=J (show vQ 85 #[s,sx] w8 (λe w'=>e=.returned (.tuple #[(),false])/\Af w8 w')from A.o);go_wp2_with fail);(refine d7.o.mono ?_;rintro e w9 ⟨rfl,a4⟩;have H:=J (f1.o.trans a4);clear a4;have l2:=k4.o w9 H.o;go_wp2);go_roundw;(case rel=>exact⟨k+1,kL i4.o,by go_num,⟨n,by rw[HF.o];exact c5.o.mono H.o⟩,a9.o,e2.o w9 H.o⟩);case measure=>exact vJ};obtain rfl:k=U.length:=vO;obtain⟨⟨n,q⟩, -, -⟩:=m6;obtain⟨ar,cr,k0⟩:=q.sl;subst k0;rw[cF]at q;have b0:=J q;have p8:¬((U.length:Int)<(n7:Int)):=kL j8.o;(clear q;go_wp2);(go_ret2;unfold Up;rw[if_pos n1.o,g2.o];have hn:(t::Eg S U).length=n:=by have:=b0.o.len;simpa using this);rw[hn];exact⟨_,rfl,b0.o.sl,b0.o.own,b4.o.2.1.trans b0.o.ext,λb hb=>bH b4.o.2.1.size (b0.o.new b hb)⟩
def Pk(w:vW)(s bm:Nat)(room:Int)(S:vT)(l:vL)(cs:List Br)(e:Ending)(w':vW):Prop:=
 (Ez l cs≠0/\e=.returned (.tuple #[(),.int .i64 (Ez l cs)])/\Af w w')\/(Ez l cs=0/\∃ w1,Af w w1/\PM False w1 s bm room S (Ho S (Gp l cs)) e w')
theorem Pk.bad{w:vW}{s bm:Nat}(h:Ez l cs=x)(h0:x≠0)(hE:Af w w'):Pk w s bm room S l cs (.returned (.tuple #[(),.int .i64 x])) w':=by
 subst h;exact .inl ⟨h0,rfl,hE⟩
theorem Pk.go{w:vW}{s bm:Nat}(h:Ez l cs=0)(hL:L=Ho S (Gp l cs))(hE:Af w w1)(hA:PM False w1 s bm room S L e w'):Pk w s bm room S l cs e w':=by
 subst hL;exact .inr ⟨h,w1,hE,hA⟩
theorem XA(h:Em m=0):(Ho S m).length<=119:=by
 unfold Ho;rw[bQ];have e:=kO S (Hl m);have q:=jlv h;omega
theorem rP(h:Em m=0)(ht:t∈Ho S m):t∈Bz (Cr m):=by
 unfold Ho at ht;have e:Bz (Cr m)=(Cr m).text::Hl m:=by rw[VH h];show Bz (.mk _ _)=_;rw[Bz];rfl
 rw[e];rcases bU.1 ht with rfl|ht
 ·exact bN
 ·unfold Eg at ht;exact bM _ ((Ql _ _).1 (cE.1 ht).1)
theorem y8(h:Em m=0):∀ t∈Ho S m,∃ n,Hv t n:=λt e=>by
 obtain⟨n,q,_⟩:=(RB h).node t ((Ql _ _).2 (rP h e))
 exact⟨n,q⟩
theorem nV(hc:Ha w)(he:Gh w)(s bm:Nat)(room:Int)(S:vT)(hs:Ev w s bm room S)(hN:AH S)(l:vL)(h:Iy S l)(u:vV)(cs:List Br)(hu:Jj w u cs)(hnc:cs.length<=9223372036854775807)(hsc:∀ c∈cs,c.key.size<=9223372036854775807/\c.value.size<=9223372036854775807)(hr0:0<=room)(hr1:room<=9223372036854775807)(hS:S.length<=100000)(hSu:∀ x∈S,0<=x.2.2.used/\x.2.2.used<=1000000000)(hSh:∀ x∈S,0<=x.2.2.held/\x.2.2.held<=1000000000):vQ 46 #[s,Bi l,u] w (Pk w s bm room S l cs):=by
 have HU:=J (c_ w hc he s bm room S hs hN l h u cs hu hnc hsc);have Z:=J (bA hc he);have a5:=J hs;have HB:=J (kT hS hSu hSh);have HR:=J (bA hr0 hr1)
 obtain⟨a,c,a7⟩:=hu.sl
 subst a7
 obtain⟨rt,a0⟩:=vE (Bi l)
 rw[<-a0]at HU ⊢;clear a0 hs hN h hc he hu hnc hsc hS hSu hSh hr0 hr1;unfold vQ;go_in;go_wp2_with fail
 refine HU.o.mono ?_;rintro e w1 hU;unfold Up at hU
 by_cases h0:Ez l cs=0
 case neg =>rw[if_neg h0]at hU;obtain⟨rfl,hE⟩:=hU;have K:=J hE;obtain⟨x0,O⟩:=vE (Ez l cs);(have a8:=J O.symm;rw[<-O]at h0 ⊢;have H0:=J h0;have b1:(x0 != 0)=true:=by simpa using h0);(have b2:(x0 == 0)=false:=by simpa using h0);(clear hE O h0;go_wp2);go_ret2;exact Pk.bad a8.o H0.o K.o
 rw[if_pos h0]at hU
 obtain⟨r,rfl,hR⟩:=hU
 have H0:=J h0;have q:=Zo h0;have q:Em (Gp l cs)=0:=q;have X:=XA (S:=S) q;have a1:=J hR.rd;have K:=J hR.ext;have a2:=J (d7 (y8 (S:=S) q));have A:Hid ((Ho S (Gp l cs))[0]?=some (Cr (Gp l cs)).text):=rfl
 obtain⟨L,hL⟩:=vE (Ho S (Gp l cs))
 rw[<-hL]at a1 a2 A X hR;have a4:=J hL;have a9:=J X
 obtain⟨a3,c3,e3⟩:=hR.sl
 subst e3
 obtain⟨top,H⟩:=vE (Cr (Gp l cs)).text
 rw[<-H]at A;clear hR hL h0 q X H;go_wp2_with fail
 refine (pM w1 (Z.o.1.ext K.o) (Z.o.2.ext K.o) s bm room S (a5.o.ext K.o) _ L a1.o False a2.o (kL a9.o) top A.o HR.o.1 HR.o.2 HB.o.1 HB.o.b HB.o.C).mono ?_;intro e w2 hA;have HA:=J hA;rcases hA with⟨k,_,_,rfl,_⟩|⟨_,_,_,_,hY⟩
 ·(go_wp2);go_ret2;exact Pk.go H0.o a4.o K.o HA.o
 ·have b0:=hY.res;(subst b0;clear hY;go_wp2);go_ret2;exact Pk.go H0.o a4.o K.o HA.o
end
section
open Go Go.RowKit
theorem i6(h:Em m=0):Bz (Cr m)=(Cr m).text::Hl m:=by
 rw[VH h];show Bz (.mk _ _)=_;rw[Bz];rfl
theorem O0(S:vT)(h:Em m=0):Sm S m (Ho S m):=
 ⟨h,rfl,λt e=>(Ql _ _).2 (rP h e),λt e=>by
  have e:=(Ql (Bz (Cr m)) t).1 e;rw[i6 h]at e;unfold Ho;rcases bU.1 e with rfl|e
  ·exact .inl bN
  ·cases hl:Qr S t with
   |true=>exact .inl (bM _ (cE.2 ⟨(Ql _ _).2 e,hl⟩))
   |false =>
    refine .inr (Xs.1 ?_);unfold Qr at hl;unfold ky;cases ha:Be S (Aj t).data.toList with
    |none=>rw[ha]at hl;cases hl
    |some x=>rfl⟩
theorem Sj.ahead{w:vW}(h:Sj w1 U S m L S')(hw:(w:Nat)<=↑w1):Sj w U S m L S':=
 ⟨h.kp,h.key,h.held,h.sum,h.len,λx q=>(h.blk x q).imp id λe=>bH hw e,h.bd⟩
structure DR(w:World)(s bm:Nat)(room:Int)(U:vM)(S:vT)(m:vL)(L:vM)(e:Ending)(w':World)(S':vT):Prop where
 res:e=.returned (.tuple #[Bi m,qa])
 st:Ev w' s bm room S'
 add:Sj w U S m L S'
 kp:Ad (λz=>z=bm\/z∈S.map (·.2.1)) w w'
 fits:(S'.length:Int)<=room\/room<S.length
def VJ(w:vW)(room:Int)(S:vT)(L:vM)(e:Ending)(w':vW):Prop:=e=.returned (.tuple #[(),.int .i64 3])/\Af w w'/\room<(S.length:Int)+(L.length:Int)
theorem A8(w0 w:vW)(hU:Gi U)(hK:Kp U S)(hp:Sm S m L)(hs:∀ t∈Ld m,t∈U)(hl:L.length<=1000){s bm:Nat}(hE:Af w0 w)(h:PM False w s bm room S L e w'):VJ w0 room S L e w'\/∃ S',DR w0 s bm room U S m L e w' S':=by
 rcases h with⟨k,hwhy,_,rfl,hE2⟩|⟨top,G,M,htop,hY⟩
 ·obtain⟨rfl,H⟩:=hp.why w hwhy;exact .inl ⟨rfl,hE.trans hE2,H⟩
 ·(have q:top=(Cr m).text:=by have:=hp.head;rw[htop]at this;exact bV this);subst q;refine .inr ⟨_,hY.res,hY.st,(hp.add w hU hK hs hl hY).ahead hE.size,(hE.mono kZ).trans hY.kp,?_⟩;have K:=hY.fits;have A:=OW (S:=S) (G:=G) (M:=M) (top:=(Cr m).text);have A:(Zi (Aj (Cr m).text).data.toList (Qe ((Da S M).flatMap (Ik G)) (S++Lj G (Da S M)))).length<=S.length+(Da S M).length:=A;omega
theorem xM(hU:Gi U)(hK:Kp U S)(h0:Ez l cs=0)(hs:∀ t∈Ld (Gp l cs),t∈U){s bm:Nat}(h:Pk w s bm room S l cs e w'):VJ w room S (Ho S (Gp l cs)) e w'\/∃ S',DR w s bm room U S (Gp l cs) (Ho S (Gp l cs)) e w' S':=by
 rcases h with⟨h1,_⟩|⟨_,w1,hE,h⟩
 ·exact absurd h0 h1
 ·have q:Em (Gp l cs)=0:=Zo h0;exact A8 w w1 hU hK (O0 S q) hs (by have:=XA (S:=S) q;omega) hE h
theorem A5(hU:Gi U)(hK:Kp U S)(h0:Ez l cs=0)(hs:∀ t∈Ld (Gp l cs),t∈U){s bm:Nat}(h:Pk w s bm room S l cs e w')(hr:(S.length:Int)+((Ho S (Gp l cs)).length:Int)<=room):∃ S',DR w s bm room U S (Gp l cs) (Ho S (Gp l cs)) e w' S':=by
 rcases xM w hU hK h0 hs h with⟨_,_,h3⟩|h3
 ·omega
 ·exact h3
def BB(r:vB):vV->Bool
 |.string q=>decide (q=r)
 |_=>false
def Rl(es:List (Ce Int))(r:vB):Nat:=es.countP λx=>BB r x.2.1
theorem nU{r:vB}:∀ {es:List (Ce Int)} {x:Ce Int},x∈es->(es.map (·.1)).Nodup->Rl es r=Rl (Kb es x.1) r+if BB r x.2.1=true then 1 else 0
 |y::t,x,q,hn=>by
  obtain⟨A,H⟩:=dL.1 hn
  unfold Kb Rl;rw[List.countP_cons]
  by_cases e:x.1=y.1
  ·rw[if_pos e]
   have:x=y:=by
    rcases bU.1 q with h|h
    ·exact h
    ·exact absurd (bC.2 ⟨x,h,e⟩) A
   rw[this]
  ·rw[if_neg e,List.countP_cons]
   have q:x∈t:=(bU.1 q).resolve_left λh=>e (by rw[h])
   have:=nU (r:=r) q H
   unfold Rl at this;omega
theorem I4{k:Int}:(Kb es k).Sublist es:=by
 induction es with
 |nil=>exact .slnil
 |cons z t ih =>unfold Kb;split;{exact iH _ _};exact ih.cons_cons _
theorem ZI{k:Int}{v:vV}{n:Nat}:∀ {es:List (Ce Int)},(es.map (·.1)).Nodup->((k,v,n):Ce Int)∈es->Cp es k=some v
 |y::t,hn,h=>by
  obtain⟨q,A⟩:=dL.1 hn
  unfold Cp;rw[fQ]
  by_cases e:k=y.1
  ·rw[decide_eq_true e]
   rcases bU.1 h with h|h
   ·rw[<-h];rfl
   ·exact absurd (bC.2 ⟨_,h,e⟩) q
  ·rw[decide_eq_false e]
   exact ZI A ((bU.1 h).resolve_left λh=>e (by rw[<-h]))
theorem d0{w:vW}{s bm s' bm':Nat}{y:Gk}(hst:Ev w0 s bm room S)(hy:Be S r.data.toList=some y)(hp:0<y.2.2.held)(hc:Ns S)(hD:IL w s' bm' room' S S' y w')(q:vB):Xy (Be S' q.data.toList)=Xy (Be S q.data.toList)-if q=r then 1 else 0:=by
 obtain⟨K,O⟩:=Fd hy
 have hz:∀ z∈S,z.1=q.data.toList->Be S q.data.toList=some z/\(Cn 3 y.2.1 (y.2.2.held-1) z).2.2.held=z.2.2.held-if q=r then 1 else 0:=λz H X=>by(have ha:Be S q.data.toList=some z:=by cases e:Be S q.data.toList with| none=>exact absurd X.symm (EJ.1 e z H)| some u=>rw[Qj hst.nd (Fd e).1 H ((Fd e).2.trans X.symm)]);refine⟨ha,?_⟩;unfold Cn;by_cases e:z.2.1=y.2.1;{have Z:z=y:=Qj hst.mp.blks H K e;have A:q=r:=ByteArray.ext (Array.ext' (X.symm.trans (by rw[Z];exact O)));rw[if_pos e,if_pos A,Z];rfl};have A:q≠r:=λA=>e (by rw[A]at X;rw[Qj hst.nd H K (X.trans O.symm)]);rw[if_neg e,if_neg A];omega
 cases e:Be S' q.data.toList with
 |some u =>obtain⟨u1,u2⟩:=Fd e;obtain⟨v,hv,e1,_,_,_,e5⟩:=hD.sub u u1;obtain⟨z,H,rfl⟩:=bC.1 hv;obtain⟨h3,h4⟩:=hz z H (by rw[<-(CR y.2.1 (y.2.2.held-1) z).2.2.1, <-e1,u2]);rw[h3];show u.2.2.held=z.2.2.held-_;rw[e5,h4]
 |none =>cases e2:Be S q.data.toList with| none =>(have A:q≠r:=λA=>by rw[A,hy]at e2;cases e2);rw[if_neg A];rfl| some z =>obtain⟨z1,z2⟩:=Fd e2;(have h4:=(hz z z1 z2).2;have hs:=hD.stay _ (bC.2 ⟨z,z1,rfl⟩);rw[(CR y.2.1 (y.2.2.held-1) z).2.2.1,z2,h4]at hs;have a0:=hc.held z z1;have hn:¬ 0<z.2.2.held-(if q=r then 1 else 0):=λh=>by obtain⟨u,hu⟩:=cW.1 (Xs.2 (hs h));rw[e]at hu;cases hu);show (0:Int)=z.2.2.held-_;by_cases A:q=r;{rw[if_pos A]at hn ⊢;(have:z=y:=by rw[A,hy]at e2;exact (bV e2).symm);rw[this]at hn ⊢;omega};rw[if_neg A]at hn ⊢;omega
structure JF(U:vM)(P:List (Int × vL))(es:List (Ce Int))(S:vT):Prop where
 kp:Kp U S
 nd:(es.map (·.1)).Nodup
 cnt:∀ r,(Rl es r:Int)<=Xy (Be S r.data.toList)
 new:∀ q∈P,∃ k,((q.1,.string (Bi q.2),k):Ce Int)∈es
theorem JF.has{U:vM}{P:List (Int × vL)}{L:vL}{nb:Int}{es:List (Ce Int)}{S:vT}(h:JF U P es S)(hp:(nb,L)∈P)(w:vW)(hU:Gi U)(hL:Em L=0)(hs:∀ t∈Ld L,t∈U):Iy S L:=by
 obtain⟨k,A⟩:=h.new _ hp
 refine h.kp.has w hU hL hs ?_;have q:=h.cnt (Bi L);have H:0<Rl es (Bi L):=List.countP_pos_iff.2 ⟨_,A,by simp[BB]⟩;rw[<-Xs];cases e:Be S (Bi L).data.toList with
 |none=>rw[e]at q;simp[Xy]at q;omega
 |some u=>rw[show ky (Cr L).text=(Bi L).data.toList from rfl,e];rfl
structure Eu where
 k:Int
 v:vV
 cs:List Br
 n:Int
def AI(w:vW)(v:vV)(xs:List Eu):Prop:=
 (∃ a c,v=.slice a 0 c/\xs=[])\/∃ b o c,v=.slice (some ⟨b,o,none⟩) xs.length c/\b<(w:Nat)/\xs.length<=c/\∀ (j:Nat) x,xs[j]?=some x->w.cell? ⟨b,o+j*3,none⟩=some (.int .i64 x.k)/\w.cell? ⟨b,o+j*3+1,none⟩=some x.v/\w.cell? ⟨b,o+j*3+2,none⟩=some (.int .i64 x.n)/\Jj w x.v x.cs
theorem AI.ext{w:vW}{xs:List Eu}(h:AI w v xs)(k:Af w w'):AI w' v xs:=by
 rcases h with h|⟨b,o,c,h1,h2,h3,h4⟩
 ·exact .inl h
 ·exact .inr ⟨b,o,c,h1,bE h2 k.size,h3,λj x e=>⟨Am (h4 j x e).1 k,Am (h4 j x e).2.1 k,Am (h4 j x e).2.2.1 k,(h4 j x e).2.2.2.ext k⟩⟩
theorem AI.sl{w:vW}{xs:List Eu}(h:AI w v xs):∃ a c,v=.slice a xs.length c:=by
 rcases h with⟨a,c,rfl,rfl⟩|⟨b,o,c,rfl,_⟩
 ·exact⟨a,c,rfl⟩
 ·exact⟨_,c,rfl⟩
def KR(l:List Eu):Prop:=∀ p∈l,p.cs.length<=9223372036854775807/\∀ c∈p.cs,c.key.size<=9223372036854775807/\c.value.size<=9223372036854775807
theorem p_(l:List Au)(bk:Int):Co l bk=(l.map λv=>(v.block:Int)).any λx=>decide (x=bk):=by
 unfold Co Jp;rw[List.findIdx?_isSome,List.any_map];rfl
theorem k5:(Gd M x).1.all.map (λv=>(v.block:Int))=M.all.map λv=>(v.block:Int):=by
 unfold Gd;split
 ·rfl
 split
 ·rfl
 split
 ·rfl
 rename_i v hv hp
 have h:=h2 (p:=v.pins+1) hv;show (Lz M _ v (v.pins+1)).map (λv=>(v.block:Int))=_;have e:∀ l:List Au,l.map (λv=>(v.block:Int))=(l.map Au.block).map λn:Nat=>(n:Int):=λl=>by rw[dB];rfl
 rw[e,e,h]
theorem jDk{k:Int}:Co (Gd M x).1.all k=Co M.all k:=by rw[p_,p_,k5]
theorem i_:(Gd M x).1.all.length=M.all.length:=by
 have:=congrArg List.length (k5 (M:=M) (x:=x))
 simpa using this
theorem q2{l:List Au}(h:Co l bk=true):∃ i v,Jp l bk=some i/\l[i]?=some v:=by
 unfold Co at h
 obtain⟨i,e⟩:=cW.1 h
 obtain⟨v,q,_⟩:=MY e
 exact⟨i,v,e,q⟩
end
section
open Go Go.RowKit
attribute [local go_sem] Oper.semAt_some
end
section
open Go Go.RowKit
end
section
open Go Go.RowKit
attribute [local go_sem] Oper.semAt_some
end
section
open Go Go.RowKit
end
section
open Go Go.RowKit
attribute [local go_sem] Oper.semAt_some
theorem Qq(n:Nat):Af w (w.drewN n):=(Aa w).drewN n
def yB(z g L:Nat)(v:vV)(W:vW)(S:vT)(A:vM)(V:Option vB)(okv pv:vV)(wr:vW):Prop:=
 ∃ (p:vB) (T:vM) (v':vV),pv=.string p/\Qd z g v W wr v' T/\v'.ownBlock≠some L /\
  ((okv=.bool true/\∃ f l,Ep f l/\Dy p=true/\p.size<=2000/\T++Ip f l p=A/\Dt l p=V/\Ae wr L (.cells (Bj (An f) l).cells.toArray 215)/\(∀ x∈Bz (An (f+1) l),32<=x.size->Md S x)) \/
  (okv=.bool false/\T=A/\V=none))
def Pc:vV->vV->Nat | .bool true,pv=>AN pv+1|_,_=>0
def Kg:Option vB->vV|some u=>.tuple #[u,qa]|none=>.tuple #[(),.int .i64 9]
def sF(z g:Nat)(v:vV)(W:vW)(A:vM)(V:Option vB)(e:Ending)(w':vW):Prop:=e=.returned (Kg V)/\∃ v',Qd z g v W w' v' A
theorem t3(w0 W:vW)(s bm:Nat)(room:Int)(S:vT)(hs:Ev w0 s bm room S)(hE0:Af w0 W)(g:Nat)(v:vV)(h:Vb w0 g v [] W)(l:vL)(hM:Iy S l)(key:vB)(hk:key.size<=1000):vQ 83 #[s,Aj (Cr l).text,key,.func (.func 139) #[] #[g]] W (sF w0 g v W ((Cr l).text::Ip 12 (Cq l) (Bw key)) (Dt (Cq l) (Bw key))):=by
 have HS:=J hs;have g7:=J hE0;have HM:=J h;have b1:=Nn (Ge hM.ok);have d7:=J b1;have a3:=(good 12 (Cq l) b1).1
 obtain⟨n,hn⟩:=vE (Bj (An 12) (Cq l))
 rw[<-hn]at a3;have e7:=QE w0 W s bm room S hs hE0 g v [] h (by simp) (Cr l).text (hM.has _ (Yx _)) 12 n a3 (by rw[hn];rfl);have e8:=J e7;have HL:=J (n.z3 (a3.one (Bm 12)).refs);have g8:=J hM.has;have HN:=J hn;have HK:=J hk
 obtain⟨A,hA⟩:=vE ((Cr l).text::Ip 12 (Cq l) (Bw key))
 obtain⟨V,hV⟩:=vE (Dt (Cq l) (Bw key))
 have HA:=J hA;have HV:=J hV;rw[<-hA, <-hV]
 obtain⟨k0,e9⟩:∃ k,k=Aj (Cr l).text:=⟨_,rfl⟩
 rw[<-e9]at e8 ⊢;clear hs hE0 h b1 a3 hn e7 hM hk hA hV e9;unfold vQ;go_in;go_wp2_with fail
 refine e8.o.mono ?_;rintro e w1 ⟨rfl,v1,f0⟩;have d8:=J f0;clear f0;unfold Ai.V;go_wp2_with (first|(refine Di Ac rfl rfl ?_;intro W5 f1 f2;refine Bt (vs:=n.cells) rfl rfl rfl rfl f1 (by rw[HL.o];rfl) (by rw[HL.o];exact Ab) n.one ?_;intro W6 f3 f4))
 refine vC (Zc _ key (kL HK.o)) λw7 K=>?_;have f5:Af w1 W6:=f2.O f4 kJ;have g9:=J ((d8.o.ext f5).ext K);have f6:=J (f3.Z K kI);have a5:=J (show (w1:Nat)≠g/\v1.ownBlock≠some (w1:Nat) from⟨kL d8.o.at'.var.lt,λe=>kL ((d8.o.at'.own _ e).2.2)⟩);have b2:Hid ((W:Nat)<=↑w1):=d8.o.kp.size
 obtain⟨L,hL⟩:=vE w1.heap.size
 rw[<-hL]at f6 a5 b2 ⊢;clear hL K f5 f1 f2 f3 f4
 obtain⟨pk,e1⟩:=vE (Bw key)
 have d9:=J e1;rw[<-e1];clear e1;go_wp2
 go_loopw [11,12] (λe2 pv wr=>yB w0 g L v W S A V e2 pv wr) (λe2 pv _=>Pc e2 pv)
 case atStart =>refine⟨pk,_,v1,rfl,g9.o,a5.o.2,.inl ⟨rfl,12,Cq l,d7.o,by rw[d9.o];exact BO key,by rw[d9.o,GB];have:=HK.o;omega,?_,by rw[d9.o, <-HV.o],by rw[<-HN.o];exact f6.o,λx hx _=>g8.o x hx⟩⟩;rw[HA.o,d9.o];rfl
 case round =>obtain⟨p,T,v',rfl,hT,d6,hc⟩:=hrel;have HT:=J hT;have Z:=J d6;have HE:=J (HT.o.ext0 HM.o g7.o (bO _));clear hT d6;rcases hc with⟨rfl,f,l',h1,h2,h3,h4,h5,h6,h7⟩|⟨rfl,h1,h2⟩;(case inr =>(have HF:=J (bA h1 h2);clear h1 h2;go_wp2);go_ret2;refine⟨by rw[HF.o.2];rfl,v',?_⟩;rw[<-HF.o.1];exact HT.o);case inl =>have HC:=J (kY h1 h2 h3 h4 h5 h7);have c9:=(good f l' h1).1;obtain⟨⟨k,pa,va,rs⟩,hn⟩:∃ n,n=Bj (An f) l':=⟨_,rfl⟩;rw[<-hn]at c9 h6;have f7:=J c9;have HB:=J h6;have f8:=J hn;have i2:k<=3:=(c9.one (Bm f)).kind;have e3:rs.length=16:=(c9.one (Bm f)).refs;have i3:pa.size<=12:=(c9.one (Bm f)).path;have i4:=J e3;have a2:=J (Ai.z3 ⟨k,pa,va,rs⟩ e3);have i5:p.size<=1000000:=vO;have q0:=h6.z1 (i:=0) (v:=.int .i64 k) vF;have q1:=h6.z1 (i:=1) (v:=.string pa) vF;have q2:=h6.z1 (i:=2) (v:=.string va) vF;have Q3:=J (show ∀ i r,rs[i]?=some r->wr.cell? ⟨L,3+i,none⟩=some (.string r)from λi r hi=>h6.z1 (i:=3+i) (v:=.string r) (by show (_::_::_::rs.map Value.string)[3+i]?=_;rw[show 3+i=i+1+1+1 by omega];simp[hi]));(clear hn e3 h1 h2 h4 h5 h6 h7 c9;have i6:(⟨#[]⟩:vB).toList.isEmpty=true:=by rw[cA];rfl);cases hg:Pz l' p with| none =>(obtain⟨s1,s2⟩:=LG HC.o.1 HC.o.b hg;(rw[<-f8.o]at s1 s2;have f9:Ip f l' p=[]:=by cases f with| zero=>rfl| succ f=>exact VT hg);have c0:=J (show T=A by rw[<-HC.o.d,f9,cC]);have b4:=J (show V=Np ⟨k,pa,va,rs⟩ p by rw[s2,HC.o.e]);clear f9 hg s2;cases hcl:Np ⟨k,pa,va,rs⟩ p with| some u =>(rw[hcl]at b4;have i0:=J (rF hcl);clear s1 hcl;rcases i0.o with⟨rfl,rfl,rfl⟩|⟨rfl,rfl,rfl,hz⟩;{have b3:wr.cell? L=some (.int .i64 1):=q0;(clear q0;go_wp2);go_ret2;refine⟨by rw[b4.o];rfl,v',by rw[<-c0.o];exact HT.o⟩};have b3:wr.cell? L=some (.int .i64 3):=q0;(have i7:va.toList.isEmpty=false:=by rw[dK];intro e;rw[fI,cA]at e;exact hz (by rw[<-Ja,e];rfl));(clear q0;go_wp2);go_ret2;refine⟨by rw[b4.o];rfl,v',by rw[<-c0.o];exact HT.o⟩)| none =>rw[hcl]at b4;have i1:=J (rG f7.o HC.o.b s1 hcl);clear s1 hcl;rcases i1.o with rfl|⟨rfl,g0⟩|⟨rfl,hpre⟩|⟨rfl,rfl,rfl⟩|⟨rfl,x,t,hx,hr⟩;{have b3:wr.cell? L=some (.int .i64 0):=q0;(clear q0;go_wp2_with fail);(refine vC (Zx _) λw2 K=>?_;have H:Hid (Af wr w2):=J (by first|exact K|exact (Qq _ _).trans K);clear K;go_wp2_with fail);(refine vH (Zr w2) λw3 K=>?_;have X:=J (H.o.trans K);have a0:=HB.o.Z X.o kI;clear H;unfold Ai.V;go_wp2_with (refine Bt (vs:=Cv.cells) rfl rfl rfl rfl a0 (by rw[a2.o];rfl) (by first|exact Ab|(rw[a2.o];exact Ab)) Cv.one ?_;intro W8 a7 a1));go_roundw;(case rel=>exact⟨_,T,v',rfl,(HT.o.ext X.o).fill a1 a5.o.1 Z.o b2.o,Z.o,.inr ⟨rfl,c0.o,b4.o⟩⟩);case measure=>simp[Pc]};{have b3:wr.cell? L=some (.int .i64 1):=q0;(have g0:=KA g0;clear q0;go_wp2_with fail);(refine vC (Zx _) λw2 K=>?_;have H:Hid (Af wr w2):=J (by first|exact K|exact (Qq _ _).trans K);clear K;go_wp2_with fail);(refine vH (Zr w2) λw3 K=>?_;have X:=J (H.o.trans K);have a0:=HB.o.Z X.o kI;clear H;unfold Ai.V;go_wp2_with (refine Bt (vs:=Cv.cells) rfl rfl rfl rfl a0 (by rw[a2.o];rfl) (by first|exact Ab|(rw[a2.o];exact Ab)) Cv.one ?_;intro W8 a7 a1));go_roundw;(case rel=>exact⟨_,T,v',rfl,(HT.o.ext X.o).fill a1 a5.o.1 Z.o b2.o,Z.o,.inr ⟨rfl,c0.o,b4.o⟩⟩);case measure=>simp[Pc]};{have b3:wr.cell? L=some (.int .i64 2):=q0;(have d2:=J hpre;clear q0 hpre;go_wp2_with fail);(refine (EA _ p pa vO vO).mono ?_;rintro e g2 ⟨rfl,b7⟩;rw[b7];clear b7;rw[d2.o];go_wp2_with fail);(refine vC (Zx _) λw2 K=>?_;have H:Hid (Af wr w2):=J (by first|exact K|exact (Qq _ _).trans K);clear K;go_wp2_with fail);(refine vH (Zr w2) λw3 K=>?_;have X:=J (H.o.trans K);have a0:=HB.o.Z X.o kI;clear H;unfold Ai.V;go_wp2_with (refine Bt (vs:=Cv.cells) rfl rfl rfl rfl a0 (by rw[a2.o];rfl) (by first|exact Ab|(rw[a2.o];exact Ab)) Cv.one ?_;intro W8 a7 a1));go_roundw;(case rel=>exact⟨_,T,v',rfl,(HT.o.ext X.o).fill a1 a5.o.1 Z.o b2.o,Z.o,.inr ⟨rfl,c0.o,b4.o⟩⟩);case measure=>simp[Pc]};{have b3:wr.cell? L=some (.int .i64 3):=q0;(clear q0;go_wp2_with fail);(refine vC (Zx _) λw2 K=>?_;have H:Hid (Af wr w2):=J (by first|exact K|exact (Qq _ _).trans K);clear K;go_wp2_with fail);(refine vH (Zr w2) λw3 K=>?_;have X:=J (H.o.trans K);have a0:=HB.o.Z X.o kI;clear H;unfold Ai.V;go_wp2_with (refine Bt (vs:=Cv.cells) rfl rfl rfl rfl a0 (by rw[a2.o];rfl) (by first|exact Ab|(rw[a2.o];exact Ab)) Cv.one ?_;intro W8 a7 a1));go_roundw;(case rel=>exact⟨_,T,v',rfl,(HT.o.ext X.o).fill a1 a5.o.1 Z.o b2.o,Z.o,.inr ⟨rfl,c0.o,b4.o⟩⟩);case measure=>simp[Pc]};have b3:wr.cell? L=some (.int .i64 3):=q0;obtain⟨h0,b8⟩:=Xo hx;(have a9:x.toNat<16:=Rr (p:=(p,p)) HC.o.b hx;have q3:=Q3.o _ _ hr;rw[<-b8]at q3 a9;have g3:p.toList.isEmpty=false:=by rw[dK];intro e;rw[fI,cA]at e;rw[hx]at e;cases e);have c1:(0:Int)<(p.size:Int):=vO;have c2:((p[0]'h0).toNat:Int)<16:=vO;have c3:(1:Int)<=(p.size:Int):=vO;(clear q0 hx hr b8;go_wp2_with fail);(go_quiet (fail));(go_wp2_with fail);(refine vC (Zx _) λw2 K=>?_;have H:Hid (Af wr w2):=J (by first|exact K|exact (Qq _ _).trans K);clear K;go_wp2_with fail);(refine vH (Zr w2) λw3 K=>?_;have X:=J (H.o.trans K);have a0:=HB.o.Z X.o kI;clear H;unfold Ai.V;go_wp2_with (refine Bt (vs:=Cv.cells) rfl rfl rfl rfl a0 (by rw[a2.o];rfl) (by first|exact Ab|(rw[a2.o];exact Ab)) Cv.one ?_;intro W8 a7 a1));go_roundw;(case rel=>exact⟨_,T,v',rfl,(HT.o.ext X.o).fill a1 a5.o.1 Z.o b2.o,Z.o,.inr ⟨rfl,c0.o,b4.o⟩⟩);case measure=>simp[Pc])| some mq =>obtain⟨m,q⟩:=mq;cases f with| zero=>rw[pI HC.o.1]at hg;cases hg| succ f =>have hK:=LH HC.o.1 HC.o.b hg;have d3:=(good f m hK.rows).2.1 hK.ne;have c7:=OT hK.rows hK.ne;have a4:=hK.step;rw[<-f8.o]at a4;have hy:=UR f7.o HC.o.b a4 c7;have b6:=VU (f:=f) hg;obtain⟨tx,c4⟩:=vE (An (f+1) m).text;obtain⟨m',d0⟩:∃ m',m'=Bj (An f) m:=⟨_,rfl⟩;obtain⟨rt,d1⟩:=vE (Ax (An (f+1) m).text);have e0:=J d0;have e4:=J (show Gn (Bx f) m' by rw[d0];exact d3.good);have b9:=J (m'.z3 (e4.o.one (Bm f)).refs);have g4:=J (show tx=Cu m' by rw[c4,d0];exact d3.text);rw[<-d1]at hy;have HY:=J hy;have O:=J hK;have g5:=J (show T.length<=100000 by have h8:=congrArg List.length HC.o.d;rw[HA.o,bK,bQ]at h8;have:=PI 12 (Cq l) (Bw key);omega);by_cases hz:(An (f+1) m).text.size<32;{have hI:=d3.may.2 hz;obtain⟨qh,h1,h2⟩:=(Bm (f+1)).nohash _ _ hI;rw[<-d1]at h1 h2 hI;have HH:=J (bA h1 h2);have d4:=J (show rt.size<=1000000000 by rw[d1,i8 hz];omega);have e5:=J (λw=>(Bm (f+1)).inl _ _ hI w);rw[<-d0]at e5;have d5:=J (show Ip (f+1) l' p=Ip f m q by rw[b6];unfold Gm;rw[if_pos hz];rfl);clear hK d3 c7 a4 hy b6 c4 d0 d1 hI h1 h2 hz hg;rcases HY.o with⟨rfl,hpre,hr,rfl,hle⟩|⟨rfl,x,t,hx,hr,rfl⟩;{have b3:wr.cell? L=some (.int .i64 2):=q0;have d2:=J hpre;have q3:=Q3.o 0 _ hr;have c1:(pa.size:Int)<=(p.size:Int):=vO;(clear q0 hpre hr hle;go_wp2_with fail);(refine (EA _ p pa vO vO).mono ?_;rintro e g2 ⟨rfl,b7⟩;rw[b7];clear b7;rw[d2.o];go_wp2_with fail);(go_quiet (fail));(go_wp2_with fail);(refine vC (Xc _ rt qh d4.o HH.o.1) λw2 K=>?_;rw[HH.o.2];have H:Hid (Af wr w2):=J (by first|exact K|exact (Qq _ _).trans K);clear K;unfold Cw;go_wp2_with fail);(refine vH (e5.o w2) λw3 K=>?_;have X:=J (H.o.trans K);have a0:=HB.o.Z X.o kI;clear H;unfold Ai.V;go_wp2_with (refine Bt (vs:=m'.cells) rfl rfl rfl rfl a0 (by rw[a2.o,b9.o]) (by rw[b9.o];exact Ab) m'.one ?_;intro W8 a7 a1));go_roundw;(case rel=>exact⟨_,T,v',rfl,(HT.o.ext X.o).fill a1 a5.o.1 Z.o b2.o,Z.o,.inl ⟨rfl,f,m,O.o.rows,O.o.valid,by have:=O.o.less;have:=HC.o.c;omega,by rw[<-d5.o];exact HC.o.d,by rw[O.o.find];exact HC.o.e,by rw[<-e0.o];exact a7,λx hx a8=>HC.o.I x (O.o.flat x hx a8) a8⟩⟩);case measure=>have h9:=O.o.less;simp only[Pc,AN];omega};have b3:wr.cell? L=some (.int .i64 3):=q0;obtain⟨h0,b8⟩:=Xo hx;(have a9:x.toNat<16:=Rr (p:=(p,p)) HC.o.b hx;have q3:=Q3.o _ _ hr;rw[<-b8]at q3 a9;have g3:p.toList.isEmpty=false:=by rw[dK];intro e;rw[fI,cA]at e;rw[hx]at e;cases e);have c1:(0:Int)<(p.size:Int):=vO;have c2:((p[0]'h0).toNat:Int)<16:=vO;have c3:(1:Int)<=(p.size:Int):=vO;(clear q0 hx hr b8;go_wp2_with fail);(go_quiet (fail));(go_wp2_with fail);(refine vC (Xc _ rt qh d4.o HH.o.1) λw2 K=>?_;rw[HH.o.2];have H:Hid (Af wr w2):=J (by first|exact K|exact (Qq _ _).trans K);clear K;unfold Cw;go_wp2_with fail);(refine vH (e5.o w2) λw3 K=>?_;have X:=J (H.o.trans K);have a0:=HB.o.Z X.o kI;clear H;unfold Ai.V;go_wp2_with (refine Bt (vs:=m'.cells) rfl rfl rfl rfl a0 (by rw[a2.o,b9.o]) (by rw[b9.o];exact Ab) m'.one ?_;intro W8 a7 a1));go_roundw;(case rel=>exact⟨_,T,v',rfl,(HT.o.ext X.o).fill a1 a5.o.1 Z.o b2.o,Z.o,.inl ⟨rfl,f,m,O.o.rows,O.o.valid,by have:=O.o.less;have:=HC.o.c;omega,by rw[<-d5.o];exact HC.o.d,by rw[O.o.find];exact HC.o.e,by rw[<-e0.o];exact a7,λx hx a8=>HC.o.I x (O.o.flat x hx a8) a8⟩⟩);case measure=>have h9:=O.o.less;simp only[Pc,AN];omega};obtain⟨qh,h1,h2⟩:=GI (Aj tx) (Rp _);(have c8:rt=Av (Aj tx):=by rw[d1,UP hz,c4]);rw[<-c8]at h1 h2;have HH:=J (bA h1 h2);have d4:=J (show rt.size<=1000000000 by rw[c8];have:=Mk (Aj tx);have:=Rp tx;omega);have d5:=J (show Ip (f+1) l' p=tx::Ip f m q by rw[b6,c4];unfold Gm;rw[if_neg hz];rfl);have g6:Hid (Md S tx):=(HC.o.I tx (by rw[c4];exact hK.flat _ (Yx _) vO) (by rw[c4];omega));clear hK d3 c7 a4 hy b6 c4 d0 d1 h1 h2 hz hg c8;rcases HY.o with⟨rfl,hpre,hr,rfl,hle⟩|⟨rfl,x,t,hx,hr,rfl⟩;{have b3:wr.cell? L=some (.int .i64 2):=q0;have d2:=J hpre;have q3:=Q3.o 0 _ hr;have c1:(pa.size:Int)<=(p.size:Int):=vO;(clear q0 hpre hr hle;go_wp2_with fail);(refine (EA _ p pa vO vO).mono ?_;rintro e g2 ⟨rfl,b7⟩;rw[b7];clear b7;rw[d2.o];go_wp2_with fail);(go_quiet (fail));(go_wp2_with fail);(refine vC (Xc _ rt qh d4.o HH.o.1) λw2 K=>?_;rw[HH.o.2];have H:Hid (Af wr w2):=J (by first|exact K|exact (Qq _ _).trans K);have c5:=J (HT.o.ext H.o);clear K;unfold Cw;go_wp2_with fail);refine (QE w0 w2 s bm room S HS.o (HE.o.trans H.o) g v' T c5.o.at' (kL g5.o) tx g6.o f m' e4.o g4.o).mono ?_;rintro e w3 ⟨rfl,v3,b5⟩;have a0:=b5.blk (HB.o.Z H.o kI) a5.o.1 Z.o;have b0:=J (show v3.ownBlock≠some L from λe=>by rcases b5.sub L e with e|e;{exact Z.o e};have:=HB.o.lt;have:=H.o.size;omega);(have e6:=J (c5.o.trans b5);clear b5 H c5;unfold Ai.V;go_wp2_with (refine Bt (vs:=m'.cells) rfl rfl rfl rfl a0 (by rw[a2.o,b9.o]) (by rw[b9.o];exact Ab) m'.one ?_;intro W8 a7 a1));go_roundw;(case rel=>exact⟨_,_,v3,rfl,e6.o.fill a1 a5.o.1 b0.o b2.o,b0.o,.inl ⟨rfl,f,m,O.o.rows,O.o.valid,by have:=O.o.less;have:=HC.o.c;omega,by have h9:=HC.o.d;rw[d5.o]at h9;rw[bZ];exact h9,by rw[O.o.find];exact HC.o.e,by rw[<-e0.o];exact a7,λx hx a8=>HC.o.I x (O.o.flat x hx a8) a8⟩⟩);case measure=>have h9:=O.o.less;simp only[Pc,AN];omega};have b3:wr.cell? L=some (.int .i64 3):=q0;obtain⟨h0,b8⟩:=Xo hx;(have a9:x.toNat<16:=Rr (p:=(p,p)) HC.o.b hx;have q3:=Q3.o _ _ hr;rw[<-b8]at q3 a9;have g3:p.toList.isEmpty=false:=by rw[dK];intro e;rw[fI,cA]at e;rw[hx]at e;cases e);have c1:(0:Int)<(p.size:Int):=vO;have c2:((p[0]'h0).toNat:Int)<16:=vO;have c3:(1:Int)<=(p.size:Int):=vO;(clear q0 hx hr b8;go_wp2_with fail);(go_quiet (fail));(go_wp2_with fail);(refine vC (Xc _ rt qh d4.o HH.o.1) λw2 K=>?_;rw[HH.o.2];have H:Hid (Af wr w2):=J (by first|exact K|exact (Qq _ _).trans K);have c5:=J (HT.o.ext H.o);clear K;unfold Cw;go_wp2_with fail);refine (QE w0 w2 s bm room S HS.o (HE.o.trans H.o) g v' T c5.o.at' (kL g5.o) tx g6.o f m' e4.o g4.o).mono ?_;rintro e w3 ⟨rfl,v3,b5⟩;have a0:=b5.blk (HB.o.Z H.o kI) a5.o.1 Z.o;have b0:=J (show v3.ownBlock≠some L from λe=>by rcases b5.sub L e with e|e;{exact Z.o e};have:=HB.o.lt;have:=H.o.size;omega);(have e6:=J (c5.o.trans b5);clear b5 H c5;unfold Ai.V;go_wp2_with (refine Bt (vs:=m'.cells) rfl rfl rfl rfl a0 (by rw[a2.o,b9.o]) (by rw[b9.o];exact Ab) m'.one ?_;intro W8 a7 a1));go_roundw;(case rel=>exact⟨_,_,v3,rfl,e6.o.fill a1 a5.o.1 b0.o b2.o,b0.o,.inl ⟨rfl,f,m,O.o.rows,O.o.valid,by have:=O.o.less;have:=HC.o.c;omega,by have h9:=HC.o.d;rw[d5.o]at h9;rw[bZ];exact h9,by rw[O.o.find];exact HC.o.e,by rw[<-e0.o];exact a7,λx hx a8=>HC.o.I x (O.o.flat x hx a8) a8⟩⟩);case measure=>have h9:=O.o.less;simp only[Pc,AN];omega
end
section
open Go Go.RowKit
theorem L9{d:Nat}{p q:vB}(hg:Gn (Bx d) n)(hp:Dy p=true)(hs:Rv n p=(r,q))(hr:r.size≠0):Gj (Bx d) r/\q.size<p.size/\Dy q=true:=by
 obtain⟨k,H,X,K⟩:=n
 have O:=UR hg hp hs hr;rcases O with⟨rfl,h1,h2,rfl,h3⟩|⟨rfl,x,t,h1,h2,rfl⟩
 ·cases hg with| ext p' r' a1 a2 a3 =>(have e:r'=r:=bV h2;subst e;have A:1<=H.size:=by unfold Ai.y2 at a1;simp only[cI,decide_eq_true_eq]at a1;exact a1.1.1);refine⟨a3.imp id λ⟨m,h,_⟩=>⟨m,h⟩,by rw[Jw];omega,Qo hp _ _⟩
 ·cases hg with| branch v K a1 a2 a3 a4 =>(have A:0<p.size:=by have:=congrArg List.length h1;rw[Ja]at this;simp at this;omega);exact⟨a3 r (bD h2) hr,by rw[Jw];omega,Qo hp _ _⟩
end
section
open Go Go.RowKit
attribute [local go_sem] Oper.semAt_some
theorem uY(x:vB):vQ 84 #[x] W λe w'=>e=.returned (.tuple #[])/\w'=W:=by
 unfold vQ;go_in;go_wp2_with fail
 refine bodyPost_end (results_none rfl _ _ _) rfl ?_
 exact⟨rfl,rfl⟩
theorem sK(room:Int)(S:vT)(hs:Ev W s bm room S)(k:vB)(y:Gk)(hy:Be S k.data.toList=some y)(f:Nat)(n:Ai)(hg:Gn (Bx f) n)(ht:y.2.2.text=Cu n):vR 135 #[s,k,.func (.func 84) #[] #[]] W (.tuple #[n.V,true]):=by
 have hn:=(hg.one (Bm f)).refs;have HN:=J hn;have HG:=J hg;have HL:=J (n.z3 hn);have q:=λw (h:Ev w s bm room S)=>AL w s bm room S k h;rw[hy]at q;simp only[fP,Cw]at q;have O:=J q;have HS:=J hs
 obtain⟨t,X⟩:=vE y.2.2.text
 rw[<-X]at O ht;have HT:=J ht;clear q hs hg ht hn hy X;unfold vR vQ;go_in;go_wp2_with (refine Di Ac rfl rfl ?_;intro W1 Z H)
 refine vC (O.o W1 (HS.o.ext H)) λw3 K=>?_;have a1:=J (Z.Z K kI);have a2:=J (H.trans K);clear K Z H;go_wp2_with fail
 refine (uY w3 t).mono ?_;rintro e w4 ⟨rfl,rfl⟩;go_wp2_with fail
 rw[HT.o];refine vC (AJ (Bm f) w4 n HG.o) λw5 K=>?_;rw[<-HT.o];have A:=a1.o.Z K kI;have a3:=J K;clear K a1;unfold Ai.V;go_wp2_with (first|(refine Di Ac rfl rfl ?_;intro W5 a7 a4;refine Bt (vs:=n.cells) rfl rfl rfl rfl a7 (by rw[HL.o];rfl) (by rw[HL.o];exact Ab) n.one ?_;intro W6 a8 a5;have a0:=(A.Z a4 kI).Z a5 (kL A.lt))|(refine Gz 215 (.tmp 10) rfl rfl _ _ rfl (Ka _ _ n HN.o a8) ?_)|(refine Bt (vs:=n.cells) rfl rfl rfl rfl a0 (by rw[HL.o];rfl) (by rw[HL.o];exact Ab) n.one ?_;intro W8 a9 b0))
 refine bodyPost_ret (Ot rfl rfl rfl (Qb W8 _ n HN.o a9)) rfl ?_;have b1:Af W W6:=(((a2.o.trans a3.o).trans a4)).O a5 (λx hx e=>by have e:x=(w5:Nat):=e;have:=a3.o.size;have:=a2.o.size;omega)
 exact⟨rfl,b1.O b0 kJ⟩
noncomputable def Iz(S:vT):Nat->Ai->vB->Option vB
 |0,_,_=>none
 |f+1,n,p=>match Np n p with
  |some u=>some u
  |none=>if (Rv n p).1.size=0 then none else (Bp S (Rv n p).1).bind λm=>Iz S f m (Rv n p).2
theorem OD{p u:vB}(h:Np n p=some u):Iz S (f+1) n p=some u:=by
 rw[Iz,h]
theorem OC{p:vB}(h:Np n p=none):Iz S (f+1) n p=if (Rv n p).1.size=0 then none else (Bp S (Rv n p).1).bind λm=>Iz S f m (Rv n p).2:=by
 rw[Iz,h]
def yA(W:vW)(L:Nat)(S:vT)(V:Option vB)(okv pv:vV)(wr:vW):Prop:=
 ∃ (p:vB),pv=.string p/\Af W wr /\
  ((okv=.bool true/\∃ f d n,Gn (Bx d) n/\Dy p=true/\p.size<=2000/\p.size<f/\Iz S f n p=V/\Ae wr L (.cells n.cells.toArray 215)) \/
  (okv=.bool false/\V=none))
theorem Zf{W W'':vW}{L:Nat}(h:Af W W')(e:Ad (λb=>b=L) W' W'')(h3:(W:Nat)<=L):Af W W'':=
 h.O e (λx q y=>by have y:x=L:=y;omega)
theorem i9(room:Int)(S:vT)(hs:Ev W s bm room S)(hN:AH S)(root:vB)(y:Gk)(hy:Be S root.data.toList=some y)(key:vB)(hk:key.size<=1000):vR 83 #[s,root,key,.func (.func 84) #[] #[]] W (Kg (Iz S ((Bw key).size+1) (Bq y.2.2.text) (Bw key))):=by
 have f5:=J hN;have HS:=J hs
 obtain⟨n0,d9⟩:=hN y (Fd hy).1
 obtain⟨ht,d,hg⟩:=Vm d9
 obtain⟨n,hn⟩:=vE (Bq y.2.2.text)
 rw[<-hn]at ht hg ⊢;have HG:=J hg;have e0:=sK W s bm room S hs root y hy d n hg ht;have f6:=J e0;have HL:=J (n.z3 (hg.one (Bm d)).refs);have HK:=J hk
 obtain⟨V,hV⟩:=vE (Iz S ((Bw key).size+1) n (Bw key))
 have HV:=J hV;rw[<-hV];clear hs hg hn e0 hk hV hN hy d9 ht;unfold vR vQ;go_in;go_wp2_with fail
 refine f6.o.mono ?_;rintro e w1 ⟨rfl,e1⟩;have e2:=J e1;clear e1;unfold Ai.V;go_wp2_with (first|(refine Di Ac rfl rfl ?_;intro W5 e3 e4;refine Bt (vs:=n.cells) rfl rfl rfl rfl e3 (by rw[HL.o];rfl) (by rw[HL.o];exact Ab) n.one ?_;intro W6 e5 e6))
 refine vC (Zc _ key (kL HK.o)) λw7 H=>?_;have e7:Af w1 W6:=e4.O e6 kJ;have f7:=J ((e2.o.trans e7).trans H);have e8:=J (e5.Z H kI);have a5:Hid ((W:Nat)<=↑w1):=e2.o.size
 obtain⟨L,hL⟩:=vE w1.heap.size
 rw[<-hL]at e8 a5 ⊢;clear hL H e7 e3 e4 e5 e6
 obtain⟨pk,c8⟩:=vE (Bw key)
 have c9:=J c8;rw[<-c8];clear c8;go_wp2
 go_loopw [11,12] (λd0 pv wr=>yA W L S V d0 pv wr) (λd0 pv _=>Pc d0 pv)
 case atStart =>exact⟨pk,rfl,f7.o,.inl ⟨rfl,pk.size+1,d,n,HG.o,by rw[c9.o];exact BO key,by rw[c9.o,GB];have:=HK.o;omega,Nat.lt_succ_self _,by rw[c9.o, <-HV.o],e8.o⟩⟩
 case round =>obtain⟨p,rfl,hT,hc⟩:=hrel;have HE:=J hT;clear hT;rcases hc with⟨rfl,f0,dn,m0,h1,h2,h3,h3f,h4,h6⟩|⟨rfl,h2⟩;(case inr =>(have HF:=J h2;clear h2;go_wp2);go_ret2;exact⟨by rw[HF.o];rfl,HE.o⟩);case inl =>obtain⟨f,rfl⟩:∃ f,f0=f+1:=⟨f0-1,by omega⟩;obtain⟨k,pa,va,rs⟩:=m0;have HC:=J (kT h2 h3 h3f);have e9:=J h4;have d1:=J h1;have HB:=J h6;have g2:k<=3:=(h1.one (Bm dn)).kind;have d3:rs.length=16:=(h1.one (Bm dn)).refs;have g3:pa.size<=12:=(h1.one (Bm dn)).path;have g4:=J d3;have Z:=J (Ai.z3 ⟨k,pa,va,rs⟩ d3);have g5:p.size<=1000000:=vO;have q0:=h6.z1 (i:=0) (v:=.int .i64 k) vF;have q1:=h6.z1 (i:=1) (v:=.string pa) vF;have q2:=h6.z1 (i:=2) (v:=.string va) vF;have Q3:=J (show ∀ i r,rs[i]?=some r->wr.cell? ⟨L,3+i,none⟩=some (.string r)from λi r hi=>h6.z1 (i:=3+i) (v:=.string r) (by show (_::_::_::rs.map Value.string)[3+i]?=_;rw[show 3+i=i+1+1+1 by omega];simp[hi]));(clear d3 h1 h2 h3 h3f h4 h6;have g6:(⟨#[]⟩:vB).toList.isEmpty=true:=by rw[cA];rfl);cases hcl:Np ⟨k,pa,va,rs⟩ p with| some u =>(have a8:=J (show V=some u by rw[<-e9.o,OD hcl]);have f8:=J (rF hcl);clear hcl;rcases f8.o with⟨rfl,rfl,rfl⟩|⟨rfl,rfl,rfl,hz⟩;{have a7:wr.cell? L=some (.int .i64 1):=q0;(clear q0;go_wp2);go_ret2;exact⟨by rw[a8.o];rfl,HE.o⟩};have a7:wr.cell? L=some (.int .i64 3):=q0;(have g7:va.toList.isEmpty=false:=by rw[dK];intro e;rw[fI,cA]at e;exact hz (by rw[<-Ja,e];rfl));(clear q0;go_wp2);go_ret2;exact⟨by rw[a8.o];rfl,HE.o⟩)| none =>have a9:=e9.o;rw[OC hcl]at a9;obtain⟨r,q,b3⟩:∃ r q,Rv ⟨k,pa,va,rs⟩ p=(r,q):=⟨_,_,rfl⟩;rw[b3]at a9;simp only at a9;by_cases hr0:r.size=0;{rw[if_pos hr0]at a9;have f1:=Ov hr0;rw[f1]at b3;have f9:=J (rG d1.o HC.o.1 b3 hcl);have a8:=J a9.symm;clear hcl a9 b3 hr0 f1;rcases f9.o with rfl|⟨rfl,f2⟩|⟨rfl,hpre⟩|⟨rfl,rfl,rfl⟩|⟨rfl,x,t,hx,hr⟩;{have a7:wr.cell? L=some (.int .i64 0):=q0;(clear q0;go_wp2_with fail);(refine vC (Zx _) λw2 H=>?_;have A:Hid (Af wr w2):=J (by first|exact H|exact (Qq _ _).trans H);clear H;go_wp2_with fail);(refine vH (Zr w2) λw3 H=>?_;have K:=J (A.o.trans H);have O:=HB.o.Z K.o kI;clear A;unfold Ai.V;go_wp2_with (refine Bt (vs:=Cv.cells) rfl rfl rfl rfl O (by rw[Z.o];rfl) (by first|exact Ab|(rw[Z.o];exact Ab)) Cv.one ?_;intro W8 a3 X));go_roundw;(case rel=>exact⟨_,rfl,Zf (HE.o.trans K.o) X a5.o,.inr ⟨rfl,a8.o⟩⟩);case measure=>simp[Pc]};{have a7:wr.cell? L=some (.int .i64 1):=q0;(have f2:=KA f2;clear q0;go_wp2_with fail);(refine vC (Zx _) λw2 H=>?_;have A:Hid (Af wr w2):=J (by first|exact H|exact (Qq _ _).trans H);clear H;go_wp2_with fail);(refine vH (Zr w2) λw3 H=>?_;have K:=J (A.o.trans H);have O:=HB.o.Z K.o kI;clear A;unfold Ai.V;go_wp2_with (refine Bt (vs:=Cv.cells) rfl rfl rfl rfl O (by rw[Z.o];rfl) (by first|exact Ab|(rw[Z.o];exact Ab)) Cv.one ?_;intro W8 a3 X));go_roundw;(case rel=>exact⟨_,rfl,Zf (HE.o.trans K.o) X a5.o,.inr ⟨rfl,a8.o⟩⟩);case measure=>simp[Pc]};{have a7:wr.cell? L=some (.int .i64 2):=q0;(have b7:=J hpre;clear q0 hpre;go_wp2_with fail);(refine (EA _ p pa vO vO).mono ?_;rintro e d4 ⟨rfl,b0⟩;rw[b0];clear b0;rw[b7.o];go_wp2_with fail);(refine vC (Zx _) λw2 H=>?_;have A:Hid (Af wr w2):=J (by first|exact H|exact (Qq _ _).trans H);clear H;go_wp2_with fail);(refine vH (Zr w2) λw3 H=>?_;have K:=J (A.o.trans H);have O:=HB.o.Z K.o kI;clear A;unfold Ai.V;go_wp2_with (refine Bt (vs:=Cv.cells) rfl rfl rfl rfl O (by rw[Z.o];rfl) (by first|exact Ab|(rw[Z.o];exact Ab)) Cv.one ?_;intro W8 a3 X));go_roundw;(case rel=>exact⟨_,rfl,Zf (HE.o.trans K.o) X a5.o,.inr ⟨rfl,a8.o⟩⟩);case measure=>simp[Pc]};{have a7:wr.cell? L=some (.int .i64 3):=q0;(clear q0;go_wp2_with fail);(refine vC (Zx _) λw2 H=>?_;have A:Hid (Af wr w2):=J (by first|exact H|exact (Qq _ _).trans H);clear H;go_wp2_with fail);(refine vH (Zr w2) λw3 H=>?_;have K:=J (A.o.trans H);have O:=HB.o.Z K.o kI;clear A;unfold Ai.V;go_wp2_with (refine Bt (vs:=Cv.cells) rfl rfl rfl rfl O (by rw[Z.o];rfl) (by first|exact Ab|(rw[Z.o];exact Ab)) Cv.one ?_;intro W8 a3 X));go_roundw;(case rel=>exact⟨_,rfl,Zf (HE.o.trans K.o) X a5.o,.inr ⟨rfl,a8.o⟩⟩);case measure=>simp[Pc]};have a7:wr.cell? L=some (.int .i64 3):=q0;obtain⟨h0,b1⟩:=Xo hx;(have a2:x.toNat<16:=Rr (p:=(p,p)) HC.o.1 hx;have q3:=Q3.o _ _ hr;rw[<-b1]at q3 a2;have d5:p.toList.isEmpty=false:=by rw[dK];intro e;rw[fI,cA]at e;rw[hx]at e;cases e);have c1:(0:Int)<(p.size:Int):=vO;have c2:((p[0]'h0).toNat:Int)<16:=vO;have c3:(1:Int)<=(p.size:Int):=vO;(clear q0 hx hr b1;go_wp2_with fail);(go_quiet (fail));(go_wp2_with fail);(refine vC (Zx _) λw2 H=>?_;have A:Hid (Af wr w2):=J (by first|exact H|exact (Qq _ _).trans H);clear H;go_wp2_with fail);(refine vH (Zr w2) λw3 H=>?_;have K:=J (A.o.trans H);have O:=HB.o.Z K.o kI;clear A;unfold Ai.V;go_wp2_with (refine Bt (vs:=Cv.cells) rfl rfl rfl rfl O (by rw[Z.o];rfl) (by first|exact Ab|(rw[Z.o];exact Ab)) Cv.one ?_;intro W8 a3 X));go_roundw;(case rel=>exact⟨_,rfl,Zf (HE.o.trans K.o) X a5.o,.inr ⟨rfl,a8.o⟩⟩);case measure=>simp[Pc]};rw[if_neg hr0]at a9;have c7:=J a9;obtain⟨b8,a4,b5⟩:=L9 d1.o HC.o.1 b3 hr0;(have a1:=J (bA a4 b5);have g0:=J (show r.size<=1000000000 by have:=b8.size (Bm dn);omega);have HY:=J (UR d1.o HC.o.1 b3 hr0);have c5:Yf r:=by rcases b8 with⟨x,h1,h2⟩|⟨m,hi⟩;{intro e;obtain⟨q,h3,_⟩:=GI x h1;rw[<-h2,e]at h3;cases h3};intro e;obtain⟨q,h1,_⟩:=(Bm dn).nohash r m hi;rw[e]at h1;cases h1);have a0:=λw=>KI w r g0.o c5;clear c5;rcases b8 with hh|⟨m,hi⟩;(case inr =>cases dn with| zero=>exact hi.elim| succ dn =>have b6:=ED (Bm (dn+1)) hi;have b9:=J (show Iz S f m q=V by rw[<-c7.o];unfold Bp;rw[b6];show _=Iz S f (Ti r) q;rw[US W hi]);have f3:=J (λw=>(Bm (dn+1)).inl _ _ hi w);have c0:=J hi.1;have b4:=J (m.z3 (hi.1.one (Bm dn)).refs);rw[HJ,b6]at a0;simp only[Cw]at a0;have HH:=J a0;clear a0 b6 hi hcl a9 a4 b5 hr0 b3;rcases HY.o with⟨rfl,hpre,hr,rfl,hle⟩|⟨rfl,x,t,hx,hr,rfl⟩;{have a7:wr.cell? L=some (.int .i64 2):=q0;have b7:=J hpre;have q3:=Q3.o 0 _ hr;have c1:(pa.size:Int)<=(p.size:Int):=vO;(clear q0 hpre hr hle;go_wp2_with fail);(refine (EA _ p pa vO vO).mono ?_;rintro e d4 ⟨rfl,b0⟩;rw[b0];clear b0;rw[b7.o];go_wp2_with fail);(go_quiet (fail));(go_wp2_with fail);(refine vC (HH.o _) λw2 H=>?_;have A:Hid (Af wr w2):=J (by first|exact H|exact (Qq _ _).trans H);clear H;go_wp2_with fail);(refine vH (f3.o w2) λw3 H=>?_;have K:=J (A.o.trans H);have O:=HB.o.Z K.o kI;clear A;unfold Ai.V;go_wp2_with (refine Bt (vs:=m.cells) rfl rfl rfl rfl O (by rw[Z.o,b4.o]) (by rw[b4.o];exact Ab) m.one ?_;intro W8 a3 X));go_roundw;(case rel=>exact⟨_,rfl,Zf (HE.o.trans K.o) X a5.o,.inl ⟨rfl,f,dn,m,c0.o,a1.o.2,by have:=a1.o.1;have:=HC.o.b;omega,by have:=a1.o.1;have:=HC.o.C;omega,b9.o,a3⟩⟩);case measure=>have h9:=a1.o.1;simp only[Pc,AN];omega};have a7:wr.cell? L=some (.int .i64 3):=q0;obtain⟨h0,b1⟩:=Xo hx;(have a2:x.toNat<16:=Rr (p:=(p,p)) HC.o.1 hx;have q3:=Q3.o _ _ hr;rw[<-b1]at q3 a2;have d5:p.toList.isEmpty=false:=by rw[dK];intro e;rw[fI,cA]at e;rw[hx]at e;cases e);have c1:(0:Int)<(p.size:Int):=vO;have c2:((p[0]'h0).toNat:Int)<16:=vO;have c3:(1:Int)<=(p.size:Int):=vO;(clear q0 hx hr b1;go_wp2_with fail);(go_quiet (fail));(go_wp2_with fail);(refine vC (HH.o _) λw2 H=>?_;have A:Hid (Af wr w2):=J (by first|exact H|exact (Qq _ _).trans H);clear H;go_wp2_with fail);(refine vH (f3.o w2) λw3 H=>?_;have K:=J (A.o.trans H);have O:=HB.o.Z K.o kI;clear A;unfold Ai.V;go_wp2_with (refine Bt (vs:=m.cells) rfl rfl rfl rfl O (by rw[Z.o,b4.o]) (by rw[b4.o];exact Ab) m.one ?_;intro W8 a3 X));go_roundw;(case rel=>exact⟨_,rfl,Zf (HE.o.trans K.o) X a5.o,.inl ⟨rfl,f,dn,m,c0.o,a1.o.2,by have:=a1.o.1;have:=HC.o.b;omega,by have:=a1.o.1;have:=HC.o.C;omega,b9.o,a3⟩⟩);case measure=>have h9:=a1.o.1;simp only[Pc,AN];omega);case inl =>obtain⟨h,h1,h2⟩:=hh;(have b6:Lf r=some h:=by rw[h2];exact JZ h1);(rw[HJ,b6]at a0;simp only[Cw]at a0;have HH:=J a0;have d6:Bp S r=Kn S h:=by unfold Bp;rw[b6];rfl);rw[d6]at c7;cases ha:Be S h.data.toList with| none =>(have a8:=J (show V=none by rw[<-c7.o];unfold Kn;rw[ha];rfl);have b2:=J (λw (e:Af W w)=>sJ w s bm room S (HS.o.ext e) (.func (.func 84) #[] #[]) h ha);clear a0 b6 h1 h2 hcl a9 a4 b5 hr0 b3 d6 ha;rcases HY.o with⟨rfl,hpre,hr,rfl,hle⟩|⟨rfl,x,t,hx,hr,rfl⟩;{have a7:wr.cell? L=some (.int .i64 2):=q0;have b7:=J hpre;have q3:=Q3.o 0 _ hr;have c1:(pa.size:Int)<=(p.size:Int):=vO;(clear q0 hpre hr hle;go_wp2_with fail);(refine (EA _ p pa vO vO).mono ?_;rintro e d4 ⟨rfl,b0⟩;rw[b0];clear b0;rw[b7.o];go_wp2_with fail);(go_quiet (fail));(go_wp2_with fail);(refine vC (HH.o _) λw2 H=>?_;have A:Hid (Af wr w2):=J (by first|exact H|exact (Qq _ _).trans H);clear H;go_wp2_with fail);(refine vH (b2.o w2 (HE.o.trans A.o)) λw3 H=>?_;have K:=J (A.o.trans H);have O:=HB.o.Z K.o kI;clear A;unfold Ai.V;go_wp2_with (refine Bt (vs:=Cv.cells) rfl rfl rfl rfl O (by rw[Z.o];rfl) (by first|exact Ab|(rw[Z.o];exact Ab)) Cv.one ?_;intro W8 a3 X));go_roundw;(case rel=>exact⟨_,rfl,Zf (HE.o.trans K.o) X a5.o,.inr ⟨rfl,a8.o⟩⟩);case measure=>simp[Pc]};have a7:wr.cell? L=some (.int .i64 3):=q0;obtain⟨h0,b1⟩:=Xo hx;(have a2:x.toNat<16:=Rr (p:=(p,p)) HC.o.1 hx;have q3:=Q3.o _ _ hr;rw[<-b1]at q3 a2;have d5:p.toList.isEmpty=false:=by rw[dK];intro e;rw[fI,cA]at e;rw[hx]at e;cases e);have c1:(0:Int)<(p.size:Int):=vO;have c2:((p[0]'h0).toNat:Int)<16:=vO;have c3:(1:Int)<=(p.size:Int):=vO;(clear q0 hx hr b1;go_wp2_with fail);(go_quiet (fail));(go_wp2_with fail);(refine vC (HH.o _) λw2 H=>?_;have A:Hid (Af wr w2):=J (by first|exact H|exact (Qq _ _).trans H);clear H;go_wp2_with fail);(refine vH (b2.o w2 (HE.o.trans A.o)) λw3 H=>?_;have K:=J (A.o.trans H);have O:=HB.o.Z K.o kI;clear A;unfold Ai.V;go_wp2_with (refine Bt (vs:=Cv.cells) rfl rfl rfl rfl O (by rw[Z.o];rfl) (by first|exact Ab|(rw[Z.o];exact Ab)) Cv.one ?_;intro W8 a3 X));go_roundw;(case rel=>exact⟨_,rfl,Zf (HE.o.trans K.o) X a5.o,.inr ⟨rfl,a8.o⟩⟩);case measure=>simp[Pc])| some y2 =>obtain⟨n2,f4⟩:=f5.o y2 (Fd ha).1;obtain⟨d7,d2,c4⟩:=Vm f4;(have d8:Iz S f (Bq y2.2.2.text) q=V:=by rw[<-c7.o];unfold Kn;rw[ha];rfl);obtain⟨m,hm⟩:=vE (Bq y2.2.2.text);rw[<-hm]at d7 c4 d8;have b9:=J d8;have b2:=J (λw (e:Af W w)=>sK w s bm room S (HS.o.ext e) h y2 ha d2 m c4 d7);have c0:=J c4;have b4:=J (m.z3 (c4.one (Bm d2)).refs);clear a0 b6 h1 h2 hcl a9 a4 b5 hr0 b3 d6 ha f4 d7 c4 d8 hm;rcases HY.o with⟨rfl,hpre,hr,rfl,hle⟩|⟨rfl,x,t,hx,hr,rfl⟩;{have a7:wr.cell? L=some (.int .i64 2):=q0;have b7:=J hpre;have q3:=Q3.o 0 _ hr;have c1:(pa.size:Int)<=(p.size:Int):=vO;(clear q0 hpre hr hle;go_wp2_with fail);(refine (EA _ p pa vO vO).mono ?_;rintro e d4 ⟨rfl,b0⟩;rw[b0];clear b0;rw[b7.o];go_wp2_with fail);(go_quiet (fail));(go_wp2_with fail);(refine vC (HH.o _) λw2 H=>?_;have A:Hid (Af wr w2):=J (by first|exact H|exact (Qq _ _).trans H);clear H;go_wp2_with fail);(refine vH (b2.o w2 (HE.o.trans A.o)) λw3 H=>?_;have K:=J (A.o.trans H);have O:=HB.o.Z K.o kI;clear A;unfold Ai.V;go_wp2_with (refine Bt (vs:=m.cells) rfl rfl rfl rfl O (by rw[Z.o,b4.o]) (by rw[b4.o];exact Ab) m.one ?_;intro W8 a3 X));go_roundw;(case rel=>exact⟨_,rfl,Zf (HE.o.trans K.o) X a5.o,.inl ⟨rfl,f,d2,m,c0.o,a1.o.2,by have:=a1.o.1;have:=HC.o.b;omega,by have:=a1.o.1;have:=HC.o.C;omega,b9.o,a3⟩⟩);case measure=>have h9:=a1.o.1;simp only[Pc,AN];omega};have a7:wr.cell? L=some (.int .i64 3):=q0;obtain⟨h0,b1⟩:=Xo hx;(have a2:x.toNat<16:=Rr (p:=(p,p)) HC.o.1 hx;have q3:=Q3.o _ _ hr;rw[<-b1]at q3 a2;have d5:p.toList.isEmpty=false:=by rw[dK];intro e;rw[fI,cA]at e;rw[hx]at e;cases e);have c1:(0:Int)<(p.size:Int):=vO;have c2:((p[0]'h0).toNat:Int)<16:=vO;have c3:(1:Int)<=(p.size:Int):=vO;(clear q0 hx hr b1;go_wp2_with fail);(go_quiet (fail));(go_wp2_with fail);(refine vC (HH.o _) λw2 H=>?_;have A:Hid (Af wr w2):=J (by first|exact H|exact (Qq _ _).trans H);clear H;go_wp2_with fail);(refine vH (b2.o w2 (HE.o.trans A.o)) λw3 H=>?_;have K:=J (A.o.trans H);have O:=HB.o.Z K.o kI;clear A;unfold Ai.V;go_wp2_with (refine Bt (vs:=m.cells) rfl rfl rfl rfl O (by rw[Z.o,b4.o]) (by rw[b4.o];exact Ab) m.one ?_;intro W8 a3 X));go_roundw;(case rel=>exact⟨_,rfl,Zf (HE.o.trans K.o) X a5.o,.inl ⟨rfl,f,d2,m,c0.o,a1.o.2,by have:=a1.o.1;have:=HC.o.b;omega,by have:=a1.o.1;have:=HC.o.C;omega,b9.o,a3⟩⟩);case measure=>have h9:=a1.o.1;simp only[Pc,AN];omega
def Kj(l:vL)(key:vB):vM:=(Cr l).text::Ip 12 (Cq l) (Bw key)
def IR(N:vM)(w:vW)(e:Ending)(w':vW):Prop:=∃ a c,e=.returned (.tuple #[.slice a N.length c,qa])/\Cg w w' (.slice a N.length c) N.length N
theorem Ar.since{T:TypeId}{w:vW}{n:Nat}{xs:List vV}(h:Ar T sz w1 w v n xs)(e:Af w0 w1):Ar T sz w0 w v n xs:=⟨h.sl,h.own,e.trans h.ext,λb hb=>bH e.size (h.new b hb)⟩
theorem V4(room:Int)(S:vT)(hs:Ev W s bm room S)(l:vL)(hM:Iy S l)(key:vB)(hk:key.size<=1000):vQ 86 #[s,Aj (Cr l).text,key] W (IR (Kj l key) W):=by
 obtain⟨k0,H⟩:∃ k,k=Aj (Cr l).text:=⟨_,rfl⟩
 have a0:=J H;have HS:=J hs;have HM:=J hM;have HK:=J hk
 obtain⟨N,hN⟩:=vE (Kj l key)
 have HN:=J hN;rw[<-H, <-hN];clear H hs hM hk hN;unfold vQ;go_in;go_wp2_with fail
 have hE:=(Aa W).alloc (.cells #[qe] 51);have hB:=Ae.new W (.cells #[qe] 51);have K:Vb W W qe [] (W.alloc (.cells #[qe] 51)):=⟨bO _,hB,⟨0,rfl,.inl ⟨rfl,rfl⟩⟩,λb hb=>by cases hb⟩;have hF:=t3 W _ s bm room S HS.o hE W qe K l HM.o key HK.o;rw[<-a0.o]at hF;have a1:=J K;have HE:=J hE
 obtain⟨V,hV⟩:=vE (Dt (Cq l) (Bw key))
 rw[<-hV]at hF;clear hB K hE hV;refine hF.mono ?_;rintro e w2 ⟨rfl,v',O⟩;have HT:=J O
 obtain⟨n,X⟩:=O.at'.row
 have a2:n=(Kj l key).length:=by have:=X.1;simpa [Kj]using this.symm
 subst a2
 obtain⟨a,c,Z⟩:=Ir X
 have q:=O.at'.var.cell (i:=0) (v:=v') vF;have HO:=J X;have A:Cg W w2 v' (Kj l key).length (Kj l key):=⟨⟨a,c,Z⟩,X,O.ext0 a1.o HE.o (bO _),λb hb=>(O.at'.own b hb).1⟩;have HF:=J A;subst Z;rw[<-HN.o]at q HF;clear hF O X A HO HT;cases V with
 |none =>(unfold Kg;go_wp2);go_ret2;exact⟨_,_,rfl,HF.o⟩
 |some u =>(unfold Kg;go_wp2);go_ret2;exact⟨_,_,rfl,HF.o⟩
theorem o0(room:Int)(S:vT)(hs:Ev W s bm room S)(l:vL)(hM:Iy S l)(key:vB)(hk:key.size<=1000):vQ 40 #[s,Aj (Cr l).text,key] W (IR (Kj l key) W):=by
 obtain⟨y,q,O⟩:=hM.has _ (Yx _)
 have A:=AL W s bm room S (Aj (Cr l).text) hs;have q:Be S (Aj (Cr l).text).data.toList=some y:=q;rw[q]at A;simp only[fP,Cw]at A;have K:=J A
 obtain⟨N,hN⟩:=vE (Kj l key)
 have X:=J (λw (e:Af W w)=>V4 w s bm room S (hs.ext e) l hM key hk)
 obtain⟨k0,H⟩:∃ k,k=Aj (Cr l).text:=⟨_,rfl⟩
 rw[<-H, <-hN]at X;rw[<-H]at K ⊢;rw[<-hN];clear H hs hM hk A q O hN;unfold vQ;go_in;go_wp2_with fail
 refine K.o.mono ?_;rintro e w1 ⟨rfl,Z⟩;have HE:=J Z;clear Z;go_wp2_with fail
 refine (X.o w1 HE.o).mono ?_;rintro e w2 ⟨a,c,rfl,hR⟩;have HR:=J hR;clear hR;go_wp2
 go_ret2
 exact⟨_,_,rfl,HR.o.since HE.o⟩
theorem X8(w:vW)(S:vT):∀ (f:Nat) (l:vL) (p:vB) (g:Nat),Ep f l->Dy p=true->p.size<g->(∀ x∈Bz (An (f+1) l),32<=x.size->Md S x)->Iz S g (Bj (An f) l) p=Dt l p:=by
 intro f;induction f with
 |zero =>(intro l p g h H Z K;obtain⟨g,rfl⟩:∃ k,g=k+1:=⟨g-1,by omega⟩;obtain⟨O,X⟩:=LG h H (pI h);rw[<-X];cases hc:Np (Bj (An 0) l) p with| some u=>rw[OD hc]| none=>rw[OC hc,O];rfl)
 |succ f ih =>intro l p g h H Z K;obtain⟨g,rfl⟩:∃ k,g=k+1:=⟨g-1,by omega⟩;cases hgo:Pz l p with| none =>(obtain⟨O,X⟩:=LG h H hgo;rw[<-X];cases hc:Np (Bj (An (f+1)) l) p with| some u=>rw[OD hc]| none=>rw[OC hc,O];rfl)| some mq =>obtain⟨m,q⟩:=mq;have e:=LH h H hgo;rw[OC e.no,e.step,if_neg (OT e.rows e.ne),VP w e.rows e.ne λA=>K _ (e.flat _ (Yx _) A) A];show Iz S g (Bj (An f) m) q=_;rw[ih m q g e.rows e.valid (kL e.less) λx hx A=>K x (e.flat x hx A) A,e.find]
theorem oP(room:Int)(S:vT)(hs:Ev W s bm room S)(hN:AH S)(root:vB)(y:Gk)(hy:Be S root.data.toList=some y)(key:vB)(hk:key.size<=1000):vR 38 #[s,root,key] W (Kg (Iz S ((Bw key).size+1) (Bq y.2.2.text) (Bw key))):=by
 have q:=J (i9 W s bm room S hs hN root y hy key hk)
 obtain⟨V,A⟩:=vE (Iz S ((Bw key).size+1) (Bq y.2.2.text) (Bw key))
 rw[<-A]at q ⊢;clear A hs hN hy hk;unfold vR vQ;go_in;go_wp2_with fail
 refine q.o.mono ?_;rintro e O ⟨rfl,H⟩;have K:=J H;clear H;cases V with
 |none =>(unfold Kg;go_wp2);go_ret2;exact⟨rfl,K.o⟩
 |some u =>(unfold Kg;go_wp2);go_ret2;exact⟨rfl,K.o⟩
theorem uZ(room:Int)(S:vT)(hs:Ev W s bm room S)(hN:AH S)(l:vL)(hM:Iy S l)(key:vB)(hk:key.size<=1000):vR 38 #[s,Aj (Cr l).text,key] W (Kg (Dt (Cq l) (Bw key))):=by
 obtain⟨y,A,H⟩:=hM.has _ (Yx _)
 have A:Be S (Aj (Cr l).text).data.toList=some y:=A;have K:=oP W s bm room S hs hN (Aj (Cr l).text) y A key hk;have q:=Nn (Ge hM.ok);have O:Hv (Cr l).text (Bj (An 12) (Cq l)):=⟨rfl,12,(good 12 (Cq l) q).1⟩;have e:Bq y.2.2.text=Bj (An 12) (Cq l):=by rw[H];exact BL W (Vm O) O
 rw[e,X8 W S 12 (Cq l) (Bw key) _ q (BO key) vO λx X _=>hM.has x X]at K;exact K
theorem O8(xs:List Br)(T:TypeId):Jj (w.alloc (.cells (Pg xs).toArray T)) (.slice (some w) xs.length xs.length) xs:=
 .inr ⟨↑w,0,xs.length,rfl,by simp,bO _,λj x e=>by
  obtain⟨q,A,H⟩:=ST xs j x e
  exact⟨by rw[bX];exact (Ae.new w _).z1 q,by rw[bX];exact (Ae.new w _).z1 A,by rw[bX];exact (Ae.new w _).z1 H⟩⟩
theorem O9(xs:vL)(T:TypeId):Jv (w.alloc (.cells (Qp xs).toArray T)) (.slice (some w) xs.length xs.length) xs:=by
 refine .inr ⟨_,0,_,rfl,(Ae.new w _).lt,bO _,λj x e=>?_⟩
 obtain⟨q,A⟩:=NE xs j x e
 exact⟨by rw[bX];exact (Ae.new w _).z1 q,by rw[bX];exact (Ae.new w _).z1 A⟩
end
section
open Go Go.RowKit
def Xw(c:Br):Bool:=decide (c.key.size<=20)&&decide (c.value.size<=100)
def Lu(l:List Br):Bool:=l.all Xw&&decide (l.length<=45)
def jzP(w:vW)(l:List Br)(i:vV)(wr:vW):Prop:=∃ k:Nat,k<=l.length/\k<=46/\i=.int .i64 k/\Af w wr/\(l.take k).all Xw=true
theorem m9{l:List Br}{k:Nat}{p:Br}(h:l[k]?=some p):(l.take (k+1)).all Xw=((l.take k).all Xw&&Xw p):=by
 rw[cB,h,List.all_append];simp
theorem mG{l:List Br}{k:Nat}{p:Br}(h:l[k]?=some p)(hb:Xw p=false):Lu l=false:=by
 unfold Lu
 have:l.all Xw=false:=by rw[dK];intro e;have:=fJ.1 e p (bD h);rw[hb]at this;cases this
 rw[this];rfl
theorem uW(v:vV)(l:List Br)(hv:Jj w v l)(hn:l.length<=9223372036854775807)(hs:∀ p∈l,p.key.size<=9223372036854775807/\p.value.size<=9223372036854775807):vR 64 #[v] w (Lu l):=by
 have HV:=J hv;have HS:=J hs
 obtain⟨a,c,rfl⟩:=hv.sl;clear hv hs
 obtain⟨R,Z⟩:=vE (Lu l)
 rw[<-Z];have O:=J Z;clear Z;unfold vR vQ;go_in;go_wp2
 go_loopw [3] (λi wr=>jzP w l i wr) (λi _=>l.length-(intOf i).toNat)
 case atStart=>exact⟨0,by omega,by omega,rfl,Aa w,rfl⟩
 case round =>obtain⟨k,hk,a1,rfl,hE,e⟩:=hrel;have q:=J hE;have H:=J e;clear hE e;by_cases hlt:k<l.length;{have b1:(k:Int)<(l.length:Int):=vO;by_cases h45:k<=45;{have b2:(k:Int)<=45:=vO;obtain⟨p,X⟩:∃ p,l[k]?=some p:=⟨_,bB hlt⟩;rcases HV.o with⟨_,_,_,h0⟩|⟨b,o,c1,hh,hb,hc,hcell⟩;{rw[h0]at hlt;cases hlt};cases hh;obtain⟨q1,q2,q3⟩:=hcell k p X;have q1:=Am q1 q.o;have q2:=Am q2 q.o;have q3:=Am q3 q.o;have a0:=HS.o p (bD X);have HP:=J X;obtain⟨x,y,gn⟩:=p;simp only at q1 q2 q3 a0;clear hcell hb hc X;by_cases hx:20<x.size;{have b3:(20:Int)<(x.size:Int):=vO;(have A:=J (show R=false by rw[O.o];exact mG HP.o (by unfold Xw;simp;omega));clear hx;go_wp2);go_ret;exact⟨by rw[A.o];rfl,q.o⟩};have b3:¬(20:Int)<(x.size:Int):=vO;by_cases hy:100<y.size;{have b4:(100:Int)<(y.size:Int):=vO;(have A:=J (show R=false by rw[O.o];exact mG HP.o (by unfold Xw;simp;omega));clear hx hy;go_wp2);go_ret;exact⟨by rw[A.o];rfl,q.o⟩};have b4:¬(100:Int)<(y.size:Int):=vO;(have HG:=J (show (l.take (k+1)).all Xw=true by rw[m9 HP.o,H.o];unfold Xw;simp;omega);clear hx hy;go_wp2);go_roundw;(case rel=>exact⟨k+1,by omega,by omega,by go_num,q.o,HG.o⟩);case measure=>exact vJ};have b2:¬(k:Int)<=45:=vO;have b3:¬(l.length:Int)<=45:=vO;(have A:=J (show R=false by rw[O.o];unfold Lu;simp;omega);clear h45;go_wp2);go_ret;exact⟨by rw[A.o];rfl,q.o⟩};have K:k=l.length:=vO;have b1:¬(k:Int)<(l.length:Int):=vO;have e:=H.o;rw[K,cF]at e;by_cases h45:l.length<=45;{have b2:(l.length:Int)<=45:=vO;(have A:=J (show R=true by rw[O.o];unfold Lu;rw[e];simp;omega);clear K e h45;go_wp2);go_ret;exact⟨by rw[A.o];rfl,q.o⟩};have b2:¬(l.length:Int)<=45:=vO;(have A:=J (show R=false by rw[O.o];unfold Lu;simp;omega);clear K e h45;go_wp2);go_ret;exact⟨by rw[A.o];rfl,q.o⟩
end
section
open Go Go.RowKit
attribute [local go_sem] Oper.semAt_some
end
section
open Go Go.RowKit
end
section
open Go Go.RowKit
attribute [local go_sem] Oper.semAt_some
end
section
open Go Go.RowKit
end
section
open Go Go.RowKit
theorem l7(w0 w:vW)(hc:Ha w)(he:Gh w)(s bm:Nat)(S:vT)(n:Nat)(hA:Kq w0 s bm 2000 S w n)(hw0:(w0:Nat)<=↑w)(hn:n<=20000)(hl:S.length<=1800){U:vM}(hU:Gi U)(hN:IQ U)(hK:Kp U S)(L:vL)(hM:Iy S L)(u:vV)(cs:List Br)(hu:Jj w u cs)(hnc:cs.length<=9223372036854775807)(hsc:∀ c∈cs,c.key.size<=9223372036854775807/\c.value.size<=9223372036854775807)(hs:Ez L cs=0->∀ t∈Ld (Gp L cs),t∈U):vQ 46 #[s,Bi L,u] w (RM w0 w s bm 2000 S n (λ_=>Ez L cs≠0) λt H=>t=Bi (Gp L cs)/\∃ W T,Sj W U S (Gp L cs) T H/\T.length<=119):=by
 have hb:=hA.bds hn;refine (nV w hc he s bm 2000 S hA.st (hK.nodes hN) L hM u cs hu hnc hsc vI vI hb.1 hb.2.1 hb.2.2).mono ?_;intro e W' Z
 by_cases h0:Ez L cs=0
 ·have K:Em (Gp L cs)=0:=Zo h0;have A:=XA (S:=S) K;obtain⟨H,q⟩:=A5 w hU hK h0 (hs h0) Z vO;have O:AH H:=q.add.kp.nodes hN;refine .inr ⟨_,H,⟨rfl,w,_,q.add,A⟩,q.res,⟨q.st,O,hA.bnew,λx X=>?_,q.add.kp.cnt,q.add.kp.full,?_,?_,λx X=>?_⟩,q.kp,q.add.blk⟩;{rcases q.add.blk x X with h|h;{obtain⟨z,hz,e⟩:=bC.1 h;rw[<-e];exact hA.new z hz};omega};{have:=q.add.len;have:=hA.len;omega};{have:=q.add.len;omega};have:=q.add.bd n vO hA.held x X;omega
 ·rcases Z with⟨_,rfl,hE⟩|⟨h,_⟩;{exact .inl ⟨_,h0,h0,rfl,hE⟩};exact absurd h h0
def IV(L:vL)(p:Eu):vL:=if p.k=0/\Ez L p.cs=0 then Gp L p.cs else L
def Iw(l:List Eu)(i:Nat):vL:=(l.take i).foldl IV []
theorem NU{l:List Eu}{i:Nat}{p:Eu}(h:l[i]?=some p):Iw l (i+1)=IV (Iw l i) p:=by
 unfold Iw;rw[cB,h,fE];rfl
section
variable {w0 W W':vW} {b rm sb cb bm:Nat} {U:vM} {X:List (Int × vL)} {L:vL} {M:Dm} {es:List (Ce Int)} {S:vT} {i:Nat}
end
theorem I_{win next k:Nat}{l:List Au}:Nu ⟨win,k,Iu win next l⟩=(l.getLast?).getD ⟨0,[],[],0⟩:=by
 unfold Nu;rw[NJ]
theorem jCZ{M:Dm}{i:Nat}{v:Au}{p:Nat}(h:M.all[i]?=some v):(((Lz M i v p).getLast?).getD ⟨0,[],[],0⟩).block=(Nu M).block/\(((Lz M i v p).getLast?).getD ⟨0,[],[],0⟩).ents=(Nu M).ents:=by
 unfold Lz Nu;rw[gX,gX,iB,iW];split
 ·rename_i e;subst e;rw[if_pos (bI.1 h).1,h];exact⟨rfl,rfl⟩
 ·exact⟨rfl,rfl⟩
theorem l4{M:Dm}{x:Int}:(Nu (Gd M x).1).block=(Nu M).block/\(Nu (Gd M x).1).ents=(Nu M).ents/\(Gd M x).1.next=M.next:=by
 unfold Gd;split
 ·exact⟨rfl,rfl,rfl⟩
 split
 ·exact⟨rfl,rfl,rfl⟩
 split
 ·exact⟨rfl,rfl,rfl⟩
 rename_i v hv hp
 obtain⟨e,q⟩:=jCZ (p:=v.pins+1) hv
 exact⟨e,q,rfl⟩
theorem jCP{M:Dm}{x:Int}:(Nu (Nv M x).1).block=(Nu M).block/\(Nu (Nv M x).1).ents=(Nu M).ents/\(Nv M x).1.next=M.next:=by
 unfold Nv;split
 ·exact⟨rfl,rfl,rfl⟩
 split
 ·exact⟨rfl,rfl,rfl⟩
 split
 ·exact⟨rfl,rfl,rfl⟩
 rename_i v hv hp
 obtain⟨e,q⟩:=jCZ (p:=v.pins-1) hv
 rw[I_]
 exact⟨e,q,rfl⟩
theorem j0{M:Dm}(h:Fh M):Co M.all ((Nu M).block:Int)=true:=by
 unfold Co;cases e:Jp M.all ((Nu M).block:Int)with
 |some i=>rfl
 |none=>exact absurd rfl (k2 e _ h.newest.1)
theorem q_{l:List Au}{v:Au}(h:v∈l):Co l (v.block:Int)=true:=by
 unfold Co;cases e:Jp l (v.block:Int)with
 |some i=>rfl
 |none=>exact absurd rfl (k2 e _ h)
theorem d9{win next:Nat}{v:Au}:∀ {l:List Au},v∈l->Si win next v=true->v∈Iu win next l
 |[u],h,_=>by
  unfold Iu;exact h
 |u::t::r,h,hk=>by
  rw[FW (by simp)];rcases bU.1 h with rfl|h
  ·rw[if_pos hk];exact bN
  ·have:=d9 h hk
   split
   ·exact bM _ this
   ·exact this
end
section
open Go Go.RowKit
theorem PU:Em []=0:=by decide +kernel
theorem N0:Gn (Bx 12) Cv:=(good 12 (Cq []) (Nn (Ge PU))).1
theorem UZ(w:vW)(hn:Hv t n)(h0:Gc n=[])(hG:G.map Nb=Cm [t])(x:vB):Ik G x=[]:=by
 unfold Ik;split
 ·rename_i y hy;obtain⟨q,A,_,e⟩:=Xp hG (Fd hy).1;obtain rfl:=bG.1 A;rw[e];show Gc (Bq q)=[];rw[BL w (Vm hn) hn];exact h0
 ·rfl
theorem YM(w:vW){M:vM}(hn:Hv t n)(h0:Gc n=[])(hG:G.map Nb=Cm [t])(hP:Sh S G r M i):M=[r]:=by
 rw[hP.is]
 congr 1
 exact List.flatMap_eq_nil_iff.2 λx _=>UZ w hn h0 hG x
theorem aC(r:vB):Hg [r]=[r]:=rfl
theorem uR:(Da S [r]).length<=1:=by
 unfold Da;rw[aC];exact fF _ _
theorem rT(w:vW){M:vM}(hn:Hv t n)(h0:Gc n=[])(hG:G.map Nb=Cm [t])(hP:Sh S G (Aj t) M i)(hS:Be S (ky t)=none):∃ z,Gl S G M t=S++[(ky t,z,⟨t,[],0,1⟩)]:=by
 obtain rfl:=YM w hn h0 hG hP;have K:Da S [Aj t]=[Aj t]:=by unfold Da;rw[aC];have:Be S (Aj t).data.toList=none:=hS;simp[this]
 have q:Cm [t]=[(ky t,Fu t)]:=rfl;rw[q]at hG;have O:G.length=1:=by have:=congrArg List.length hG;simpa using this
 obtain⟨y,rfl⟩:=dZ.1 O
 obtain⟨k,z,A⟩:=y
 have H:Nb (k,z,A)=(ky t,Fu t):=by simpa using hG
 have X:k=ky t:=congrArg Prod.fst H;have Z:A=Fu t:=congrArg Prod.snd H;subst X Z
 refine⟨z,?_⟩
 have hr:(Da S [Aj t]).flatMap (Ik [(ky t,z,Fu t)])=[]:=List.flatMap_eq_nil_iff.2 λx _=>UZ w hn h0 vF x;have hp:Lj [(ky t,z,Fu t)] (Da S [Aj t])=[(ky t,z,Fu t)]:=by rw[K];unfold Lj;(have:Be [(ky t,z,Fu t)] (Aj t).data.toList=some (ky t,z,Fu t):=by unfold Be ky;simp);simp[this]
 unfold Gl;rw[hr,hp];show Zi (ky t) (Qe [] (S++[(ky t,z,Fu t)]))=_;unfold Qe Zi;rw[List.foldl_nil,bW]
 congr 1
 ·(conv=>rhs;rw[<-jK S]);refine dA λx hx=>?_;rw[if_neg λe=>EJ.1 hS x hx e.symm];rfl
 ·(have:Gc (Bq t)=[]:=by rw[BL w (Vm hn) hn];exact h0);show [(if ky t=ky t then (ky t,z,Jt 3 ((Fu t).held+1) (Fu t))else (ky t,z,Fu t))]=_;rw[if_pos rfl];unfold Fu Jt;rw[this];rfl
theorem ID:Hv (Av ()) Cv:=⟨rfl,12,N0⟩
theorem XQ:Gc Cv=[]:=by
 unfold Gc;refine iU.2 λr e=>?_
 have:r=⟨#[]⟩:=by have e:r∈List.replicate 16 (⟨#[]⟩:vB):=e;exact (List.mem_replicate.1 e).2
 rw[this];exact GH
theorem rU(w:vW){n:Ai}{k:Int}(hn:Hv t n)(h0:Gc n=[])(hr:(S.length:Int)+1<=room):¬ XD (∃ A∈[t],¬ ∃ n,Hv A n) room S [t] k:=by
 rintro (⟨_,A,K,e⟩|⟨_,G,q,x,r,H,_⟩|⟨_,top,G,M,_,q,O,X⟩)
 ·rw[bG.1 K]at e;exact e ⟨n,hn⟩
 ·rw[UZ w hn h0 q x]at H;cases H
 ·rw[YM w hn h0 q O]at X;have:=uR (S:=S) (r:=Aj top);omega
end
section
open Go Go.RowKit
attribute [local go_sem] Oper.semAt_some
def Rx(W:vW)(cb mb:Nat)(n:Int):Prop:=Ae W cb (.cells #[.int .i64 n,qe,.map (some mb),qa] 129)/\Ae W mb (.map (Al.arr []) 0)
theorem wZ(n:Int)(h0 : -9223372036854775808<=n)(h1:n<=9223372036854775807):vQ 26 #[.int .i64 n] w λe w'=>∃ cb mb,e=.returned (.pointer (some ⟨cb,0,none⟩))/\Af w w'/\Rx w' cb mb (min (max n 0) 64)/\(w:Nat)<=cb/\(w:Nat)<=mb/\cb≠mb:=by
 have q:=Ef;unfold vQ;go_in;go_wp2
 go_ret
 refine⟨_,↑w,rfl,((Aa w).alloc _).alloc _,⟨by rw[<-bJ w (.map #[] 0)];exact Ae.new _ _,(Ae.new w _).alloc _⟩,?_,bO _,?_⟩
 ·omega
 ·omega
end
section
open Go Go.RowKit
theorem Oe:(Instr.makeMap 74 none).run prog w=.ok (.map (some ↑w)) (w.alloc (.map #[] 0)):=vY
theorem Ob:(callFunc 27 args).run prog w=.ok (.enter 27 args) w:=vY
def Gf:vB:=Av ()
noncomputable def Pn(z:Nat):vT:=[(ky Gf,z,⟨Gf,[],0,1⟩)]
noncomputable def Tv:List (Ce Int):=[(0,.string (Aj Gf),0)]
def RT(w:vW)(window room cached:Int)(e:Ending)(w':vW):Prop:=∃ D b a c rm sb cb mb bm z,e=.returned (.tuple #[.pointer (some ⟨b,0,none⟩),qa])/\Fp w D w' b (Js window) a c rm sb cb Tv 1 bm room (Pn z) 1/\Af w w'/\Rx w' cb mb (min (max cached 0) 64)/\(∀ x,x=cb\/x=mb->¬ Sb b rm bm (Pn z) x/\(w:Nat)<=x/\¬ D x/\x≠sb)/\(w:Nat)<=b/\(w:Nat)<=rm/\cb≠mb/\∀ z,z=sb\/D z->(w:Nat)<=z
theorem Rx.Z{W:vW}{cb mb:Nat}{n:Int}(h:Rx W cb mb n)(k:Ad F W W')(h1:¬ F cb)(h2:¬ F mb):Rx W' cb mb n:=⟨h.1.Z k h1,h.2.Z k h2⟩
theorem WC(hc:Ha w)(he:Gh w)(window room cached:Int)(hr:1<=room)(hr2:room<=9223372036854775807)(h0:0<=cached/\cached<=1000000):vQ 5 #[.int .i64 window,.int .i64 room,.int .i64 cached] w (RT w window room cached):=by
 have e5:=Oe;have HP:=J (kX hc he hr hr2 h0);have e0:¬ room<1:=vO
 clear hc he hr hr2 h0;unfold vQ;go_in;go_wp2_with fail
 refine (wM w window).mono ?_;rintro e w1 ⟨av,rfl,b4,a5⟩
 obtain⟨a1,c1,d0⟩:=a5.sl
 subst d0
 obtain⟨M,hM⟩:=vE (Js window)
 rw[<-hM]at a5 ⊢;have H1:=J (kT b4 a5 hM);clear b4 a5 hM;unfold Il;go_wp2_with fail
 have a9:=Ae.new w1 (.map #[] 0);have k1:=(Aa w1).alloc (.map #[] 0);generalize w1.alloc (.map #[] 0)=w2 at a9 k1 ⊢;refine (zK w2 room).mono ?_;rintro e w3 ⟨sb,bm,rfl,b0,h3⟩;have H3:=J (kU k1 a9 b0 h3);clear k1 a9 b0 h3;go_wp2_with fail
 refine (wZ w3 cached (kL HP.o.E) (kL HP.o.E)).mono ?_;rintro e w4 ⟨cb,mb,rfl,b8,h4⟩;have H4:=J (bA b8 h4);clear b8 h4;go_wp2_with fail
 have b9:=Ae.new w4 (.cells (Sd M a1 c1 w1 sb cb).toArray 80);have kh:=(Aa w4).alloc (.cells (Sd M a1 c1 w1 sb cb).toArray 80);change Code.wp _ _ _ _ (w4.alloc (.cells (Sd M a1 c1 w1 sb cb).toArray 80));generalize w4.alloc (.cells (Sd M a1 c1 w1 sb cb).toArray 80)=w5 at b9 kh ⊢;have H5:=J (bA b9 kh);have c4:bm<(w3:Nat):=by obtain⟨_,_,h1,_⟩:=H3.o.2.2.2.1.mp.mp;exact h1.lt
 have d1:=H4.o.1.size;have a2:(w4:Nat)≠bm:=vO
 clear b9 kh;refine Na [0,1,2,3,4,5,6,7,8,9,10,11] [5,6] Af (Ad λz=>z=bm) Aa Ap (λx y z h k=>Ad.trans h k) (λx y h=>h.mono kZ) vY vY vY ?_
 refine vD ?_
 refine Lx _ w4 rfl zh (vS ?_)
 refine vD ?_
 refine Fa ⟨↑w4,4,none⟩ sb rfl (λw1 h1=>De zf ((H5.o.1.drew.Z h1 a2).z1 rfl)) (vS ?_);refine GA _ 28 #[()] (Av ⟨#[]⟩) rfl vY rfl (λw1=>Fb (vX 28) vY) (λw1 h1=>Rt w1 () vI) (vS ?_);refine Hh _ rfl (λwb hb K hK=>?_);have kb:Af w5 wb:=(Ao _).trans hb;refine Ro (v:=.slice (some wb) 1 1) (w':=wb.alloc (.cells #[Av ⟨#[]⟩] 9)) vY (hK _ _ ((Ad.refl _ wb).alloc _) ?_);have H6:=J (bA (kb.trans ((Aa wb).alloc (.cells #[Av ⟨#[]⟩] 9))) (show Ie (wb.alloc (.cells #[Av ⟨#[]⟩] 9)) (.slice (some wb) 1 1) [Av ()]from(show Cg wb (wb.alloc (.cells #[Av ⟨#[]⟩] 9)) (.slice (some wb) 1 1) 1 [Av ()]from Ar.lit #[Av ⟨#[]⟩] (Aa wb) vI rfl).rd));generalize wb.alloc (.cells #[Av ⟨#[]⟩] 9)=w6 at H6 ⊢;clear hK K hb kb;refine vS ?_;refine Hh _ rfl (λwc hc K hK=>?_);have X:Af w5 wc:=H6.o.1.trans hc;have Z:Af w4 wc:=H5.o.2.trans X;have A:Af w3 wc:=H4.o.1.trans Z;have a0:Af w wc:=H1.o.1.trans (H3.o.1.trans (H3.o.2.2.1.trans A));have b5:max room 0=room:=kL HP.o.c
 have b2:=pM wc (HP.o.1.ext a0) (HP.o.2.1.ext a0) sb bm (max room 0) [] (H3.o.2.2.2.1.ext A) _ [Gf] (H6.o.2.ext hc) (∃ t'∈[Gf],¬ ∃ n,Hv t' n) (R2 λt ht=>.inl (by rw[bG.1 ht];exact⟨_,ID⟩)) vI Gf rfl vO (kL HP.o.d) vI (λx q=>by cases q) (λx q=>by cases q);refine Ou (Fb Ob vY) (b2.mono ?_);rintro e w8 (⟨k,d2,_⟩|⟨top,G,M',b3,hY⟩)
 ·exact absurd d2 (rU w ID XQ (by have:=HP.o.c;show ((0:Nat):Int)+1<=_;omega))
 obtain rfl:Gf=top:=by injection b3
 refine⟨_,hY.res,hK _ _ (hY.kp.mono λz _ e=>e.elim id λe=>by cases e) ?_⟩
 have H8:=J (kX hY a0 A Z X);clear hK K hc b2 hY b3 X Z A a0;refine vS ?_;iterate 5 refine vD ?_
 refine Mt (λw9 h9=>?_)
 obtain⟨hY,a0,A,Z,X⟩:=H8.o
 have O:Ad (λz=>z=bm) wc w9:=(hY.kp.mono λz _ e=>e.elim id λe=>by cases e).trans (h9.mono kZ);have c0:=H3.o.E;have a3:=H3.o.1.size;have a4:=H4.o.1.size;have b6:(w1:Nat)≠bm:=kL H3.o.2.1.lt
 have a7:Ae w9 w1 (.map (EB.arr []) 0):=((H3.o.2.1.Z H3.o.c kI).Z A kI).Z O b6;have b1:Ae w9 w4 _:=(H5.o.1.Z X kI).Z O a2;have q1:w9.cell? ⟨↑w4,3,none⟩=some (.map (some ↑w1)):=b1.z1 rfl
 obtain⟨b7,H⟩:=vE (w9.putObj w1 (.map (EB.arr Tv) 1))
 have d3:(Instr.mapUpdate 74 (.map (some ↑w1)) qa (Aj Gf)).run prog w9=.ok () b7:=by have:=Yq EB Ft a7 0 (Aj Gf);rw[H];exact this
 have H9:=J (kP O a7 b1 H c0 a3 a4 b6 h9 b5);clear O a7 b1 H c0 a3 a4 b6 h9 hY a0 A Z X b5 c4 a2 d1
 obtain⟨rt,c7⟩:=vE (Aj Gf)
 rw[<-c7]at d3 ⊢;clear c7;go_wp2
 go_ret2
 obtain⟨O,a7,b1,H,c0,a3,a4,b6,h9,b5⟩:=H9.o
 obtain⟨hY,a0,A,Z,X⟩:=H8.o
 obtain⟨b4,a5,hM⟩:=H1.o
 obtain⟨k1,a9,b0,c2,d4,e6,e7⟩:=H3.o
 obtain⟨b8,c3,e8,e9,d5⟩:=H4.o
 obtain⟨z,hz⟩:∃ z,Gl [] G M' Gf=[]++[(ky Gf,z,⟨Gf,[],0,1⟩)]:=rT wc ID XQ hY.given hY.path vF
 have g1:=b4.size;have g3:=b0.size;have g4:=Z.size;have g5:=A.size;have d8:bm<(w3:Nat):=by obtain⟨_,_,h1,_⟩:=c2.mp.mp;exact h1.lt
 have d9:sb<(w3:Nat):=c2.st.lt;have e1:(w1:Nat) < ↑w2:=a9.lt;have e2:cb<(w4:Nat):=c3.1.lt;have e3:mb<(w4:Nat):=c3.2.lt;have f0:(w4:Nat) < ↑wc:=(H5.o.1.Z X kI).lt;have c8:=((Kq.none (w0:=w) c2 d4 vO).ext A).add vO vI vI hY;have f1:(wc:Nat)<=z:=by have h1:=hY.newS (ky Gf,z,⟨Gf,[],0,1⟩) (by rw[hz];simp);rcases h1 with h1|h1;{cases h1};exact h1
 rw[hz,b5]at c8;have a8:Ad (λx=>x=(w1:Nat)) w9 b7:=by rw[H];exact Ad.z7 _ _ _
 have c5:Ae b7 w1 (.map (EB.arr Tv) 1):=by rw[H];exact a7.put_same _
 have c9:(Pn z).map (·.2.1)=[z]:=rfl;have d6:=(((((a5.ext k1).ext b0).ext A).Z O λx q e=>by have h:=q.2;have e:x=bm:=e;omega).Z a8 λx q e=>by have h:=q.2;have e:x=(w1:Nat):=e;omega);have d7:Af w b7:=(a0.O O kJ).O a8 kJ
 have f2:=O.size;have e4:=a8.size
 refine⟨Fs w w1,↑w4,a1,c1,↑w1,sb,cb,mb,bm,z,rfl,?_,d7,?_,?_,by omega,by omega,d5,λx q=>q.elim (λe=>by omega) λe=>by have h:=e.1;omega⟩
 ·rw[<-hM];refine⟨⟨b1.Z a8 vO,d6,c5⟩,(c8.ext h9).Z a8 vO vO (λx q e=>?_) (KN a7),λx q=>?_,by omega,λe=>by have h:=e.2;omega,λx q=>?_,by rw[hM];exact wN window,by decide,by decide,λx q=>?_,λx q=>?_⟩;{rw[cL,bG]at q;subst q;have e:z=(w1:Nat):=e;omega};{rw[c9,bG];rcases q with rfl|rfl|q;{omega};{omega};have h:=q.2;omega};{have h:=q.2;omega};{have q:x∈[((0:Int),Value.string (Aj Gf),0)]:=q;rw[bG.1 q];decide};have q:x∈[((0:Int),Value.string (Aj Gf),0)]:=q;rw[bG.1 q];exact⟨_,rfl⟩
 ·exact ((c3.Z Z kI kI).Z O vO vO).Z a8 vO vO
 ·intro x q;refine⟨λe=>?_,by omega,λe=>by have h:=e.2;omega,by omega⟩;rcases e with e|e|e|e;{omega};{omega};{omega};rw[c9,bG]at e;omega
theorem A1(window room cached:Int)(hr:room<1):vR 5 #[.int .i64 window,.int .i64 room,.int .i64 cached] w (.tuple #[.pointer none,.int .i64 3]):=by
 unfold vR vQ;go_in;go_wp2
 go_ret2
 exact⟨rfl,Aa w⟩
def RP(val:vB)(er:Int)(K2 K3:vW->Prop)(e:Ending)(w':vW):Prop:=(er=0/\e=.returned (.tuple #[val,qa])/\K3 w')\/(er≠0/\e=.returned (.tuple #[(),.int .i64 er])/\K2 w')
theorem pP(M:Dm)(a:Option Addr)(c rm sb cb:Nat)(es:List (Ce Int))(ck:Nat)(h:Kk D w b M a c rm sb cb es ck)(hl:M.all.length<=1000)(bk:Int)(i:Nat)(v:Au)(r:vB)(hp:Jp M.all bk=some i)(hv:M.all[i]?=some v)(hr:Cp es bk=some (.string r))(hrs:r.size<=1000)(key val:vB)(hks:key.size<=1000)(er:Int)(K1 K2 K3:vW->Prop)
  (hG:∀ W,Af w W->vQ 37 #[cb,(r++⟨#[32]⟩++key:)] W λe W'=>e=.returned (.tuple #[(),false])/\K1 W')
  (h1:∀ W,K1 W->Ae W b (.cells (Sd M a c rm sb cb).toArray 80))
  (hT:∀ W,K1 W->vQ 38 #[sb,r,key] W λe W'=>e=.returned (.tuple #[val,.int .i64 er])/\K2 W')
  (h2:∀ W,K2 W->Ae W b (.cells (Sd M a c rm sb cb).toArray 80))
  (hO:er=0->∀ W,K2 W->vQ 39 #[cb,(r++⟨#[32]⟩++key:),val] W λe W'=>∃ t,e=.returned (.bool t)/\K3 W') :
  vQ 11 #[b,.int .i64 bk,key] w (RP val er K2 K3):=by
 have HC:=J (EY w D b M a c rm sb cb es ck h hl bk i v r hp hv hr);have HB:=J h.blk;have HK:=J (kX hG h1 hT h2 hO);have b3:=h.blk.lt;clear h hp hv hr hl hG h1 hT h2 hO;unfold vQ;go_in;go_wp2_with fail
 refine HC.o.mono ?_;rintro e w1 ⟨x,rfl,A,h1,h2,hE⟩
 obtain⟨xv,ev,cv⟩:=x
 have A:xv=v:=A;subst A
 obtain⟨a1,c1,H⟩:=h1.1.sl
 obtain⟨a2,c2,K⟩:=h2.1.sl
 have H:ev=_:=H;have K:cv=_:=K;subst H K;have HE:=J hE;have b4:=hE.size;clear h1 h2 hE HC;unfold VX.cells;go_wp2_with (first|(refine Di Cb rfl rfl ?_;intro W2 a0 a3)|(refine Bt (vs:=[(xv.block:Int),.slice a1 xv.ents.length c1,.slice a2 xv.chgs.length c2,(xv.pins:Int)]) rfl rfl rfl rfl a0 rfl Bo zc ?_;intro W3 a9 a4))
 refine (EP W3).mono ?_;rintro e w4 ⟨rfl,rfl⟩;have O:Af w W3:=(HE.o.trans a3).O a4 kJ
 have b0:=J O;have a5:=HB.o.Z O kI;have q5:W3.cell? ⟨b,5,none⟩=some (.pointer (some cb)):=a5.z1 rfl;clear a3 a4 a0 a9 O a5;go_wp2_with fail
 refine vC (HK.o.1 W3 b0.o) λw5 X=>?_;have b1:=J X;have q4:w5.cell? ⟨b,4,none⟩=some (.pointer (some sb)):=(HK.o.b w5 X).z1 rfl;clear X;go_wp2_with fail
 refine vC (HK.o.c w5 b1.o) λw6 Z=>?_;have a7:=J Z;have b5:w6.cell? ⟨b,5,none⟩=some (.pointer (some cb)):=(HK.o.d w6 Z).z1 rfl;clear Z
 by_cases he:er=0
 ·have q:=J he;(have e1:(er != 0)=false:=by rw[he];rfl);(clear he;go_wp2_with fail);(refine (HK.o.E q.o w6 a7.o).mono ?_;rintro e w7 ⟨t,rfl,a8⟩;have b2:=J a8;clear a8;go_wp2);go_ret2;exact .inl ⟨q.o,rfl,b2.o⟩
 ·have q:=J he;(have e1:(er != 0)=true:=by simpa using he);(clear he;go_wp2);go_ret2;exact .inr ⟨q.o,rfl,a7.o⟩
theorem A0(M:Dm)(a:Option Addr)(c rm sb cb:Nat)(es:List (Ce Int))(ck:Nat)(h:Kk D w b M a c rm sb cb es ck)(bk:Int)(hr:Cp es bk=none)(key:vB):vR 11 #[b,.int .i64 bk,key] w (.tuple #[(),.int .i64 4]):=by
 have K:=J (pO w D b M a c rm sb cb es ck h bk hr);clear h hr;unfold vR vQ;go_in;go_wp2_with fail
 refine K.o.mono ?_;rintro e w1 ⟨rfl,O⟩;have X:=J O;clear O K;unfold Vz FE VX.cells;go_wp2_with (first|(refine Di Cb rfl rfl ?_;intro W2 q A)|(refine Bt (vs:=[qa,qe,qe,qa]) rfl rfl rfl rfl q rfl Bo zc ?_;intro Z a0 H))
 refine (nF Z).mono ?_;rintro e w4 ⟨rfl,rfl⟩;go_wp2
 go_ret2
 exact⟨rfl,(X.o.trans A).O H λx hx e=>by have e:x=(w1:Nat):=e;have:=X.o.size;omega⟩
structure Fi where
 kind:Nat
 root:vB
 key:vB
 to:vB
 nodes:vM
def Fi.cells(p:Fi)(nv:vV):List vV:=[(p.kind:Int),p.root,p.key,p.to,nv]
def Fe(p:Fi):vB:=Fo [Av (Hr p.kind),Av p.root,Av p.key,Av p.to,Fo (p.nodes.map Av)]
structure Vc(p:Fi):Prop where
 kind:p.kind=0/\p.to=⟨#[]⟩\/p.kind=1
 root:p.root.size=32
 key:p.key.size<=6
 to:p.to.size<=6
 nodes:p.nodes.length<=200
 short:∀ b∈p.nodes,b.size<=1000
def uL(w:vW)(l:vM)(iv:vV)(wr:vW):Prop:=∃ i:Nat,i<=l.length/\iv=.int .i64 i/\Af w wr
theorem pK(p:Fi)(nv:vV)(hn:Ie w nv p.nodes)(hp:Vc p):vR 52 #[.agg (p.cells nv).toArray] w true:=by
 have HN:=J hn;have HP:=J hp
 obtain⟨a,c,Z,_⟩:=hn.slice
 subst Z
 obtain⟨q,A,O,to,e⟩:=p
 have h1:A.size=32:=hp.root;have h2:O.size<=6:=hp.key;have h3:to.size<=6:=hp.to;have h4:e.length<=200:=hp.nodes;have c1:((A.size:Int) != 32)=false:=by rw[h1];rfl
 have c2:¬(6:Int)<(O.size:Int):=vO
 have c3:¬(6:Int)<(to.size:Int):=vO
 have c4:¬(200:Int)<(e.length:Int):=vO
 obtain⟨m,hm⟩:=vE e.length
 have HM:=J hm;have K:=hp.kind;unfold Fi.cells;rw[<-hm]at c4 ⊢;clear hn hp h1 h2 h3 h4 hm;unfold vR vQ;go_in;have HW:=J (show Af w (w.alloc (.cells #[(q:Int),A,O,to,.slice a m c] 53))from(Aa w).alloc _);rcases K with⟨K,ht⟩|K
 case' inl =>have K:q=0:=K;have ht:to=⟨#[]⟩:=ht;subst K ht
 case' inr =>have K:q=1:=K;subst K
 all_goals(go_wp2);(go_loopw [37] (λiv wr=>uL w e iv wr) (λiv _=>m-(intOf iv).toNat));(case atStart=>exact⟨0,cD _,rfl,HW.o⟩);case round =>obtain⟨i,hi,rfl,hE⟩:=hrel;have HE:=J hE;clear hE;by_cases hlt:i<m;{obtain⟨x,hx⟩:∃ x,e[i]?=some x:=⟨_,bB (by rw[<-HM.o];exact hlt)⟩;obtain⟨ax,cx,hh,H⟩:=HN.o.slice;obtain⟨ba,oa,a0,X⟩:=H i x hx;subst a0;cases hh;have q1:=Am X HE.o;have b1:(i:Int)<(m:Int):=vO;have c5:¬(1000:Int)<(x.size:Int):=kL (HP.o.short x (bD hx));(clear H X hx;go_wp2);go_roundw;(case rel=>exact⟨i+1,by show i+1<=e.length;have:=HM.o;omega,by go_num,HE.o⟩);case measure=>exact vJ};have b1:¬(i:Int)<(m:Int):=vO;(go_wp2);go_ret;exact⟨rfl,HE.o⟩
theorem zV(n:Nat)(hn:n<18446744073709551616):vR 88 #[.int .u64 n] w (Av (Hr n)):=by
 have H:=J (oB w n hn);clear hn;unfold vR vQ;go_in;go_wp2_with fail
 refine H.o.mono ?_;rintro e w1 ⟨rfl,q⟩;have K:=J q;clear q;go_wp2_with fail
 refine vH (Rt w1 (Hr n) (by have O:=EQ 8 n;rw[show (Hr n).size=(Pi 8 n).length by simp[Hr,ByteArray.size]];omega)) λX q=>?_;have A:=J (K.o.trans q);go_wp2
 go_ret
 exact⟨rfl,A.o⟩
def uJ(w1:vW)(l:vM)(lv iv:vV)(wr:vW):Prop:=∃ i:Nat,i<=l.length/\iv=.int .i64 i/\Cg w1 wr lv i ((l.take i).map Av)
theorem Pu:(callFunc 88 args).run prog w=.ok (.enter 88 args) w:=vY
theorem AD(b:vB):(Av b).size<=b.size+9:=by
 have:=CP 128 b.size
 unfold Av;split
 ·omega
 ·rw[cO];omega
theorem GP:∀ (l:vM),(Aw l).size=(l.map ByteArray.size).sum
 |[]=>rfl
 |x::r=>by rw[CZ,cO,GP r,bP,gZ]
theorem GN:∀ (l:vM),(∀ b∈l,b.size<=1000)->(Aw (l.map Av)).size<=1009*l.length
 |[],_=>by show (Aw []).size<=_;rw[GP];simp
 |x::r,h=>by
  have e:=h x (by simp);have q:=AD x;have A:=GN r λb hb=>h b (bM _ hb);rw[bP,CZ,cO,bQ];omega
theorem UU(l:vM):(Fo l).size<=(Aw l).size+9:=by
 have:=CP 192 (Aw l).size
 unfold Fo;rw[cO];omega
theorem XS(p:Fi)(nv:vV)(hn:Ie w nv p.nodes)(hp:Vc p)(hs:(Fe p).size<=65536):vR 41 #[.agg (p.cells nv).toArray] w (.tuple #[Fe p,qa]):=by
 have HN:=J hn;have HP:=J hp;have HS:=J hs;have HV:=J (λw2 (e:Af w w2)=>pK w2 p nv (hn.ext e) hp)
 obtain⟨a,c,c3,_⟩:=hn.slice
 subst c3
 obtain⟨m,hm⟩:=vE p.nodes.length
 have HM:=J hm;have d2:m<=200:=by rw[hm];exact hp.nodes
 have b3:=Ae.new w (.cells (p.cells (.slice a p.nodes.length c)).toArray 53);have a4:=(Aa w).alloc (.cells (p.cells (.slice a p.nodes.length c)).toArray 53);have HB:=J (bA b3 a4);have a7:=J (HV.o _ a4)
 obtain⟨A,H,O,to,q⟩:=p
 unfold Fi.cells at a7 HB ⊢;rw[<-hm]at a7 HB ⊢;clear hn hp hs hm b3 a4;unfold vR vQ;go_in;go_wp2_with fail
 refine a7.o.mono ?_;rintro e w1 ⟨rfl,a8⟩;have hB:=HB.o.1.Z a8 kI;have q4:w1.cell? ⟨↑w,4,none⟩=some (.slice a m c):=hB.z1 rfl;have H1:=J (bA hB (HB.o.2.trans a8));clear hB a8
 obtain⟨i0,hi,b4,b5,b6⟩:=info_parts Jk
 obtain⟨w2,d1,a3,a9⟩:=run_make_own (P:=prog) (w:=w1) w1 51 9 i0 _ 1 Ci.ht hi b4 b5 .i64 .i64 m (by rw[b6];omega) zi (bO _)
 have k2:Af w1 w2:=Ad.y3 a9 (λ_ e=>by cases e);have b7:=Ar.made w1 a3 a9;have d3:=Am q4 k2;have c4:=J b7;clear a3 a9 hi b4 b5 b6 b7 k2;go_wp2
 go_loopw [4,18] (λlv iv wr=>uJ w1 q lv iv wr) (λ_ iv _=>m-(intOf iv).toNat)
 case atStart=>exact⟨0,cD _,rfl,c4.o⟩
 case round =>obtain⟨i,hi,rfl,hR⟩:=hrel;have HR:=J hR;obtain⟨al,cl,rfl⟩:=hR.sl;have hE:=hR.ext;by_cases hlt:i<m;{obtain⟨x,hx⟩:∃ x,q[i]?=some x:=⟨_,bB (by rw[<-HM.o];exact hlt)⟩;obtain⟨ax,cx,hh,a0⟩:=HN.o.slice;obtain⟨ba,oa,c7,b8⟩:=a0 i x hx;subst c7;cases hh;have q1:=Am b8 (H1.o.2.trans hE);have b1:(i:Int)<(m:Int):=vO;(have d4:x.size<=1000:=HP.o.short x (bD hx);have HX:=J hx;clear a0 b8 hx hR hE;go_wp2_with fail);(refine vH (Rt wr x vO) λw4 c8=>?_;go_wp2_with (at_builtin;go_loud (refine Qm Ci (HR.o.mono (c8.o.trans ((Aa w4).alloc _))) (.tmp 22) (.tmp 25) rfl rfl rfl (Jx (Ae.new w4 _)) (news:=[Av x]) (by intro u hu;simp at hu;rw[hu];rfl) rfl rfl zi vO λv5 w5 r1 r2 r3=>?_);obtain⟨a5,c5,rfl⟩:=r1.sl;have c9:=J (show Cg w1 w5 (.slice a5 (i+1) c5) (i+1) ((q.take (i+1)).map Av) by unfold Cg;rw[cB,HX.o,bW,bW];exact r1);clear r1 r2 r3));go_roundw;(case rel=>exact⟨i+1,by show i+1<=q.length;have:=HM.o;omega,by go_num,c9.o⟩);case measure=>exact vJ};have b1:¬(i:Int)<(m:Int):=vO;obtain rfl:i=m:=kL HM.o;(have b0:=J (show Cg w1 wr (.slice al i cl) i (q.map Av) by have:=HR.o;rw[HM.o,cF]at this;rw[HM.o];exact this);clear hR hE;go_wp2_with fail);(have b9:Ae wr w (.cells #[(A:Int),H,O,to,.slice a i c] 53):=H1.o.1.Z b0.o.ext kI;have hk:=HP.o.kind;have b2:A<2:=by rcases hk with⟨h,_⟩|h <;>(have h:A=_:=h;omega));have d0:=b2;have a1:=J (kT b9 b2 d0);clear b9 hk b2;refine Hs [0,1,2,3,4,5,6,7,8,9,10,11,12,13,14,15,16,17] Af Aa Ap vY vY vY ?_;refine vK ?_;refine Db w (A:Int) rfl (λw1 Z=>De zf (Am (a1.o.1.z1 rfl) ((Ao _).trans Z))) (vS ?_);refine vK ?_;refine Ma _ 88 #[.int .u64 (A:Int)] (Av (Hr A)) rfl (λw1=>Fb Pu vY) (λw1 Z=>zV w1 A (kL a1.o.b)) (vS ?_);refine vK ?_;refine Db ⟨↑w,1,none⟩ H rfl (λw1 Z=>De zf (Am (a1.o.1.z1 rfl) ((Ao _).trans Z))) (vS ?_);refine Ma _ 28 #[H] (Av H) rfl (λw1=>Fb (vX 28) vY) (λw1 Z=>Rt w1 H (by have h:H.size=32:=HP.o.root;omega)) ?_;refine vS ?_;refine vK ?_;refine Db ⟨↑w,2,none⟩ O rfl (λw1 Z=>De zf (Am (a1.o.1.z1 rfl) ((Ao _).trans Z))) (vS ?_);refine Ma _ 28 #[O] (Av O) rfl (λw1=>Fb (vX 28) vY) (λw1 Z=>Rt w1 O (by have h:O.size<=6:=HP.o.key;omega)) ?_;refine vS ?_;refine vK ?_;refine Db ⟨↑w,3,none⟩ to rfl (λw1 Z=>De zf (Am (a1.o.1.z1 rfl) ((Ao _).trans Z))) (vS ?_);refine Ma _ 28 #[to] (Av to) rfl (λw1=>Fb (vX 28) vY) (λw1 Z=>Rt w1 to (by have h:to.size<=6:=HP.o.to;omega)) ?_;refine vS ?_;refine vK ?_;refine Ma _ 87 #[.slice al i cl] (Fo (q.map Av)) rfl (λw1=>Fb (vX 87) vY) (λw1 Z=>LR w1 _ _ (b0.o.rd.ext ((Ao _).trans Z)) (by have:=GN q HP.o.short;have:=HM.o;omega) (by rw[bT];have:=HM.o;omega)) ?_;refine vS ?_;refine CW _ rfl vY rfl (λwb hb K hK=>?_);have kb:Af wr wb:=(Ao _).trans hb;obtain⟨t5,a2⟩:=vE ([Av (Hr A),Av H,Av O,Av to,Fo (q.map Av)]);(have c0:Ie (wb.alloc (.cells (t5.map Value.string).toArray 9)) (.slice (some wb) 5 5) t5:=by have:Cg wb (wb.alloc (.cells (t5.map Value.string).toArray 9)) (.slice (some wb) 5 5) 5 t5:=Ar.lit (n:=5) _ (Aa wb) vI (by rw[a2];rfl);exact this.rd);(refine Ro (v:=.slice (some wb) 5 5) (w':=wb.alloc (.cells (t5.map Value.string).toArray 9)) (by rw[a2];kernel_rfl) (hK _ _ ((Ad.refl _ wb).alloc _) ?_);have X:Fe ⟨A,H,O,to,q⟩=Fo t5:=by rw[a2];rfl);(have c2:(Aw t5).size<=65536:=by have:=HS.o;rw[X]at this;unfold Fo at this;rw[cO]at this;omega);have H6:=J (kX (kb.trans ((Aa wb).alloc (.cells (t5.map Value.string).toArray 9))) c0 X c2 (show t5.length=5 by rw[a2];rfl));generalize wb.alloc (.cells (t5.map Value.string).toArray 9)=w6 at H6 ⊢;clear hK K hb kb c0 X c2 a2;refine vS ?_;refine Ma _ 87 #[.slice (some wb) 5 5] (Fo t5) rfl (λw1=>Fb (vX 87) vY) (λw1 Z=>LR w1 _ _ (H6.o.2.1.ext Z) (kL H6.o.d) (by rw[H6.o.E];decide)) ?_;refine vS ?_;refine vK ?_;refine Hi (λw7 h7=>?_);obtain⟨pb,X⟩:=vE (Fo t5);(have c1:¬(65536:Int)<(pb.size:Int):=by have:=HS.o;rw[H6.o.c, <-X]at this;omega);(have H7:=J (bA (b0.o.ext.trans (H6.o.1.trans h7)) X);rw[<-X];clear h7 X;go_wp2);go_ret2;exact⟨by rw[H6.o.c, <-H7.o.2];rfl,H1.o.2.trans H7.o.1⟩
theorem IK:vR 103 #[.int .i64 k,true] w (.tuple #[]):=by
 unfold vR vQ;go_in;go_wp2_with fail
 refine bodyPost_end (results_none rfl _ _ _) rfl ?_
 exact⟨rfl,Aa w⟩
theorem nE(s t:vB)(l:Bool)(o n:Nat)(hs:s.size<=1000000000)(hc:Dx s=some (l,o,n))(hon:o+n=s.size)(ht:s.extract o (o+n)=t):vR 106 #[.int .i64 k,s,l] w t:=by
 have H:=GY w s _ hs hc;have K:s.extract (o+n) s.size=⟨#[]⟩:=by rw[hon];apply ByteArray.ext;simp
 simp only[ht,K]at H;have H:=J H;clear hc hon ht K hs;unfold vR vQ;go_in;go_wp2_with fail
 refine H.o.mono ?_;rintro e w1 ⟨rfl,q⟩;have O:=J q;clear q;have X:=IK w1 k;cases l with
 |true =>(go_wp2_with fail);(refine X.mono ?_;rintro e Z ⟨rfl,q⟩;have A:=J (O.o.trans q);clear q;go_wp2);go_ret;exact⟨rfl,A.o⟩
 |false =>(go_wp2_with fail);(refine X.mono ?_;rintro e Z ⟨rfl,q⟩;have A:=J (O.o.trans q);clear q;go_wp2);go_ret;exact⟨rfl,A.o⟩
theorem pJ(xs:vM)(hx:∀ x∈xs,Xu x)(hs:(Aw xs).size<=1000000)(hn:xs.length<=1000000):vQ 104 #[.int .i64 k,Fo xs] w λe w'=>∃ v,e=.returned v/\Cg w w' v xs.length xs:=by
 obtain⟨o,H,K,O⟩:=GF xs vO
 have Z:=J (nE w k (Fo xs) (Aw xs) true o _ (by have:=CP 192 (Aw xs).size;unfold Fo;rw[cO];omega) H K O)
 have HI:=J (λw=>WX w xs hx vO hn);clear hx hs H K O;unfold vQ;go_in;go_wp2_with fail
 refine Z.o.mono ?_;rintro e w1 ⟨rfl,q⟩;have HE:=J q;clear q;go_wp2_with fail
 refine (HI.o w1).mono ?_;rintro e w2 ⟨v,rfl,X⟩;have HR:=J (Ar.since X HE.o);clear X;go_wp2_with fail
 refine vH (IK w2 k) λw3 q=>?_;have A:=J (HR.o.mono q);go_wp2
 go_ret
 exact⟨v,rfl,A.o⟩
def YI(m:Nat)(nv iv:vV)(wr:vW):Prop:=∃ i:Nat,i<=m/\iv=.int .i64 i/\nv=.int .u64 i
theorem G6(k:Nat)(hk:k=0\/k=1):vR 105 #[Av (Hr k)] w (.tuple #[.int .u64 (k:Int),qa]):=by
 rcases hk with rfl|rfl
 ·have A:=GY w (Av (Hr 0)) (false,1,0) vI vI;(have O:(Av (Hr 0)).extract 1 (1+0)=⟨#[]⟩:=by decide);(have X:(Av (Hr 0)).extract (1+0) (Av (Hr 0)).size=⟨#[]⟩:=by decide);(simp only[O,X]at A;have A:=J A;clear O X;unfold vR vQ;go_in;go_wp2_with fail);(refine A.o.mono ?_;rintro e w1 ⟨rfl,q⟩;have HE:=J q;clear q;go_wp2);(go_loopw [8,42] (λnv K wr=>YI 0 nv K wr/\Af w wr) (λ_ K _=>0-(intOf K).toNat));(case atStart=>exact⟨⟨0,by decide,rfl,rfl⟩,HE.o⟩);case round =>obtain⟨⟨i,hi,rfl,rfl⟩,q⟩:=hrel;have H:=J q;clear q;obtain rfl:i=0:=vO;(go_wp2);go_ret2;exact⟨rfl,H.o⟩
 ·have A:=GY w (Av (Hr 1)) (false,0,1) vI vI;(have O:(Av (Hr 1)).extract 0 (0+1)=⟨#[1]⟩:=by decide);(have X:(Av (Hr 1)).extract (0+1) (Av (Hr 1)).size=⟨#[]⟩:=by decide);simp only[O,X]at A;obtain⟨x,Z⟩:∃ x:vB,x=⟨#[1]⟩:=⟨_,rfl⟩;(have a0:x.size=1:=by rw[Z];rfl);have l1:0<x.size:=vO;(have c0:x[0].toNat=1:=by subst Z;rfl);(have c2:x.toList.isEmpty=false:=Sf l1;have c1:((x[0].toNat:Int) == 0)=false:=by rw[c0];rfl);(rw[<-Z]at A;clear Z;have A:=J A;clear O X;unfold vR vQ;go_in;go_wp2_with fail);(refine A.o.mono ?_;rintro e w1 ⟨rfl,q⟩;have HE:=J q;clear q;go_wp2);(go_loopw [8,42] (λnv K wr=>YI 1 nv K wr/\Af w wr) (λ_ K _=>1-(intOf K).toNat));(case atStart=>exact⟨⟨0,by decide,rfl,rfl⟩,HE.o⟩);case round =>obtain⟨⟨i,hi,rfl,rfl⟩,q⟩:=hrel;have H:=J q;clear q;by_cases hlt:i<1;{obtain rfl:i=0:=vO;(go_wp2);go_roundw;(case rel=>exact⟨⟨1,by decide,by go_num,by rfl⟩,H.o⟩);case measure=>simp[intOf]};obtain rfl:i=1:=vO;(go_wp2);go_ret2;exact⟨rfl,H.o⟩
theorem OH(b:vB)(hb:b.size<=1000):vR 106 #[.int .i64 k,Av b,false] w b:=by
 obtain⟨o,e,q,A⟩:=KF b vO
 exact nE w k _ b false o _ (kL (AD b)) e q A
theorem Ei:(callFunc 106 args).run prog w=.ok (.enter 106 args) w:=vY
theorem Gq:(prog.info? 53).map (·.size)=some 5:=vY
def FL(p:Fi):vM:=[Av (Hr p.kind),Av p.root,Av p.key,Av p.to,Fo (p.nodes.map Av)]
theorem Vc.sizes{p:Fi}(h:Vc p):p.kind<2/\p.root.size<=1000/\p.key.size<=1000/\p.to.size<=1000:=by
 have q:=h.root;have A:=h.key;have H:=h.to
 exact⟨by rcases h.kind with⟨e,_⟩|e<;>omega,by omega,by omega,by omega⟩
theorem M1{p:Fi}(h:Vc p):∀ x∈FL p,Xu x:=by
 obtain⟨A,H,K,O⟩:=h.sizes
 have X:=GN p.nodes h.short;have Z:=h.nodes;intro x e;have q:(Hr p.kind).size<=1048576:=by have:=EQ 8 p.kind;rw[show (Hr p.kind).size=(Pi 8 p.kind).length by simp[Hr,ByteArray.size]];omega
 simp only[FL,bU,gU,or_false]at e;rcases e with rfl|rfl|rfl|rfl|rfl
 ·exact Yp _ q
 ·exact Yp _ vO
 ·exact Yp _ vO
 ·exact Yp _ vO
 ·exact ZW _ vO
theorem zM{p:Fi}(h:Vc p):(Aw (FL p)).size<=1000000:=by
 obtain⟨e,q,A,H⟩:=h.sizes
 have K:=GN p.nodes h.short;have O:=h.nodes;have X:(Hr p.kind).size<=8:=by have:=EQ 8 p.kind;rw[show (Hr p.kind).size=(Pi 8 p.kind).length by simp[Hr,ByteArray.size]];omega
 have g1:=AD (Hr p.kind);have Z:=AD p.root;have g3:=AD p.key;have g4:=AD p.to;have g5:=UU (p.nodes.map Av);unfold FL;rw[CZ,CZ,CZ,CZ,CZ];simp only[cO]
 have:(Aw []).size=0:=rfl
 omega
theorem Uh:Xq (prog.underlying 53)=true:=vY
theorem ZL(vs:List vV)(hl:vs.length=5){T:TypeId}(hB:Ae W b (.cells vs.toArray T fz)):(Instr.loadAt 53 b).run prog W=.ok (.agg vs.toArray) W:=by
 obtain⟨A,e⟩:=Yo Uh
 exact Yr e (by rw[hl];exact Gq) (λj v q=>by rw[Go.WideShapes.add_plain,bX];exact hB.z1 q)
theorem ZA(vs:List vV)(hl:vs.length=5){T:TypeId}(hB:Ae W b (.cells vs.toArray T fz)):(loadVar 53 b).run prog W=.ok (.agg vs.toArray) W:=by
 have:=ZL W b vs hl hB
 simpa [Instr.loadAt,Instr.sureAddr,bS,Result.andThen]using this
theorem i5{t:Tmp}{ty:TypeId}(h:fn.results=#[.cell t ty]){a:Addr}(ha:tmps.getD t undef=.pointer (some a)){w:vW}(hl:(loadVar ty a).run P w=.ok v w):(results fn tmps).run P w=.ok v w:=by
 have e:tmps[t]?.getD undef=.pointer (some a):=by simpa using ha
 simp[results,h,e,asAddr,bS,Result.andThen,hl]
def uK(wL:vW)(pb:Nat)(p:Fi)(iv:vV)(wr:vW):Prop:=∃ i:Nat,i<=p.nodes.length/\iv=.int .i64 i/\∃ nv,Ae wr pb (.cells (p.cells nv).toArray 53)/\Ad (λz=>z=pb) wL wr/\(∃ a c,nv=.slice a i c)/\wr.ownsRow 0 9 1 nv i ((p.nodes.take i).map Value.string)/\∀ b,nv.ownBlock=some b->(wL:Nat)<=b
theorem jzw(p:Fi)(hp:Vc p)(hs:(Fe p).size<=65536):vQ 51 #[Fe p] w λe w'=>∃ nv,e=.returned (.agg (p.cells nv).toArray)/\Cg w w' nv p.nodes.length p.nodes:=by
 have HP:=J hp;have HS:=J hs
 obtain⟨m,hm⟩:=vE p.nodes.length
 have HM:=J hm
 obtain⟨s,b7⟩:=vE (Fe p)
 have g2:=J b7;have c1:(s.size:Int)<=65536:=by rw[b7];omega
 rw[<-b7, <-hm];have HI:=J (λw=>pJ w (-1) (FL p) (M1 hp) (zM hp) (by show 5<=1000000;decide));have c9:Fo (FL p)=s:=by rw[b7];rfl
 rw[c9]at HI;have d2:=J (show m<=200 by rw[hm];exact hp.nodes);have HG:=J (λw=>G6 w p.kind (by rcases hp.kind with⟨e,_⟩|e;exact .inl e;exact .inr e));clear hp hs hm b7 c9;unfold vQ;go_in;go_wp2_with fail
 have d3:=Ae.new w (.cells #[qa,(),(),(),qe] 53);have d4:=(Aa w).alloc (.cells #[qa,(),(),(),qe] 53);generalize w.alloc (.cells #[qa,(),(),(),qe] 53)=w1 at d3 d4 ⊢;refine vC (IK w1 (-1)) λw2 b8=>?_;have H2:=J (bA (d3.Z b8 kI) (d4.trans b8));clear d3 d4 b8;go_wp2_with fail
 refine (HI.o w2).mono ?_;rintro e w3 ⟨v3,rfl,d0⟩
 obtain⟨a3,c3,rfl⟩:=d0.sl
 obtain⟨g3,rfl⟩:=IE d0.own (by show 5≠0;decide)
 have H3:=J d0;clear d0;have c9:(FL p).length=5:=rfl;rw[c9]at H3 ⊢;go_wp2_with fail
 refine vC (IK w3 (-1)) λw4 d5=>?_;have e8:=J (H3.o.mono d5);have c2:=d5;have q0:=BN e8.o.own (j:=0) (u:=.string (Av (Hr p.kind))) rfl;clear d5;go_wp2_with fail
 refine vH (HG.o w4) λw5 e9=>?_;have g4:=J (e8.o.mono e9);have c4:=c2.trans e9;have h8:(p.kind:Int)<=1:=kL HP.o.sizes.1
 clear q0;go_wp2_with fail
 refine vH (IK w5 0) λw6 f0=>?_;have g5:=J (g4.o.mono f0);have f1:=J (c4.trans f0);clear c2 c4;have H:=g5.o;have r1:=BN H.own (j:=1) (u:=.string (Av p.root)) rfl;have r2:=BN H.own (j:=2) (u:=.string (Av p.key)) rfl;have r3:=BN H.own (j:=3) (u:=.string (Av p.to)) rfl;have r4:=BN H.own (j:=4) (u:=.string (Fo (p.nodes.map Av))) rfl;have g6:=H.lt g3 rfl;have H6:=J (kT (show ¬ (w6:Nat)<=g3 by omega) (kT r1 r2 r3) r4);go_wp2_with fail
 clear H r1 r2 r3 r4 g6;refine Na [0,1,2,3,4,5,6,7,8,9,10,11,12,13,14,15,16] [15,16] Af (Ad λz=>(w6:Nat)<=z) Aa Ap (λx y z h k=>Ad.trans h k) (λx y h=>h.mono kZ) vY vY vY ?_;iterate 4 refine vD ?_
 refine Fa ⟨g3,1,none⟩ (Av p.root) rfl (λw1 h1=>De zf (Ed (Am H6.o.2.1.1 (Ao _)) h1 H6.o.1)) (vS ?_);refine GA _ 106 #[.int .i64 1,Av p.root,false] p.root rfl vY rfl (λw1=>Fb Ei vY) (λw1 h1=>OH w1 1 p.root HP.o.sizes.2.1) (vS ?_);iterate 2 refine vD ?_
 refine Fa ⟨g3,2,none⟩ (Av p.key) rfl (λw1 h1=>De zf (Ed (Am H6.o.2.1.2.1 (Ao _)) h1 H6.o.1)) (vS ?_);refine GA _ 106 #[.int .i64 2,Av p.key,false] p.key rfl vY rfl (λw1=>Fb Ei vY) (λw1 h1=>OH w1 2 p.key HP.o.sizes.2.2.1) (vS ?_);iterate 2 refine vD ?_
 refine Fa ⟨g3,3,none⟩ (Av p.to) rfl (λw1 h1=>De zf (Ed (Am H6.o.2.1.2.2 (Ao _)) h1 H6.o.1)) (vS ?_);refine GA _ 106 #[.int .i64 3,Av p.to,false] p.to rfl vY rfl (λw1=>Fb Ei vY) (λw1 h1=>OH w1 3 p.to HP.o.sizes.2.2.2) (vS ?_)
 refine vD ?_
 refine Hh _ rfl (λO hb K X=>?_);have kb:Af w6 O:=(Ao _).trans hb;refine Ro (v:=.pointer (some O)) (w':=O.alloc (.cells #[qa,(),(),(),qe] 53)) vY (X _ _ ((Ad.refl _ O).alloc _) ?_);have f2:=Ae.new O (.cells #[qa,(),(),(),qe] 53);have k7:Af w6 (O.alloc (.cells #[qa,(),(),(),qe] 53)):=kb.trans ((Aa O).alloc _);have H7:=J (kT kb.size f2 k7);generalize O.alloc (.cells #[qa,(),(),(),qe] 53)=w7 at H7 ⊢;clear X K hb kb f2 k7;refine vS ?_;refine Hh _ rfl (λwc hc K X=>?_);have g7:=H7.o.1;refine PJ (old:=[qa,(),(),(),qe]) (vs:=p.cells qe) rfl rfl rfl (H7.o.2.1.Z hc kI) (by show 5<=5;decide) Gq (by simp[Fi.cells,Value.oneCell']) (λW8 f3 d6=>X _ _ (d6.mono λz _ e=>by have e:z=(O:Nat):=e;show (w6:Nat)<=z;omega) ?_);have H8:=J (kT (H7.o.2.2.trans hc) f3 d6);clear X K hc f3 d6;refine vS ?_;refine Mt (λw9 h9=>?_)
 obtain⟨A,d7⟩:=vE O.heap.size
 have k9:Af w6 w9:=(H8.o.1.O H8.o.C kJ).trans h9;have f4:Ae w9 A (.cells (p.cells qe).toArray 53):=by have:=H8.o.2.1.Z h9 kI;rw[d7];simpa [Fi.cells]using this
 rw[<-d7];have r4:=Am H6.o.C k9;have H9:=J (kT k9 f4 (show (w6:Nat)<=A by omega));clear h9 k9 f4 d7 g7;go_wp2_with fail
 have f5:∀ x∈p.nodes.map Av,Xu x:=λx hx=>by obtain⟨y,hy,rfl⟩:=bC.1 hx;exact Yp y (kL (HP.o.short y hy))
 refine (pJ w9 4 (p.nodes.map Av) f5 (by have:=GN p.nodes HP.o.short;have:=HM.o;have:=d2.o;omega) (by rw[bT];have:=HM.o;have:=d2.o;omega)).mono ?_;rintro e b9 ⟨i0,rfl,a4⟩;have f6:(p.nodes.map Av).length=m:=by rw[bT,HM.o]
 rw[f6]at a4
 obtain⟨i1,i2,rfl⟩:=a4.sl
 have b0:=H9.o.2.1.Z a4.ext kI;have d8:=b0.lt;have a7:=J (kU a4 b0 d8 H9.o.2.1.lt);clear a4 b0 d8 f5 f6 r4;go_wp2
 go_loopw [54] (λiv wr=>uK b9 A p iv wr) (λiv _=>m-(intOf iv).toNat)
 case atStart=>exact⟨0,cD _,rfl,_,a7.o.b,Ad.refl _ _,⟨none,0,rfl⟩,fK _ _ _ _,λb hb=>by cases hb⟩
 case round =>obtain⟨i,hi,rfl,nv,hB,X,⟨an,cn,rfl⟩,c5,Z⟩:=hrel;have HR:=J (kU hB X c5 Z);have f7:=HM.o;clear hB X c5 Z;by_cases hlt:i<m;{obtain⟨x,hx⟩:∃ x,p.nodes[i]?=some x:=⟨_,bB (by rw[<-HM.o];exact hlt)⟩;have HX:=J hx;obtain⟨d9,rfl⟩:=IE a7.o.1.own vO;have e4:(w9:Nat)<=d9:=a7.o.1.new d9 rfl;have q1:=Ed (BN a7.o.1.own (j:=i) (u:=.string (Av x)) (by rw[bY,bY,hx];rfl)) HR.o.b (show ¬ d9=A by have:=a7.o.D;omega);have b1:(i:Int)<(m:Int):=vO;(have g8:x.size<=1000:=HP.o.short x (bD hx);clear hx e4 f7;go_wp2_with fail);have d8:=a7.o.c;have i3:=HR.o.2.1.size;have a9:=HR.o.D;refine BF [0,1,2,3,4,5,6] 7 [3,4,5] Af (Ad λz=>(b9:Nat)<=z) Aa Ap (λx y z h k=>Ad.trans h k) (λx y h=>h.mono kZ) vY vY vY ?_;refine vZ ?_;refine Vi ⟨A,4,none⟩ (.slice an i cn) rfl (λw1 h1=>De zf ((HR.o.1.drew.Z h1 vO).z1 rfl)) (vS ?_);refine vZ ?_;refine Zs _ rfl vY rfl (λwa ha K X=>?_);have ka:Af wr wa:=(Ao _).trans ha;refine Ou (Fb Ei vY) ((OH wa 4 x g8).mono ?_);rintro e h5 ⟨rfl,a5⟩;refine⟨_,rfl,X _ _ (a5.mono kZ) ?_⟩;have a5:=ka.trans a5;clear X K ha ka;refine vS ?_;refine Zs _ rfl vY rfl (λO hb K X=>?_);have kb:Af wr O:=a5.trans hb;have g9:=kb.size;refine Ro (v:=.slice (some O) 1 1) (w':=O.alloc (.cells #[.string x] 9)) vY (X _ _ ((Ad.refl _ O).alloc _) ?_);have Z:=Jx (news:=[.string x]) (Ae.new O (.cells #[.string x] 9));have a0:Af wr (O.alloc (.cells #[.string x] 9)):=kb.trans ((Aa O).alloc _);generalize O.alloc (.cells #[.string x] 9)=f8 at Z a0 ⊢;clear X K hb kb;refine vS ?_;refine Zs _ rfl vY rfl (λwc hc K X=>?_);have q:=a0.trans hc;have a1:=Kh HR.o.c q;have i4:i<=200:=kL d2.o;refine DE Ci (Ar.any a1) (.tmp 59) (.tmp 62) (news:=[.string x]) rfl rfl (λj u hj=>by have:=Z j u hj;rw[Addr.add_lit]at this ⊢;exact Am this hc) (by intro u hu;simp at hu;rw[hu];rfl) rfl rfl zi vO (λv' b5 r1 r2 r3=>X _ _ (r2.mono λz _ e=>a9 z e) ?_);obtain⟨a',c',rfl⟩:=r1.sl;have a8:=J (kU q r1.own r2 r3);clear X K hc a1 r1 r2 r3 q a0 Z a5 g9;refine vS ?_;refine vZ ?_;(refine BJ _ rfl vY rfl (λwd hd K X=>?_);have q:=a8.o.1;have d1:=((HR.o.1.Z q kI).Z a8.o.c λe=>by have h:=a9 A e;omega).Z hd kI;have qd:wd.cell? ⟨A,4,none⟩=some (.slice an i cn):=d1.z1 rfl;have fd:wd.frozen? ⟨A,4,none⟩=false:=d1.frozen;have e0:=J (bA hd d1);clear hd d1 q;go_simp;refine X _ _ ?_;clear X K qd fd;have b2:=e0.o.2.z2 (i:=4) (.slice a' (i+1) c');have e1:=Ad.z4 wd ⟨A,4,none⟩ (.slice a' (i+1) c');generalize wd.setCell ⟨A,4,none⟩ (.slice a' (i+1) c')=w13 at b2 e1 ⊢;have b3:=J (bA b2 e1);clear b2 e1;go_wp2);go_roundw;(case rel =>refine⟨i+1,kL HM.o,by go_num,_,b3.o.1,?_,⟨a',c',rfl⟩,?_,λb hb=>?_⟩;{have k1:Ad (λz=>z=A) b9 wr:=HR.o.b;(have k2:Ad (λz=>z=A) wr wc:=a8.o.1.mono kZ;have k3:=(k1.trans k2).O a8.o.c λz hz e=>by have h:=a9 z e;omega);exact (k3.trans (e0.o.1.mono kZ)).trans b3.o.2};{(have h0:∀ b,(Value.slice a' (i+1) c').ownBlock=some b->(b9:Nat)<=b:=λb hb=>by rcases a8.o.D with e|e;{rw[e]at hb;exact a9 b hb};have h1:=e b hb;have h2:=a8.o.1.size;omega);have:=Lb (Kh a8.o.b e0.o.1) b3.o.2 (λb hb e=>by have h:=h0 b hb;have e:b=A:=e;omega);rw[cB,HX.o,bW];exact this};rcases a8.o.D with e|e;{rw[e]at hb;exact a9 b hb};have h1:=e b hb;have h2:=a8.o.1.size;omega);case measure=>exact vJ};have b1:¬(i:Int)<(m:Int):=vO;obtain rfl:i=m:=vO;(clear f7;have b6:=HR.o.1;have p0:wr.cell? A=some (.int .i64 (p.kind:Int)):=b6.z1 rfl;have p1:wr.cell? ⟨A,1,none⟩=some (.string p.root):=b6.z1 rfl;have p2:wr.cell? ⟨A,2,none⟩=some (.string p.key):=b6.z1 rfl;have p3:wr.cell? ⟨A,3,none⟩=some (.string p.to):=b6.z1 rfl;have p4:wr.cell? ⟨A,4,none⟩=some (.slice an i cn):=b6.z1 rfl;have a1:wr.ownsRow 0 9 1 (.slice an i cn) i (p.nodes.map Value.string):=by have:=HR.o.c;rw[HM.o,cF]at this;rw[HM.o];exact this);(have h3:=J a1;have b4:=XS wr p (.slice an i cn) (Cg.rd (Ar.any a1)) HP.o HS.o;rw[<-g2.o]at b4;have e5:=J b4;clear b6 a1 b4;go_wp2_with fail);(refine e5.o.mono ?_;rintro e f8 ⟨rfl,a0⟩;have e6:=J a0;clear a0 p0 p1 p2 p3 p4;go_wp2_with fail);(refine vH (IK f8 (-1)) λb5 q=>?_;have hE:=e6.o.trans q;have a2:=HR.o.1.Z hE kI;have p0:b5.cell? A=some (.int .i64 (p.kind:Int)):=a2.z1 rfl;have p1:b5.cell? ⟨A,1,none⟩=some (.string p.root):=a2.z1 rfl;have p2:b5.cell? ⟨A,2,none⟩=some (.string p.key):=a2.z1 rfl;have p3:b5.cell? ⟨A,3,none⟩=some (.string p.to):=a2.z1 rfl;have p4:b5.cell? ⟨A,4,none⟩=some (.slice an i cn):=a2.z1 rfl;have c0:Af w2 w9:=H3.o.ext.trans (f1.o.trans H9.o.1);have e2:(w:Nat) < ↑w6:=by have:=H2.o.1.lt;have:=H3.o.ext.size;have:=f1.o.size;omega);(have f9:=(H2.o.1.Z c0 kI).Z a7.o.1.ext kI;have e3:=(f9.Z HR.o.b (show ¬ (w:Nat)=A by have:=H9.o.C;omega)).Z hE kI;have c7:=J (kU hE e3 c0 e2);clear hE a2 c0 f9 e3 e2;go_wp2_with (refine Bt (vs:=p.cells (.slice an i cn)) rfl rfl rfl rfl c7.o.b rfl Gq (by simp[Fi.cells,Value.oneCell']) ?_;intro g0 e7 c8));refine bodyPost_ret (i5 rfl rfl (ZA g0 w _ rfl e7)) rfl ?_;obtain⟨hE,e3,c0,e2⟩:=c7.o;have h6:=H9.o.C;have h4:Af w w9:=H2.o.2.trans c0;have h7:=a7.o.1.ext.size;have b8:Af w g0:=((((h4.trans a7.o.1.ext).O HR.o.b kJ).trans hE).O c8 kJ);have a9:∀ b,(Value.slice an i cn).ownBlock=some b->(b9:Nat)<=b:=HR.o.D;refine⟨_,rfl,⟨⟨an,cn,rfl⟩,Lb (Kh h3.o hE) c8 λb hb e=>by have:=a9 b hb;have e:b=(w:Nat):=e;have:=H9.o.1.size;omega,b8,λb hb=>by have:=a9 b hb;have:=H9.o.1.size;omega⟩⟩
theorem jzu(x y:vV):CallsD prog 49 #[x,y] .returning w λe A w'=>A=.returning/\e=.returned (.tuple #[])/\w'=w:=by
 refine callsD_of_wpS func49 rfl λq cs H=>?_;apply wpS_seq;apply wpS_region;simp[wpOpsS,go_sem,recoverD,H,ntmps49,Exit.thenS];apply wpS_seq;apply wpS_seq;apply wpS_region;simp[wpOpsS,go_sem,Exit.thenS];refine wpS_cond (t:=true) (by simp[Act.eval,Array.replicate]) ?_;simp only[if_true];refine wpS_of_wp (wp_ret ?_);cases q
 simp_all [bodyPostS,results,func49,Exit.thenS]
theorem g9{t u:Tmp}{ty ty2:TypeId}(h:fn.results=#[.cell t ty,.cell u ty2]){a a':Addr}(ha:tmps.getD t undef=.pointer (some a))(hb:tmps.getD u undef=.pointer (some a')){w:vW}{x:vV}(hl:(loadVar ty a).run P w=.ok v w)(hx:(loadVar ty2 a').run P w=.ok x w):(results fn tmps).run P w=.ok (.tuple #[v,x]) w:=by
 have e:tmps[t]?.getD undef=.pointer (some a):=by simpa using ha
 have q:tmps[u]?.getD undef=.pointer (some a'):=by simpa using hb
 simp[results,h,e,q,asAddr,bS,Result.andThen,hl,hx]
theorem zQ(p:Fi)(hp:Vc p)(hs:(Fe p).size<=65536):vQ 16 #[Fe p] w λe w'=>∃ nv,e=.returned (.tuple #[.agg (p.cells nv).toArray,qa])/\Cg w w' nv p.nodes.length p.nodes:=by
 have HR:=J (λw=>jzw w p hp hs);have a7:∀ (fn:Fn) (first cap:Array vV) (w:vW),(Instr.makeFunc fn first cap).run prog w=.ok (.func fn first cap) w:=λ_ _ _ _=>rfl
 obtain⟨s,X⟩:=vE (Fe p)
 rw[<-X]at HR ⊢;clear hp hs X;go_enter_defers func16,ntmps16;go_wp2_with fail
 have K:=(Ae.new w (.cells #[qa,(),(),(),qe] 53)).alloc (.cells #[qa] 27);have A:=((Aa w).alloc (.cells #[qa,(),(),(),qe] 53)).alloc (.cells #[qa] 27);have H:Ae ((w.alloc (.cells #[qa,(),(),(),qe] 53)).alloc (.cells #[qa] 27)) ((w:Nat)+1) (.cells #[qa] 27):=by have:=Ae.new (w.alloc (.cells #[qa,(),(),(),qe] 53)) (.cells #[qa] 27);rwa [bJ]at this
 generalize (w.alloc (.cells #[qa,(),(),(),qe] 53)).alloc (.cells #[qa] 27)=w1 at K A H ⊢;have a8:=H.lt;refine (HR.o w1).mono ?_;rintro e w2 ⟨nv,rfl,q⟩;have HB:=J (kU (K.Z q.ext kI) (H.Z q.ext kI) A q)
 obtain⟨a2,c2,rfl⟩:=q.sl
 obtain⟨m,hm⟩:=vE p.nodes.length
 have HM:=J hm;unfold Fi.cells;rw[<-hm]at HB ⊢;clear K H A q hm;go_wp2_with (refine Bt (vs:=p.cells (.slice a2 m c2)) rfl rfl rfl rfl HB.o.1 rfl Gq (by simp[Fi.cells,Value.oneCell']) ?_;intro W3 a3 Z;have O:=HB.o.2.1.Z Z (show ¬ (w:Nat)+1=↑w by omega);have q3:W3.cell? ((w:Nat)+1:)=some (.int .i64 0):=O.cell (i:=0) rfl;have f3:W3.frozen? ((w:Nat)+1:)=false:=O.frozen)
 have a0:=O.z2 (i:=0) qa;have k4:=Ad.z4 W3 ((w:Nat)+1:) qa;have a1:=a3.Z k4 (show ¬ (w:Nat)=↑w+1 by omega);generalize W3.setCell ((w:Nat)+1:) qa=w4 at a0 k4 a1 ⊢;refine leaves_cons (f:=49) (args:=#[w,((w:Nat)+1:)]) (by simp) (by simp[go_sem]) ?_;refine (jzu w4 _ _).mono ?_;rintro e u' w5 ⟨rfl,rfl,rfl⟩;have a4:=ZA w5 w _ rfl a1;have a5:(loadVar 27 ((w:Nat)+1:)).run prog w5=.ok qa w5:=by have:=Bv underlying27 rfl (a0.cell (i:=0) (v:=.int .i64 0) rfl);simpa [Instr.loadAt,Instr.sureAddr,bS,Result.andThen]using this
 obtain⟨_,_,A,q⟩:=HB.o
 have a9:=q.ext.size;have kx:Ad (λz=>z=(w:Nat)\/z=(w:Nat)+1) w2 w5:=(Z.mono λz _ e=>.inl e).trans (k4.mono λz _ e=>.inr e)
 refine⟨_,g9 rfl rfl rfl a4 a5,_,by rw[HM.o],?_⟩
 rw[HM.o]at q
 exact⟨⟨a2,c2,rfl⟩,Lb q.own kx (λb hb e=>by have:=q.new b hb;rcases e with e|e<;>omega),(A.trans q.ext).O kx (λz hz e=>by rcases e with e|e<;>omega),λb hb=>kL (q.new b hb)⟩
end
section
open Go Go.RowKit
attribute [local go_sem] Oper.semAt_some
def CI:vV:=.iface 27 (.int .i64 10)
def RO(z:Nat)(W:vW)(v:vV):Prop:=∃ (b:Nat) (k:Int),v=.iface 281 b/\Ae W b (.cells #[.int .i64 k,CI] 283)/\z<=b
def Nw(W:vW)(wb:Nat)(root:vB)(v:vV)(u:Nat)(ev:vV):Prop:=Ae W wb (.cells #[root,v,(u:Int),ev] 285)
theorem WN{o:Oper}{a:Act}{w:vW}{K:Act->vW->Prop}{T:TypeId}{cs:List vV}(hrun:∀ w,(Instr.alloc T true (.tuple #[])).run P w=.ok w (w.alloc (.cells cs.toArray T)))(ho:o.op=.alloc T)
  (h:∀ W,Ae W w (.cells cs.toArray T)->Af w W->K (a.put o.dst w) W):o.wp P a w K Q:=
 Ro (v:=.pointer (some w)) (w':=w.alloc (.cells cs.toArray T)) (by simp only[execOp,ho,bS,hrun,Result.andThen,cT]) (h _ (Ae.new w _) ((Aa w).alloc _))
def yL(W:vW)(wb:Nat)(root:vB)(v:vV)(u:Nat)(ev:vV)(r:Option Ai)(e:Ending)(w':vW):Prop:=
 Ad (λb=>b=wb) W w'/\match r with
  |some n=>e=.returned (.tuple #[n.V,true])/\Nw w' wb root v (u+1) ev/\n.refs.length=16
  |none=>e=.returned (.tuple #[Cv.V,false])/\∃ ev',RO W w' ev'/\Nw w' wb root v u ev'
theorem Lk{a b:vW}(h:Af a b):Ad F a b:=h.mono kZ
theorem Rb:Xq (prog.underlying 117)=true:=vY
theorem Ej:(prog.info? 117).map (·.size)=some 2:=vY
def Jo:Option vB->List vV|some u=>[true,u]|none=>[false,()]
def Ls(o:Option vB):vV:=.agg (Jo o).toArray
theorem Wy:(Jo o).length=2:=by cases o<;>rfl
theorem LL:∀ v∈Jo o,v.oneCell'=true:=by
 cases o <;>(intro v e;simp[Jo]at e;rcases e with rfl|rfl<;>rfl)
theorem SI{w:vW}{b:Nat}{o:Option vB}(hB:Ae w b (.cells (Jo o).toArray 117)):(Instr.loadAt 117 b).run prog w=.ok (Ls o) w:=by
 obtain⟨A,e⟩:=Yo Rb
 exact Yr e (by rw[Wy];exact Ej) (λj v q=>by rw[OI];exact hB.z1 q)
theorem RZ{w:vW}{b:Nat}{o:Option vB}(hB:Ae w b (.cells (Jo o).toArray 117)):(loadVar 117 b).run prog w=.ok (Ls o) w:=by
 have:=SI hB
 simpa [Instr.loadAt,Instr.sureAddr,bS,Result.andThen]using this
theorem Dv:∀ w,(Instr.alloc 117 true (.tuple #[])).run prog w=.ok w (w.alloc (.cells (Jo none).toArray 117)):=λw=>by kernel_rfl
theorem A3(pa va p:vB)(rs:vM)(hr:rs.length=16):vR 153 #[(Ai.mk 1 pa va rs).V,pa] W (Ls (some va)):=by
 have HL:=J (Ai.z3 ⟨1,pa,va,rs⟩ hr);clear hr;have O:(⟨#[]⟩:vB).toList.isEmpty=true:=by rw[cA];rfl
 skip
 have X:=J ((Ae.new W (.cells (Ai.cells ⟨1,pa,va,rs⟩).toArray 215)).z1 (i:=0) (v:=.int .i64 1) vF);have Z:=J ((Ae.new W (.cells (Ai.cells ⟨1,pa,va,rs⟩).toArray 215)).z1 (i:=1) (v:=.string pa) vF);have Q2:=J ((Ae.new W (.cells (Ai.cells ⟨1,pa,va,rs⟩).toArray 215)).z1 (i:=2) (v:=.string va) vF);unfold Ai.V;unfold vR vQ;go_in;go_wp2_with (first|(refine Di Dv rfl rfl ?_;intro W2 A q;rw[bJ]at A;have q0:=Am X.o q;have q1:=Am Z.o q;have q2:=Am Q2.o q)|(refine Bt (old:=Jo none) (vs:=Jo (some va)) rfl rfl rfl rfl A rfl Ej (LL _) ?_;intro W8 H K))
 refine bodyPost_ret (Zq rfl rfl (RZ H)) rfl ?_
 exact⟨rfl,(((Aa W).alloc _).trans q).O K λx hx e=>by have e:x=_:=e;have:=(((Aa W).alloc (.cells (Ai.cells ⟨1,pa,va,rs⟩).toArray 215)):Af W _).size;omega⟩
end
section
open Go Go.RowKit
end
section
open Go Go.RowKit
attribute [local go_sem] Oper.semAt_some
section wide
variable {P:Program}
theorem eO{o:Oper}{a:Act}{w:vW}{K:Act->vW->Prop}{Q:Exit->Act->vW->Prop}(hd:∀ c,o.op≠.defer c)(h:o.wp P a w K λ_ _ _=>False):o.wpIn Fence.wide 0 P a w K Q:=by
 unfold Oper.wp at h
 refine⟨λ_ _=>trivial,?_⟩
 rw[Oper.semAt_eq _ _ _ hd];generalize (execOp a.eval o).run P w=r at *;cases r with
 |ok x w' =>(cases x with| value v=>exact h| skip=>exact h| defer d=>exact h| enter f args =>(refine bA (λq=>absurd q (by simp[Fence.wide])) (callsIn_wide.2 (Calls.mono h λe H A=>?_));cases e with| returned v=>exact A| panicked c=>exact A.elim| outgrown=>exact absurd A (λ⟨_,_,h⟩=>h))| row r args=>exact bA (λq=>absurd q (by simp[Fence.wide])) (λc cs _=>let ⟨v,w',r,s⟩:=h c cs;⟨v,w',r,stepsIn_wide.2 s⟩)| round l f t a b=>exact h.elim| _=>exact h.elim)
 |halt x w' =>cases x<;>first|exact h.elim|exact h
theorem SC{ops:Array Oper}{rest:List Oper}{o:Oper}{a:Act}{w:vW}{Q:Exit->Act->vW->Prop}{T:TypeId}{cs:List vV}(hrun:∀ w,(Instr.alloc T true (.tuple #[])).run P w=.ok w (w.alloc (.cells cs.toArray T)))(hgd:o.guard=none)(ho:o.op=.alloc T)
  (h:∀ W,Ae W w (.cells cs.toArray T)->Af w W->wpListIn Fence.wide 0 P ops Q rest (a.put o.dst w) W):wpListIn Fence.wide 0 P ops Q (o::rest) a w:=
 wpListIn_plain hgd λK e=>eO (by rw[ho];intro c q;cases q) (Ro (v:=.pointer (some w)) (w':=w.alloc (.cells cs.toArray T)) (by simp only[execOp,ho,bS,hrun,Result.andThen,cT]) (e _ _ (h _ (Ae.new w _) ((Aa w).alloc _))))
theorem t_{ops:Array Oper}{rest:List Oper}{o:Oper}{a:Act}{w:vW}{Q:Exit->Act->vW->Prop}{T T2:TypeId}{x y:Operand}{b:Nat}{old vs:List vV}(hgd:o.guard=none)(ho:o.op=.store T x y)(hx:a.eval x=.pointer (some b))(hy:a.eval y=.agg vs.toArray)
  (hB:Ae w b (.cells old.toArray T2)) (hl:old.length=vs.length) (hi:(P.info? T).map (·.size)=some vs.length) (h1:∀ v∈vs,v.oneCell'=true)
  (h:∀ W,Ae W b (.cells vs.toArray T2)->Ad (λz=>z=b) w W->wpListIn Fence.wide 0 P ops Q rest (a.put o.dst undef) W):wpListIn Fence.wide 0 P ops Q (o::rest) a w:=by
 refine wpListIn_plain hgd λK e=>eO (by rw[ho];intro c q;cases q) ?_;refine wp_store_mid T x y ho b 0 vs.toArray hx hy (by have:=LN hB;rw[hl]at this;simpa using this) (by simpa using hi) (all_oneCell_toArray h1) (e _ _ (h _ ?_ (Ad.z9 b vs 0 w)))
 have:=Ae.setCells vs 0 w old hB vO
 rw[fZ vO]at this;simpa using this
end wide
structure Wm(W0:World)(b1 wb pc:Nat)(root:vB)(v:Value)(p0:vB)(O:Bd)(W:World):Prop where
 is:∀ b,O b↔b<(W0:Nat)\/b=b1\/b=wb\/b=pc
 size:(W0:Nat)<=↑W
 old:∀ b,b<(W0:Nat)->W.heap[b]?=W0.heap[b]?
 way:Nw W wb root v 0 .nilIface
 cap:Ae W b1 (.cells #[wb] 331)
 path:Ae W pc (.cells #[p0] 9)
theorem Wm.supp(W0:vW)(b1 wb pc:Nat)(root:vB)(v:vV)(p0:vB):Mg (Wm W0 b1 wb pc root v p0):=by
 refine⟨λD W h b hb=>?_,λD W A h q hb=>⟨h.is,bH h.size q,λb e=>(hb b ((h.is b).2 (.inl e))).trans (h.old b e),(hb _ ((h.is _).2 (.inr (.inr (.inl rfl))))).trans h.way,(hb _ ((h.is _).2 (.inr (.inl rfl)))).trans h.cap,(hb _ ((h.is _).2 (.inr (.inr (.inr rfl))))).trans h.path⟩⟩
 rcases (h.is b).1 hb with h1|rfl|rfl|rfl
 ·exact bE h1 h.size
 ·exact h.cap.lt
 ·exact Ae.lt h.way
 ·exact h.path.lt
def atV(vs:List (Ai × vB))(k:Nat):Ai × vB:=vs.getD k (Cv,⟨#[]⟩)
def RD(vs:List (Ai × vB))(k:Nat):Array vV:=#[(atV vs k).1.V,.string (atV vs k).2]
structure uE(W:World)(wb b1 pc L:Nat)(C:Nat->Bd->World->Prop)(D:Bd)(k:Nat)(Dk:Bd)(p:vB)(n:Ai)(wr:World):Prop where
 at':C k Dk wr
 sub:∀ b,Dk b->D b\/(W:Nat)<=b
 kp:Ad (λb=>D b\/b=wb\/b=pc) W wr
 path:Ae wr pc (.cells #[p] 9)
 var:Ae wr L (.cells n.cells.toArray 215)
 nL:¬ Dk L
 len:n.refs.length=16
end
section
open Go Go.RowKit
attribute [local go_sem] Oper.semAt_some
theorem d_{F:Fence}{n:Nat}{w:vW}{ops:Array Oper}{rest:List Oper}{o:Oper}{a:Act}(t:TypeId)(x:Operand)(ho:o.op=.load t x)(hw:Region.wanted o (yielded ops a.tmps)=true)(v:vV)(p:Addr)(hx:a.eval x=.pointer (some p))
  (hr:(Instr.loadAt t p).run P w=.ok v w) (h:wpListIn F n P ops Q rest (a.put o.dst v) w):wpListIn F n P ops Q (o::rest) a w:=by
 refine wpListIn_step λK e=>?_;rw[if_pos hw];unfold Oper.wpIn
 refine⟨?_,?_⟩
 ·simp[Oper.about,ho]
 ·rw[Oper.semAt_plain F _ _ (by rw[ho];intro c q;cases q)];simp only[execOp,ho,hx,bS,hr,Result.andThen,cT];exact e _ _ h
theorem Nw.root'{W:vW}{wb:Nat}(h:Nw W wb root v u ev):W.cell? wb=some (.string root):=Ae.cell (i:=0) h vF
end
section
open Go Go.RowKit
section mixh
variable {P:Program} {l:List Oper} {E D:vW->vW->Prop}
def Kd(P:Program)(l:List Oper)(hd:List Nat)(E D:vW->vW->Prop)(Q:Act->vW->Prop):Nat->List Nat->Act->vW->Prop
 |0,done,a,w=>∀ w1,E w w1->Region.ready .any l.toArray (Ec l done)=[]/\Q a w1
 |n+1,done,a,w =>
  (∃ k,k∈Region.ready .any l.toArray (Ec l done)/\Region.free .any l.toArray (Ec l done) k=true/\∃ o v,l[k]?=some o/\Sg P l.toArray E D w o v a/\Kd P l hd E D Q n (k::done) (a.put o.dst v) w) \/
  (Region.ready .any l.toArray (Ec l done)≠[]/\∀ i∈Region.ready .any l.toArray (Ec l done),i∈hd/\∀ w1,E w w1->wpOp P l.toArray Mv i (λa' w'=>D w1 w'/\Kd P l hd E D Q n (i::done) a' w') a w1)
theorem SK(hE:∀ w,E w w)(hT:∀ x y z,E x y->E y z->E x z)(hD:∀ x y z,D x y->D y z->D x z)(hED:∀ x y,E x y->D x y)(hs:Region.noSelect l.toArray=true){hd:List Nat}{Q:Act->vW->Prop}:∀ (n:Nat) (done:List Nat) (a:Act) (w:vW),
  Kd P l hd E D Q n done a w->Tg P l.toArray hd E D Q n (Ec l done) a w
 |0,_,_,_,h=>h
 |n+1,done,a,w,h=>by
  rcases h with⟨k,hr,hf,o,v,ho,hy,h⟩|⟨hr,h⟩
  ·have e:l.toArray[k]?=some o:=by simpa using ho
   exact eR hE hT hD hED e (gQ hs) n (Ec l done) a w (iL e hf) hr hy (SK hE hT hD hED hs n _ _ _ h)
  ·intro w1 A
   refine⟨λH=>absurd H hr,λi K=>?_⟩
   obtain⟨O,h⟩:=h i K
   exact wpOp_mono (λZ w' q=>⟨q.1,λX=>absurd O X,SK hE hT hD hED hs n _ _ _ q.2⟩) (h w1 A)
theorem u_(hd:List Nat)(E D:vW->vW->Prop)(hE:∀ w,E w w)(hT:∀ x y z,E x y->E y z->E x z)(hD:∀ x y z,D x y->D y z->D x z)(hED:∀ x y,E x y->D x y){id:Nat}{Q:Exit->Act->vW->Prop}{a:Act}{w:vW}
  (hm:P.follows .mixedOrders=true) (hs:Region.noSelect l.toArray=true) (n:Nat) (hl:n=l.toArray.size)
  (h:Kd P l hd E D (λa w=>Q .normal a w) n [] a w.drew):(Code.region id l.toArray true).wp P Q a w:=by
 refine wp_region_any hm ?_;rw[<-hl]
 have:=SK hE hT hD hED hs n _ _ _ h
 unfold Ec at this;rw[<-hl]at this;exact SN hE (λ_ _ h=>h) _ _ _ _ this
variable {Q:Act->vW->Prop} {done hd:List Nat} {a:Act} {w:vW} {k n:Nat} {o:Oper}
theorem BI(o:Oper)(ho:l[k]?=some o)(hk:headD l done k=true)(hw:Region.wanted o (yielded l.toArray a.tmps)=true)(hq:EV o.op=true)
  (h:∀ K:Act->Prop,(∀ a',Kd P l hd E D Q n (k::done) a' w->K a')->o.quiet P a (λ_=>True) K):Kd P l hd E D Q (n+1) done a w:=by
 simp only[headD,cI,cM]at hk
 obtain⟨v,A,H⟩:=h _ (λ_ h=>h)
 have q:Sg P l.toArray E D w o v a:=by refine .inl ⟨hw,λw1 _=>?_⟩;have e:=A w1 trivial;unfold Oper.quietAt at e;have O:=λf args w'=>LC (ρ:=a.eval) hq P w1 w' f args;generalize (execOp a.eval o).run P w1=r at *;cases r with| ok n w'=>(cases n<;>simp only[Oper.quietUpon]at e<;>first|exact e|exact absurd rfl (O _ _ _))| halt x w'=>simp only[Oper.quietUpon]at e
 exact .inl ⟨_,hk.1,hk.2,o,v,ho,q,H⟩
theorem nT(o:Oper)(v:vV)(ho:l[k]?=some o)(hk:headD l done k=true)(hw:Region.wanted o (yielded l.toArray a.tmps)=true)
  (hv:∀ w1,D w w1->(execOp a.eval o).run P w1=.ok (.value v) w1) (h:Kd P l hd E D Q n (k::done) (a.put o.dst v) w):Kd P l hd E D Q (n+1) done a w:=by
 simp only[headD,cI,cM]at hk;exact .inl ⟨_,hk.1,hk.2,o,v,ho,.inl ⟨hw,λw1 e=>by rw[hv w1 e];exact⟨rfl,rfl⟩⟩,h⟩
theorem UG(p:Addr)(v:vV){t:TypeId}{x:Operand}{d:Option Tmp}{ty:TypeId}{pos:String}{af:Array Edge}{g:Option (Nat × Bool)}(ho:l[k]?=some ⟨d,.load t x,ty,pos,af,g⟩)(hk:headD l done k=true)
  (hw:Region.wanted ⟨d,.load t x,ty,pos,af,g⟩ (yielded l.toArray a.tmps)=true) (hx:a.eval x=.pointer (some p))
  (hv:∀ w1,D w w1->(Instr.loadAt t p).run P w1=.ok v w1) (h:Kd P l hd E D Q n (k::done) (a.put d v) w):Kd P l hd E D Q (n+1) done a w:=by
 refine nT _ v ho hk hw (λw1 e=>?_) h
 have:=hv w1 e
 simp only[execOp,hx,bS,this,Result.andThen,cT]
theorem NV(o:Oper)(ho:l[k]?=some o)(hk:LQ l hd done k=true)(hw:Region.wanted o (yielded l.toArray a.tmps)=true)
  (h:∀ w1,E w w1->∀ K:Act->vW->Prop,(∀ a' w',D w1 w'->Kd P l hd E D Q n (k::done) a' w'->K a' w')->o.wp P a w1 K Mv):Kd P l hd E D Q (n+1) done a w:=by
 simp only[LQ,cI,beq_iff_eq,cM]at hk;refine .inr ⟨by rw[hk.1];simp,λi q=>?_⟩;rw[hk.1]at q;obtain rfl:i=k:=by simpa using q
 refine⟨hk.2,λw1 A=>?_⟩
 unfold wpOp;have e:l.toArray[i]?=some o:=by simpa using ho
 simp only[e,hw,if_true];exact .inl (h w1 A _ λ_ _ H O=>⟨H,O⟩)
def MH(l:List Oper)(hd done:List Nat)(j k:Nat):Bool:=Region.ready .any l.toArray (Ec l done) == [j,k]&&hd.contains j&&hd.contains k
theorem F2(j k:Nat)(o1 o2:Oper)(hk:MH l hd done j k=true)(h01:l[j]?=some o1)(h02:l[k]?=some o2)
  (hw1:Region.wanted o1 (yielded l.toArray a.tmps)=true) (hw2:Region.wanted o2 (yielded l.toArray a.tmps)=true)
  (q:∀ w1,E w w1->∀ K:Act->vW->Prop,(∀ a' w',D w1 w'->Kd P l hd E D Q n (j::done) a' w'->K a' w')->o1.wp P a w1 K Mv)
  (A:∀ w1,E w w1->∀ K:Act->vW->Prop,(∀ a' w',D w1 w'->Kd P l hd E D Q n (k::done) a' w'->K a' w')->o2.wp P a w1 K Mv):Kd P l hd E D Q (n+1) done a w:=by
 simp only[MH,cI,beq_iff_eq,cM]at hk;refine .inr ⟨by rw[hk.1.1];simp,λi H=>?_⟩;rw[hk.1.1]at H;have H:i=j\/i=k:=by simpa using H
 rcases H with rfl|rfl
 ·refine⟨hk.1.2,λw1 O=>?_⟩;(unfold wpOp;have e:l.toArray[i]?=some o1:=by simpa using h01);simp only[e,hw1,if_true];exact .inl (q w1 O _ λ_ _ q A=>⟨q,A⟩)
 ·refine⟨hk.2,λw1 O=>?_⟩;(unfold wpOp;have e:l.toArray[i]?=some o2:=by simpa using h02);simp only[e,hw2,if_true];exact .inl (A w1 O _ λ_ _ q A=>⟨q,A⟩)
theorem nS(hk:(Region.ready .any l.toArray (Ec l done)).isEmpty=true)(h:∀ w1,E w w1->Q a w1):Kd P l hd E D Q 0 done a w:=
 λw1 e=>⟨by simpa using hk,h w1 e⟩
end mixh
end
section
open Go Go.RowKit
attribute [local go_sem] Oper.semAt_some
def Yg(wb z:Nat)(x y:vW):Prop:=Ad (λb=>b=wb\/z<=b) x y/\∀ rt,x.cell? wb=some (.string rt)->y.cell? wb=some (.string rt)
theorem Yg.trans(a b c:vW)(h:Yg wb z a b)(k:Yg wb z b c):Yg wb z a c:=⟨h.1.trans k.1,λq e=>k.2 q (h.2 q e)⟩
theorem Yg.ext(x y:vW)(h:Af x y):Yg wb z x y:=⟨Lk h,λq e=>Am e h⟩
def tA(y b1 pc wb:Nat)(root:vB)(L:Nat)(m:Ai)(okb:Bool):Act:=
 { tmps:=#[.func (.yield y) #[] #[],.pointer (some ⟨b1,0,none⟩),.pointer (some ⟨pc,0,none⟩),undef,.pointer (some ⟨L,0,none⟩),.bool okb,undef,undef,.tuple #[m.V,.bool okb],.pointer (some ⟨wb,0,none⟩),.pointer (some ⟨wb,0,none⟩),.pointer (some ⟨wb,0,none⟩),.pointer (some ⟨wb,0,none⟩),.string root,.tuple #[m.V,.bool okb],m.V,.bool okb,
  undef,undef,undef,undef,undef,undef,undef,undef,undef,undef,undef,undef,undef,undef,undef,undef,undef,undef,undef,undef,undef,undef],defers:=[] }
end
section
open Go Go.RowKit
theorem Y5:vQ 36 #[qg,CI] w λe w'=>e=.returned false/\w=w':=by
 have q:∀ w,(binOp .eql 93 .nilIface .nilIface).run prog w=.ok true w:=λw=>by kernel_rfl
 have A:∀ w,(binOp .eql 93 .nilIface CI).run prog w=.ok false w:=λw=>by kernel_rfl
 unfold CI at *;unfold vQ;go_in;go_wp2
 go_ret
 exact⟨rfl,rfl⟩
end
section
open Go Go.RowKit
attribute [local go_sem] Oper.semAt_some
theorem r2{vs:List (Ai × vB)}{k:Nat}(h:k<vs.length):IJ (vs.take (k+1))=Np (atV vs k).1 (atV vs k).2:=by
 unfold IJ atV;rw[cB,bB h,Option.toList_some,List.getLast?_concat,bL,bB h];rfl
def RS(wb:Nat)(p:vB)(W:vW)(e:Ending)(w':vW):Prop:=e=.returned (.func (.func 181) #[] #[W,((W:Nat)+1:)])/\w'=(W.alloc (.cells #[wb] 331)).alloc (.cells #[p] 9)
theorem xU:vQ 152 #[wb,p] W (RS wb p W):=by
 unfold vQ;go_in;go_wp2;go_ret
 exact⟨rfl,rfl⟩
theorem Pq:∀ w,(Instr.alloc 285 true (.tuple #[])).run prog w=.ok w (w.alloc (.cells [.string ⟨#[]⟩,.slice none 0 0,.int .i64 0,.nilIface].toArray 285)):=λw=>by kernel_rfl
theorem Ul:(prog.info? 285).map (·.size)=some 4:=vY
theorem tE{W:vW}{l:vM}(h:Ie W v l):∃ a c,v=.slice a l.length c:=by
 rcases h with⟨a,c,h1,h2⟩|⟨b,o,c,h1,_⟩
 ·exact⟨a,c,by rw[h1,h2];rfl⟩
 ·exact⟨_,c,h1⟩
theorem Nw.errc{W:vW}{wb:Nat}(h:Nw W wb root v u ev):W.cell? ⟨wb,3,none⟩=some ev:=Ae.cell (i:=3) h vF
structure MI(cb:Nat)(vs:List (Ai × vB))(k:Nat)(D:Bd)(W:World):Prop where
 is:∀ b,D b↔b=cb
 blk:Ae W cb (.cells (Jo (IJ (vs.take k))).toArray 117)
theorem MI.supp(vs:List (Ai × vB))(k:Nat):Mg (MI cb vs k):=⟨λD W h b hb=>by rw[(h.is b).1 hb];exact h.blk.lt,λD W e h q hb=>⟨h.is,(hb cb ((h.is cb).2 rfl)).trans h.blk⟩⟩
end
section
open Go Go.RowKit
theorem E0(p:Fi)(nv:vV)(hn:Ie w nv p.nodes)(hp:Vc p)(hk:p.kind=0)(u:vB)(hVe:∀ W,Af w W->vR 54 #[p.root,p.key,nv] W (.tuple #[Ls (some u),qa])):vQ 17 #[.agg (p.cells nv).toArray] w λe w'=>∃ a c,e=.returned (.tuple #[.slice a 1 c,qa])/\Af w w':=by
 have HP:=J hp;have a2:=Ae.new w (.cells (p.cells nv).toArray 53);have A:=(Aa w).alloc (.cells (p.cells nv).toArray 53);have HB:=J (bA a2 A);have HV:=J (pK _ p nv (hn.ext A) hp);have a4:p.key.size<=6:=hp.key;have H:=J hVe
 obtain⟨a0,a1,K,to,O⟩:=p
 have hk:a0=0:=hk;subst hk
 obtain⟨a,c,a5,_⟩:=hn.slice
 subst a5
 obtain⟨m,hm⟩:=vE O.length
 unfold Fi.cells at HB HV ⊢;simp only at HB HV H a4 ⊢;rw[<-hm]at HB HV H ⊢;clear hn hp hVe a2 A hm;unfold vQ;go_in;go_wp2_with fail
 refine HV.o.mono ?_;rintro e w1 ⟨rfl,X⟩;have q:=HB.o.1.Z X kI;have q0:w1.cell? w=some (.int .i64 0):=q.cell (i:=0) rfl;have q1:w1.cell? ⟨↑w,1,none⟩=some (.string a1):=q.cell (i:=1) rfl;have q2:w1.cell? ⟨↑w,2,none⟩=some (.string K):=q.cell (i:=2) rfl;have q4:w1.cell? ⟨↑w,4,none⟩=some (.slice a m c):=q.cell (i:=4) rfl;have H1:=J (bA (HB.o.2.trans X) q);clear X q;go_wp2_with fail
 refine vC (H.o w1 H1.o.1) λw2 Z=>?_;have a3:=H1.o.2.Z Z kI;have a8:(w2.alloc (.cells #[true,u] 117)).cell? ⟨↑w,2,none⟩=some (.string K):=(a3.alloc _).cell (i:=2) rfl;have a7:=((Aa w2).alloc (.cells #[true,u] 117)).alloc (.cells #[K,u] 49);have H2:=J (H1.o.1.trans Z);clear Z a3 q0 q1 q2 q4;rw[show Ls (some u)=.agg #[true,u]from rfl];go_wp2
 go_ret2
 exact⟨_,_,rfl,H2.o.trans a7⟩
end
section
open Go Go.RowKit
attribute [local go_sem] Oper.semAt_some
def yI(C:Nat->vW->Prop)(v:vV)(wr:vW):Prop:=∃ i:Nat,i<=16/\v=.int .i64 i/\C 0 wr
theorem n7(nb pb wb:Nat)(n:Ai)(hn:n.refs=List.replicate 16 ⟨#[]⟩):LW prog 221 #[.pointer (some ⟨nb,0,none⟩),.pointer (some ⟨pb,0,none⟩),.pointer (some ⟨wb,0,none⟩)] 0 (λ_=>#[.string ⟨#[]⟩,.string ⟨#[]⟩]) (λW=>Ae W nb (.cells n.cells.toArray 215)):=by
 intro l C Cx hC X hS W hY Z;have hB:=hS 0 W Z;have hr:n.refs.length=16:=by rw[hn,iK]
 have e:W.rangeAt nb 3 (n.refs.map Value.string):=λj v hv=>hB.z1 (by unfold Ai.cells;rw[show 3+j=j+3 by omega];simpa using hv)
 have q:=run_loadVar_mid (P:=prog) W nb 3 213 _ _ e Fm rfl (by simp only[bT,hr];exact Ks);have A:(Instr.loadAt 213 (.pointer (some ⟨nb,3,none⟩))).run prog W=.ok (.agg (n.refs.map Value.string).toArray) W:=by simp[Instr.loadAt,Instr.sureAddr,bS,Result.andThen,q]
 have H0:=J Z;have HR:=J hn;clear hB hY Z e q hr hn hC X hS;refine callsIn_of_wp func221 rfl trivial ?_ rfl;simp only[ntmps221,cQ,bQ,cZ,Nat.reduceAdd,Nat.reduceSub,cV,cU,dC,cY,cL,cS];gi_wp2_with (refine BC rfl 213 (.tmp 8) rfl _ _ rfl A ?_)
 clear A;gi_loopw [10] (λv wr=>yI C v wr) (λv _=>16-(intOf v).toNat)
 case atStart=>exact⟨0,by omega,rfl,H0.o⟩
 case round =>obtain⟨i,hi,rfl,H⟩:=hrel;have K:=J H;clear H;by_cases hlt:i<16;{have a0:(Instr.index 213 (.agg (n.refs.map Value.string).toArray) (.int .i64 (i:Int))).run prog wr=.ok (.string ⟨#[]⟩) wr:=MO Fm Jn Jm _ i hlt _ (by rw[bY,HR.o,List.getElem?_replicate,if_pos hlt];rfl) wr;gi_wp2;refine⟨⟨i+1,by omega,by go_num,K.o⟩,?_⟩;show 16-(intOf (.int .i64 ((i:Int)+1))).toNat<16-(intOf (.int .i64 (i:Int))).toNat;simp[intOf];omega};have O:i=16:=vO;subst O;gi_wp2;refine bodyPost_end (results_none rfl _ _ _) rfl ?_;exact⟨⟨_,rfl⟩,.inl K.o⟩
end
section
open Go Go.RowKit
theorem zJ(to p:vB)(hf:fr.size<=1000)(ht:to.size<=1000)(h1:Op.bytesLess p.toList (Bw fr).toList=false)(h2:Op.bytesLess p.toList (Bw to).toList=true):vR 177 #[.agg #[fr,to],p] w true:=by
 have e:=(Aa w).alloc (.cells #[fr,to] 115);have q:=Ae.new w (.cells #[fr,to] 115);have K:=J (bA e q);clear e q;unfold vR vQ;go_in;go_wp2_with fail
 refine vC (Zc _ fr vO) λw1 A=>?_;have X:=(K.o.2.Z A kI).cell (i:=1) (v:=.string to) rfl;have O:=J A;clear A;go_wp2_with fail
 refine vH (Zc _ to vO) λZ A=>?_;have H:=J (K.o.1.trans (O.o.trans A));go_wp2
 go_ret
 exact⟨rfl,H.o⟩
end
section
open Go Go.RowKit
attribute [local go_sem] Oper.semAt_some
def Xj(fr to:vB)(s mb:Nat)(nv:vV)(lk:Int)(fv:vV):List vV:=[fr,to,.func (.func 85) #[s] #[],.map (some mb),nv,.int .i64 lk,fv]
theorem Ie.keeps'{w:vW}(h:Ie w v xs)(k:Ad F w w')(hF:∀ b,v.ownBlock=some b->¬ F b):Ie w' v xs:=by
 rcases h with h|⟨b,o,c,rfl,h2,h3,h4⟩
 ·exact .inl h
 ·have hb:=hF b rfl;exact .inr ⟨b,o,c,rfl,bE h2 k.size,h3,λj x e=>Ed (h4 j x e) k hb⟩
theorem jzq(hne:wb≠mb)(fr to root t:vB)(d:Nat)(n:Ai)(hg:Gn (Bx d) n)(ht:t=Cu n)(hB:Ae w wb (.cells (Xj fr to s mb qe 0 qe).toArray 204))(hm:Ae w mb (.map (Al.arr []) 0))
  (hsg:∀ W,Af w W->vR 85 #[s,root] W (.tuple #[t,true])) :
  vQ 150 #[wb,root] w λe w'=>e=.returned (.tuple #[n.V,qg])/\Ad (λz=>z=wb\/z=mb) w w'/\∃ g c,Ae w' wb (.cells (Xj fr to s mb (.slice (some ⟨g,0,none⟩) 1 c) 0 qe).toArray 204)/\Ie w' (.slice (some ⟨g,0,none⟩) 1 c) [t]/\(w:Nat)<=g:=by
 have H:=(hg.one (Bm d)).refs;have HL:=J (n.z3 H);have HG:=J (λW=>AJ (Bm d) W n hg);have HB:=J (bA hB hm);have HS:=J hsg;have HT:=J ht;have c3:=hB.lt;have c4:=hm.lt;clear hg ht hB hm hsg;unfold vQ;go_in;go_wp2_with (refine Di Ac rfl rfl ?_;intro w1 b0 K;have q2:w1.cell? ⟨wb,2,none⟩=some (.func (.func 85) #[s] #[]):=(HB.o.1.Z K kI).z1 rfl)
 have H1:=J (kU K b0 (HB.o.1.Z K kI) (HB.o.2.Z K kI));clear K b0 q2;refine vH (HS.o w1 H1.o.1) λw2 b9=>?_;go_wp2_with fail
 rw[HT.o];refine vH (HG.o w2) λw3 c0=>?_;rw[<-HT.o];have q:=b9.o.trans c0;have H3:=J (kU (H1.o.1.trans q) (H1.o.2.1.Z q kI) (H1.o.2.2.1.Z q kI) (H1.o.2.2.2.Z q kI));clear q;unfold Ai.V;have c5:=H3.o.2.1.lt;have b1:=H;go_wp2_with (first
  |(refine Gz 215 (.tmp 8) rfl rfl _ _ rfl (Ka _ _ n b1 c1) ?_)
  |(refine Bt (vs:=n.cells) rfl rfl rfl rfl c2 (by rw[HL.o];rfl) (by rw[HL.o];exact Ab) n.one ?_;intro b2 a8 O)
  |(at_builtin;go_loud (refine Qm Ci (Ar.nil 9 1 ((Aa Z).alloc (.cells #[t] 9))) (.tmp 49) (.tmp 51) rfl rfl rfl (Jx (Ae.new Z _)) (news:=[t]) (by intro u hu;simp at hu;rw[hu];rfl) rfl rfl zi vO λv7 w7 r1 r2 r3=>?_)
    obtain⟨a7,c7,rfl⟩:=r1.sl
    have a0:=H6.o.2.2.1.Z r1.ext kI;have q7:w7.cell? ⟨wb,4,none⟩=some (.slice none 0 0):=a0.z1 rfl;have f7:w7.frozen? ⟨wb,4,none⟩=false:=a0.frozen;have H7:=J (bA r1 a0);clear r1 r2 r3 a0 b3 q3 q4)
  |(refine MP rfl wb 4 (.slice a7 1 c7) rfl rfl rfl rfl vY q7 f7 ?_;intro W8 a2
    have k8:Ad (λz=>z=wb) w7 W8:=by rw[a2];exact Ad.z4 w7 ⟨wb,4,none⟩ (.slice a7 1 c7)
    have X:Ae W8 wb (.cells (Xj fr to s mb (.slice a7 1 c7) 0 qe).toArray 204):=by
     have:=H7.o.2.z2 (i:=4) (.slice a7 1 c7)
     rw[a2];exact this
    have a3:=((H6.o.2.2.2.1.Z H7.o.1.ext kI).Z k8 λe=>hne e.symm);have q3:W8.cell? ⟨wb,3,none⟩=some (.map (some mb)):=X.z1 rfl;have b3:(Instr.lookup 126 (.map (some mb)) root false).run prog W8=.ok qa W8:=Wx Al Bf a3 (Cz W8) root.data.toList false
    obtain⟨W9,a4⟩:=vE (W8.putObj mb (.map (Al.arr [(root.data.toList,.int .i64 1,0)]) 1))
    have c8:(Instr.mapUpdate 126 (.map (some mb)) root (.int .i64 1)).run prog W8=.ok () W9:=by
     have:=Yq Al Bf a3 root.data.toList (.int .i64 1)
     rw[a4];exact this
    have K9:Ad (λz=>z=mb) W8 W9:=by rw[a4];exact Ad.z7 _ _ _
    have c1:=(((H6.o.2.2.2.2.1.Z H7.o.1.ext kI).Z k8 (show ¬ (w3:Nat)=wb by have:=H3.o.2.2.1.lt;omega)).Z K9 (show ¬ (w3:Nat)=mb by have:=H3.o.2.2.2.lt;omega));have c2:=(((H6.o.2.1.Z H7.o.1.ext kI).Z k8 (show ¬ (w:Nat)=wb by omega)).Z K9 (show ¬ (w:Nat)=mb by omega));have H9:=J (kT k8 X K9);clear a2 a4 k8 X a3 K9 q7 f7)
  |(refine Di Ac rfl rfl ?_;intro W5 b4 b5;refine Bt (vs:=n.cells) rfl rfl rfl rfl b4 (by rw[HL.o];rfl) (by rw[HL.o];exact Ab) n.one ?_;intro Z b6 b7
    have A:Af w3 Z:=b5.O b7 kJ;have a1:=H3.o.2.2.1.Z A kI;have a5:=H3.o.2.2.2.Z A kI;have b8:=H3.o.2.1.Z A kI;have q3:Z.cell? ⟨wb,3,none⟩=some (.map (some mb)):=a1.z1 rfl;have q4:Z.cell? ⟨wb,4,none⟩=some (.slice none 0 0):=a1.z1 rfl;have b3:(Instr.lookup 126 (.map (some mb)) root false).run prog Z=.ok qa Z:=Wx Al Bf a5 (Cz Z) root.data.toList false;have H6:=J (kY (H3.o.1.trans A) b8 a1 a5 b6 A.size);clear b4 b5 b6 b7 A a1 a5 b8))
 refine bodyPost_ret (Ot rfl rfl rfl (Qb b2 _ n b1 a8)) rfl ?_
 obtain⟨k8,X,K9⟩:=H9.o
 obtain⟨r1,_⟩:=H7.o
 obtain⟨g7,rfl⟩:=IE r1.own vI
 have c9:(Z:Nat)<=g7:=r1.new g7 rfl;have d0:=H6.o.I;have d1:=H3.o.1.size;have e1:Af w w7:=H6.o.1.trans r1.ext;have e2:Ad (λz=>z=wb\/z=mb) w b2:=((((e1.mono (G:=λz=>z=wb\/z=mb) λ_ _ e=>e.elim).trans (k8.mono λz _ e=>.inl e)).trans (K9.mono λz _ e=>.inr e)).O O kJ);have a9:=((Cg.rd r1:Ie w7 _ [t]).keeps' k8 λb hb e=>by have hb:some g7=some b:=hb;have e:b=wb:=e;cases hb;omega)
 refine⟨rfl,e2,g7,c7,(X.Z K9 hne).Z O vO,?_,by omega⟩
 exact (a9.keeps' K9 λb hb e=>by have hb:some g7=some b:=hb;have e:b=mb:=e;cases hb;omega).keeps' O (λb hb e=>by have hb:some g7=some b:=hb;have e:b=(w:Nat):=e;cases hb;omega)
theorem Mh:(callFunc 221 args).run prog w=.ok (.enter 221 args) w:=vY
theorem K7(n:Ai):vQ 179 #[wb,n.V,()] w λe w'=>e=.returned (.func (.func 221) #[] #[((w:Nat)+1:),((w:Nat)+1+1:),w])/\Af w w'/\Ae w' ((w:Nat)+1) (.cells n.cells.toArray 215):=by
 have H:∀ (fn:Fn) (first cap:Array vV) (w:vW),(Instr.makeFunc fn first cap).run prog w=.ok (.func fn first cap) w:=λ_ _ _ _=>rfl;have A:=(((Aa w).alloc (.cells #[wb] 197)).alloc (.cells n.cells.toArray 215)).alloc (.cells #[()] 9);have q:=(Ae.new (w.alloc (.cells #[wb] 197)) (.cells n.cells.toArray 215)).alloc (.cells #[()] 9);rw[bJ]at q;have K:=J (bA A q);clear A q;unfold Ai.V;unfold vQ;go_in;go_wp2
 go_ret
 exact⟨rfl,K.o⟩
theorem h7(nv:vV)(hnv:nv.oneCell'=true)(fr to key:vB)(n:Ai)(hn:n.refs=List.replicate 16 ⟨#[]⟩)(hv:n.value.toList.isEmpty=false)(hsz:n.path.size<=1000)
  (hf:fr.size<=1000) (ht:to.size<=1000) (A:Op.bytesLess n.path.toList (Bw fr).toList=false) (h2:Op.bytesLess n.path.toList (Bw to).toList=true) (hk:Lg n.path=.tuple #[.string key,.bool true])
  (hB:Ae w wb (.cells (Xj fr to s mb nv 0 (.slice none 0 0)).toArray 204)) :
  vQ 151 #[.pointer (some ⟨wb,0,none⟩),n.V,.string ⟨#[]⟩] w λe w'=>e=.returned .nilIface/\Ad (λz=>z=wb) w w'/\∃ fv,Ae w' wb (.cells (Xj fr to s mb nv 1 fv).toArray 204):=by
 have H:n.refs.length=16:=by rw[hn,iK]
 have HL:=J (n.z3 H);have HB:=J hB;have HH:=J (kY A h2 hk hf ht hn);have d7:=hB.lt;clear hB A h2 hk hf ht hn;refine (callsIn_wide (n:=0)).1 ?_;refine callsIn_of_wp_marks func151 rfl trivial ?_ rfl;refine wpIn_wide.2 ?_;simp only[ntmps151,cQ,bQ,cZ,Nat.reduceAdd,Nat.reduceSub,cV,cU,dC,cY,cL,cS];unfold Ai.V;have a7:=(((Aa w).alloc (.cells #[.pointer (some ⟨wb,0,none⟩)] 197)).alloc (.cells n.cells.toArray 215)).alloc (.cells #[.nilIface] 93);have b7:=((Ae.new w (.cells #[.pointer (some ⟨wb,0,none⟩)] 197)).alloc (.cells n.cells.toArray 215)).alloc (.cells #[.nilIface] 93);have a8:=(Ae.new (w.alloc (.cells #[.pointer (some ⟨wb,0,none⟩)] 197)) (.cells n.cells.toArray 215)).alloc (.cells #[.nilIface] 93);have a9:=Ae.new ((w.alloc (.cells #[.pointer (some ⟨wb,0,none⟩)] 197)).alloc (.cells n.cells.toArray 215)) (.cells #[.nilIface] 93);simp only[bJ]at a8 a9;have a0:=HB.o.Z a7 (λh=>h);have q5:=a0.z1 (i:=5) (v:=.int .i64 0) rfl;have f5:World.frozen? (((w.alloc (.cells #[.pointer (some ⟨wb,0,none⟩)] 197)).alloc (.cells n.cells.toArray 215)).alloc (.cells #[.nilIface] 93)) ⟨wb,5,none⟩=false:=a0.frozen;have H0:=J (kX a7 b7 a8 a9 a0);clear a7 b7 a8 a9 a0;go_wp2_with (refine MP rfl wb 5 (.int .i64 1) rfl rfl rfl rfl vY q5 f5 ?_;intro W1 b0;have k1:=Ad.z4 (((w.alloc (.cells #[.pointer (some ⟨wb,0,none⟩)] 197)).alloc (.cells n.cells.toArray 215)).alloc (.cells #[.nilIface] 93)) ⟨wb,5,none⟩ (.int .i64 1);rw[<-b0]at k1;have a1:Ae W1 wb (.cells (Xj fr to s mb nv 1 (.slice none 0 0)).toArray 204):=(by have:=H0.o.2.2.2.2.z2 (i:=5) (.int .i64 1);rw[b0];exact this);have b1:=H0.o.2.1.Z k1 (show ¬ (w:Nat)=wb by omega);have a2:=H0.o.2.2.1.Z k1 (show ¬ (w:Nat)+1=wb by omega);have b8:=H0.o.2.2.2.1.Z k1 (show ¬ (w:Nat)+1+1=wb by omega);have qp:W1.cell? ⟨↑w,0,none⟩=some (.pointer (some ⟨wb,0,none⟩)):=b1.cell (i:=0) rfl;have d0:W1.cell? ⟨(w:Nat)+1,1,none⟩=some (.string n.path):=a2.z1 rfl;have d1:W1.cell? ⟨(w:Nat)+1,2,none⟩=some (.string n.value):=a2.z1 rfl;have d2:W1.cell? ⟨wb,0,none⟩=some (.string fr):=a1.z1 rfl;have d3:W1.cell? ⟨wb,1,none⟩=some (.string to):=a1.z1 rfl;have H1:=J (kX ((H0.o.1.mono (G:=λz=>z=wb) λ_ _ e=>e.elim).trans k1) a1 b1 a2 b8);clear b0 k1 a1 b1 a2 b8 q5 f5)
 have e0:(⟨#[]⟩:vB)++n.path=n.path:=by apply ByteArray.ext;simp
 rw[e0];refine vH (zJ W1 fr to n.path HH.o.d HH.o.e HH.o.1 HH.o.b) λW2 d4=>?_;go_wp2_with fail
 refine vH (FI W2 n.path vO) λW3 d5=>?_;rw[HH.o.c];have q:=d4.o.trans d5;have O:=J (kX q (H1.o.2.1.Z q λh=>h) (H1.o.2.2.1.Z q λh=>h) (H1.o.2.2.2.1.Z q λh=>h) (H1.o.2.2.2.2.Z q λh=>h));have d8:=O.o.2.2.2.1.lt;have b2:=O.o.2.2.2.2.lt;clear q qp d0 d1 d2 d3;go_wp2_with fail
 refine BF [0,1,2,3,4,5,6,7,8,9,10,11,12] 13 [9,10] Af (Ad λz=>(W3:Nat)<=z) Aa Ap (λx y z h k=>Ad.trans h k) (λx y h=>h.mono λ_ _ h=>h.elim) vY vY vY ?_;refine Vi ⟨↑w,0,none⟩ (.pointer (some ⟨wb,0,none⟩)) rfl (λw1 A=>De zf ((O.o.2.2.1.drew.Z A vO).cell (i:=0) rfl)) ?_;refine vS ?_;refine Vi ⟨↑w,0,none⟩ (.pointer (some ⟨wb,0,none⟩)) rfl (λw1 A=>De zf ((O.o.2.2.1.drew.Z A vO).cell (i:=0) rfl)) ?_;refine vS ?_;refine Qs _ (.pointer (some ⟨wb,0,none⟩)) rfl zf ?_;refine vS ?_
 refine vZ ?_
 refine Vi ⟨wb,6,none⟩ (.slice none 0 0) rfl (λw1 A=>De zf ((O.o.2.1.drew.Z A vO).z1 rfl)) ?_;refine vS ?_;iterate 2 refine vZ ?_
 refine Vi ⟨(w:Nat)+1,2,none⟩ (.string n.value) rfl (λw1 A=>De zf ((O.o.2.2.2.1.drew.Z A vO).z1 rfl)) ?_;refine vS ?_
 refine vZ ?_
 refine Zs _ rfl vY rfl (λwa ha K hK=>?_);have ka:Af W3 wa:=(Ao _).trans ha;have d9:=ka.size;refine Ro (v:=.slice (some ⟨↑wa,0,none⟩) 1 1) (w':=wa.alloc (.cells #[.string key,.string n.value] 49)) vY (hK _ _ ((Ad.refl _ wa).alloc _) ?_);have X:=Jx (news:=[.string key,.string n.value]) (Ae.new wa (.cells #[.string key,.string n.value] 49));have b3:Af W3 (wa.alloc (.cells #[.string key,.string n.value] 49)):=ka.trans ((Aa wa).alloc _);generalize wa.alloc (.cells #[.string key,.string n.value] 49)=w4 at X b3 ⊢;clear hK K ha ka;refine vS ?_;refine Zs _ rfl vY rfl (λwc hc K hK=>?_);have b4:=b3.trans hc;have e1:=b4.size;refine DE Fk (Ar.nil 49 2 b4) (.tmp 55) (.tmp 60) (news:=[.string key,.string n.value]) rfl rfl (λj u hj=>by have:=X j u hj;rw[Addr.add_lit]at this ⊢;exact Am this hc) (by intro u hu;simp at hu;rcases hu with rfl|rfl<;>rfl) rfl rfl zi vO (λv' w5 r1 r2 r3=>hK _ _ (r2.mono λz _ e=>by cases e) ?_);have H5:=J (bA r1.ext r1.sl)
 obtain⟨a',c',rfl⟩:=r1.sl
 clear hK K hc r1 r2 r3 b4 b3 X;refine vS ?_;refine Qs _ (.pointer (some ⟨wb,0,none⟩)) rfl zf ?_;refine vS ?_
 refine vZ ?_
 refine BJ _ rfl vY rfl (λwd hd K hK=>?_);have b5:=H5.o.1.trans hd;have a3:=O.o.2.1.Z b5 (λh=>h);have q6:wd.cell? ⟨wb,6,none⟩=some (.slice none 0 0):=a3.z1 rfl;have f6:wd.frozen? ⟨wb,6,none⟩=false:=a3.frozen;have H6:=J (bA b5 a3);clear hd b5 a3;go_simp;refine hK _ _ ?_;clear hK K q6 f6;have b9:Ae (wd.setCell ⟨wb,6,none⟩ (.slice a' 1 c')) wb (.cells (Xj fr to s mb nv 1 (.slice a' 1 c')).toArray 204):=by have:=H6.o.2.z2 (i:=6) (.slice a' 1 c');exact this
 have k7:=Ad.z4 wd ⟨wb,6,none⟩ (.slice a' 1 c');generalize wd.setCell ⟨wb,6,none⟩ (.slice a' 1 c')=w7 at b9 k7 ⊢;have Z:Ad (λz=>z=wb) W3 w7:=(H6.o.1.mono λ_ _ e=>e.elim).trans k7;have c0:=O.o.2.2.1.Z Z (show ¬ (w:Nat)=wb by omega);have b6:=O.o.2.2.2.1.Z Z (show ¬ (w:Nat)+1=wb by omega);have c1:=O.o.2.2.2.2.Z Z (show ¬ (w:Nat)+1+1=wb by omega);have H7:=J (kU (H1.o.1.trans ((O.o.1.mono λ_ _ e=>e.elim).trans Z)) b9 b6 c1);have qp:w7.cell? ⟨↑w,0,none⟩=some (.pointer (some ⟨wb,0,none⟩)):=c0.cell (i:=0) rfl;clear k7 Z c0 c1;go_wp2_with (refine Gz 215 (.tmp 4) rfl rfl _ _ rfl (Ka _ _ n H b6) ?_)
 refine (K7 w7 wb n).mono ?_;rintro e w8 ⟨rfl,a4,c2⟩;have c3:=H7.o.2.1.Z a4 (λh=>h);have c5:=H7.o.2.2.2.Z a4 (λh=>h);have H8:=J (kT (H7.o.1.trans (a4.mono λ_ _ e=>e.elim)) c3 c5);have d6:=J (n7 ((w7:Nat)+1) ((w7:Nat)+1+1) (w7:Nat) n HH.o.I)
 obtain⟨nb,c7⟩:=vE ((w7:Nat)+1)
 have c8:=J (show Ae w8 nb (.cells n.cells.toArray 215) by rw[c7];exact c2);clear a4 c2 c3 c5 b6 qp;go_wp2_with fail
 refine (wpIn_wide (n:=0)).1 ?_;refine EL rfl Mh d6.o (λk=>rfl) (λ_ W=>Af w8 W/\Ae W ((w7:Nat)+1) (.cells n.cells.toArray 215)) (λ_ _ _=>False) (λ_ W W' h e=>⟨h.1.trans e,h.2.Z e λh=>h⟩) (λ_ _ _ _ h _=>h) (λ_ W h=>h.2) (λ_ W o h=>?_) (λ_ _ _ _ h=>h) ⟨Aa w8,by rw[<-c7];exact c8.o⟩ (λ_=>⟨#[],[]⟩) (λ_ k _ _ h=>absurd h (Nat.not_lt_zero k)) (λ_ k _ h=>absurd h (Nat.not_lt_zero k)) ?_ (λ_ _ _ _ _ h=>h.elim)
 ·have A:=c8.o.lt;exact⟨h.1.putObj (.inr vO) _,h.2.z5 vO _⟩
 ·intro W hC hd;(have a5:=H8.o.2.2.Z hC.1 (λh=>h);have q9:W.cell? ⟨(w:Nat)+1+1,0,none⟩=some .nilIface:=a5.cell (i:=0) rfl;have f9:W.frozen? ⟨(w:Nat)+1+1,0,none⟩=false:=a5.frozen;have H9:=J (kT hC.1 a5 hd);clear hC a5 hd;go_wp2_with fail);have k3:=Ad.z4 W ⟨(w:Nat)+1+1,0,none⟩ .nilIface;have b2:=H9.o.2.1.z2 (i:=0) .nilIface;have e2:=H8.o.2.2.lt;have c9:=H9.o.2.2.Z k3 (show ¬ (w8:Nat)=↑w+1+1 by omega);generalize W.setCell ⟨(w:Nat)+1+1,0,none⟩ .nilIface=W3 at k3 b2 c9 ⊢;have k4:Ad (λz=>z=(w8:Nat)) W3 (W3.putObj ↑w8 (.deferred none)):=Ad.z7 _ _ _;have c4:(W3.putObj ↑w8 (.deferred none)).cell? ⟨(w:Nat)+1+1,0,none⟩=some .nilIface:=(b2.z5 vO _).cell (i:=0) (by simp);refine⟨by simp,.inl ⟨_,_,rfl,run_takeDeferred c9,?_⟩⟩;refine⟨.nilIface,by simp[results,results151,go_sem,c4],?_⟩;have e3:=H8.o.1.size;refine⟨rfl,?_,_,((H8.o.2.1.Z H9.o.1 λh=>h).Z k3 (show ¬ wb=(w:Nat)+1+1 by omega)).Z k4 (show ¬ wb=(w8:Nat) by omega)⟩;exact ((H8.o.1.trans (H9.o.1.mono λ_ _ e=>e.elim)).O k3 λz hz e=>by have e:z=(w:Nat)+1+1:=e;omega).O k4 λz hz e=>by have e:z=(w8:Nat):=e;omega
theorem B6(v:vV):vR 50 #[qg,v] w false:=by
 unfold vR vQ;go_in;go_wp2
 go_ret
 exact⟨rfl,Aa w⟩
def RV(n:Ai)(t fr to key:vB):Prop:=(∃ d,Gn (Bx d) n)/\t=Cu n/\n.refs=List.replicate 16 ⟨#[]⟩/\n.value.toList.isEmpty=false/\n.path.size<=1000/\fr.size<=1000/\to.size<=1000/\Op.bytesLess n.path.toList (Bw fr).toList=false/\Op.bytesLess n.path.toList (Bw to).toList=true/\Lg n.path=.tuple #[.string key,.bool true]
theorem U0(to root t key:vB)(n:Ai)(hW:RV n t fr to key)
  (hsg:∀ W,Af w W->vR 85 #[s,root] W (.tuple #[t,true])) :
  vQ 107 #[root,.agg #[fr,to],.func (.func 85) #[s] #[]] w λe w'=>Af w w'/\∃ wb mb g c lk fv,e=.returned (.tuple #[.pointer (some ⟨wb,0,none⟩),qg])/\Ae w' wb (.cells (Xj fr to s mb (.slice (some ⟨g,0,none⟩) 1 c) lk fv).toArray 204)/\Ie w' (.slice (some ⟨g,0,none⟩) 1 c) [t]:=by
 have HW:=J hW;have HS:=J hsg;have b2:=Ef
 obtain⟨⟨d,hg⟩,ht,hn,hv,K,hf,O,h1,h2,hk⟩:=hW
 have q:n.refs.length=16:=by rw[hn,iK]
 have HL:=J (n.z3 q);clear hsg hg ht hn hv K hf O h1 h2 hk;unfold vQ;go_in;go_wp2_with fail
 have X:=(Ae.new (w.alloc (.cells #[fr,to] 115)) (.map #[] 0)).alloc (.cells (Xj fr to s ((w:Nat)+1) qe 0 qe).toArray 204);have A:=Ae.new ((w.alloc (.cells #[fr,to] 115)).alloc (.map #[] 0)) (.cells (Xj fr to s ((w:Nat)+1) qe 0 qe).toArray 204);have Z:=(((Aa w).alloc (.cells #[fr,to] 115)).alloc (.map #[] 0)).alloc (.cells (Xj fr to s ((w:Nat)+1) qe 0 qe).toArray 204);simp only[bJ]at X A;change Calls _ _ _ (((w.alloc (.cells #[fr,to] 115)).alloc (.map #[] 0)).alloc (.cells (Xj fr to s ((w:Nat)+1) qe 0 qe).toArray 204)) _;generalize ((w.alloc (.cells #[fr,to] 115)).alloc (.map #[] 0)).alloc (.cells (Xj fr to s ((w:Nat)+1) qe 0 qe).toArray 204)=w1 at X A Z ⊢
 obtain⟨⟨d,hg⟩,ht,hn,hv,K,hf,O,h1,h2,hk⟩:=HW.o
 refine (jzq w1 ((w:Nat)+1+1) ((w:Nat)+1) s vO fr to root t d n hg ht A X λW e=>HS.o W (Z.trans e)).mono ?_;rintro e w2 ⟨rfl,a1,g,c,a2,a3,b0⟩;have b3:=A.lt;have H2:=J (kU ((Z.O a1 λz hz e=>by rcases e with e|e<;>omega)) a2 a3 (show (w:Nat)+1+1<g by omega));have b1:=J (λ(W:vW) (hB:Ae W ((w:Nat)+1+1) _)=>h7 W ((w:Nat)+1+1) ((w:Nat)+1) s (.slice (some ⟨g,0,none⟩) 1 c) rfl fr to key n hn hv K hf O h1 h2 hk hB);clear X A Z hg ht hn hv K hf O h1 h2 hk a1 a2 a3 b0;unfold Ai.V;go_wp2_with (first|(refine Di Ac rfl rfl ?_;intro W5 a4 a5;refine Bt (vs:=n.cells) rfl rfl rfl rfl a4 (by rw[HL.o];rfl) (by rw[HL.o];exact Ab) n.one ?_;intro W6 a7 a8)|(refine Gz 215 (.tmp 9) rfl rfl _ _ rfl (Ka _ _ n q a7) ?_))
 have H:Af w2 W6:=a5.O a8 kJ;have H6:=J (kT (H2.o.1.trans H) (H2.o.2.2.1.ext H) H.size);refine (b1.o W6 (H2.o.2.1.Z H kI)).mono ?_;rintro e w7 ⟨rfl,a0,fv,a9⟩;have H7:=J (kT (H6.o.1.O a0 kJ) a9 (H6.o.2.1.keeps' a0 λb hb e=>by have hb:some g=some b:=hb;have e:b=(w:Nat)+1+1:=e;have:=H2.o.D;cases hb;omega));clear H a4 a5 a7 a8 a0 a9;go_wp2
 go_ret2
 exact⟨H7.o.1,_,_,g,c,1,fv,rfl,H7.o.2⟩
theorem D0(to root t key:vB)(n:Ai)(hW:RV n t fr to key)(hft:Op.bytesLess fr.toList to.toList=true)
  (hsg:∀ W,Af w W->vR 85 #[s,root] W (.tuple #[t,true])) :
  vQ 56 #[s,root,.agg #[fr,to]] w λe w'=>∃ g c,e=.returned (.tuple #[.slice (some ⟨g,0,none⟩) 1 c,qa])/\Af w w'/\Ie w' (.slice (some ⟨g,0,none⟩) 1 c) [t]:=by
 have HW:=J hW;have HS:=J hsg;have a2:∀ (fn:Fn) (first cap:Array vV) (w:vW),(Instr.makeFunc fn first cap).run prog w=.ok (.func fn first cap) w:=λ_ _ _ _=>rfl;have H:=(Aa w).alloc (.cells #[fr,to] 115);have K:=Ae.new w (.cells #[fr,to] 115);have H0:=J (bA H K);clear hW hsg H K;unfold vQ;go_in;go_wp2_with fail
 refine vC (HS.o _ H0.o.1) λw1 q=>?_;have A:=H0.o.2.Z q kI;have q0:w1.cell? w=some (.string fr):=A.cell (i:=0) rfl;have q1:w1.cell? ⟨↑w,1,none⟩=some (.string to):=A.cell (i:=1) rfl;have H1:=J (H0.o.1.trans q);clear q A;go_wp2_with fail
 refine (U0 w1 s fr to root t key n HW.o λW e=>HS.o W (H1.o.trans e)).mono ?_;rintro e w2 ⟨O,wb,mb,g,c,lk,fv,rfl,X,Z⟩;have H2:=J (kT (H1.o.trans O) X Z);clear O X Z;go_wp2_with fail
 refine vH (B6 _ _) λw3 a0=>?_;have hE:=(Aa w2).alloc (.cells #[.pointer none] 200);have H3:=J (hE.trans a0);have a1:=H2.o.2.1.Z (hE.trans a0) kI;have q4:w3.cell? ⟨wb,4,none⟩=some (.slice (some ⟨g,0,none⟩) 1 c):=a1.z1 rfl;clear hE a1;go_wp2
 go_ret2
 exact⟨g,c,rfl,H2.o.1.trans H3.o,H2.o.2.2.ext H3.o⟩
end
section
open Go Go.RowKit
theorem H0(f:vV):vR 133 #[qe,f] w (.int .i64 (-1)):=by
 unfold vR vQ;go_in;go_wp2
 go_loopw [8] (λi wr=>i=.int .i64 0/\Af w wr) (λi _=>1)
 case atStart=>exact⟨rfl,Aa w⟩
 case round =>obtain⟨rfl,e⟩:=hrel;(have q:=J e;clear e;go_wp2);go_ret;exact⟨rfl,q.o⟩
theorem OR(key:vB)(hq:w.cell? ⟨cb,1,none⟩=some (.slice none 0 0)):vR 81 #[cb,key] w (.int .i64 (-1)):=by
 have e:=(Aa w).alloc (.cells #[key] 9);have K:=Am hq e;have q:=J e;clear hq e;unfold vR vQ;go_in;go_wp2_with fail
 refine vH (H0 _ _) λw1 A=>?_;have H:=J (q.o.trans A);go_wp2
 go_ret
 exact⟨rfl,H.o⟩
theorem ZJ{w:vW}{a:Act}{x y:Operand}{ty:TypeId}{m:vV}(hl:(Instr.lookup 126 m key false).run prog w=.ok v w)(hx:a.eval x=m:=by rfl)(hy:a.eval y=.string key:=by rfl):(execOp a.eval ⟨d,.lookup 126 x y false,ty,pos,af,g⟩).run prog w=.ok (.value v) w:=by
 simp only[execOp,hx,hy,bS,hl,Result.andThen,cT]
theorem Dr:(prog.info? 161).map (·.size)=some 2:=vY
theorem Iq:(Instr.alloc 161 true (.tuple #[])).run prog w=.ok w (w.alloc (.cells [Value.string ⟨#[]⟩,.string ⟨#[]⟩].toArray 161)):=vY
theorem Ih:prog.underlying 127=some (.slice 161):=vY
theorem ZF(dT sT ty elem:TypeId)(d a:Option Addr)(dLen dCap sLen sCap:Nat)(hu:P.underlying dT=some (.slice elem))(hs:(P.info? elem).map (·.size)=some sz)(hn:Nat.min sLen dLen=0:=by rfl):(Builtin.copy_ #[dT,sT] ty #[.slice d dLen dCap,.slice a sLen sCap]).run P w=.ok (goInt 0) w:=by
 cases hq:P.info? elem with
 |none=>simp[hq]at hs
 |some i =>(have e:∀ (x:Addr),(loadCells x 0).run P w=.ok #[] w:=λx=>by simpa using run_loadCells_list (P:=P) w x [] (by simp));cases d<;>cases a<;>simp[Builtin.copy_,run_underlying hu,Builtin.lenOf,Builtin.firstCells,sizeOf,typeInfo,hq,hn,storeCells,e]
theorem aZ{w:vW}{a:Act}{x y:Operand}{dT sT ty:TypeId}(hx:a.eval x=v1)(hy:a.eval y=v2)(hr:(Builtin.copy_ #[dT,sT] ty #[v1,v2]).run P w=.ok v w):(execOp a.eval ⟨d,.call { callee:=.builtin .copy,args:=#[x,y],argTypes:=#[dT,sT] },ty,pos,af,g⟩).run P w=.ok (.value v) w:=by
 simp[execOp,hx,hy,hr,resolve,invoke,builtin,bS,Result.andThen]
theorem Rd:Xq (prog.underlying 161)=true:=vY
theorem ZG(vs:List vV)(hl:vs.length=2){T:TypeId}(hB:Ae W b (.cells vs.toArray T fz)):(Instr.loadAt 161 b).run prog W=.ok (.agg vs.toArray) W:=by
 obtain⟨A,e⟩:=Yo Rd
 exact Yr e (by rw[hl];exact Dr) (λj v q=>by rw[Go.WideShapes.add_plain,bX];exact hB.z1 q)
def Pj(W:vW)(cb mb tg c:Nat)(key val:vB):Prop:=Ae W cb (.cells #[.int .i64 4,.slice (some tg) 1 c,.map (some mb),.int .i64 1] 129)/\1<=c/\∃ rest,Ae W tg (.cells ([.string key,.string val]++rest).toArray 161)
theorem Lr:Mn prog 127 161 2 32:=Mn.mk' Ih (show (prog.info? 161).map (λi=>(i.zero,i.size,i.bytes))=some (some (.agg #[(),()]),2,32) by kernel_rfl) rfl vI
def uB(w:vW)(kv iv:vV)(wr:vW):Prop:=∃ i:Nat,i<=1/\iv=.int .i64 i/\∃ xs,Ar 9 1 w wr kv i xs
theorem A2(tg c:Nat)(key val:vB)(h:Pj w cb mb tg c key val):vQ 59 #[cb] w λe w'=>∃ a c,e=.returned (.slice a 1 c)/\Af w w':=by
 obtain⟨hc,h1,a3,ht⟩:=h
 have q1:w.cell? ⟨cb,1,none⟩=some (.slice (some tg) 1 c):=hc.cell (i:=1) rfl;have H:=J (bA hc ht)
 obtain⟨i0,hi,O,X,Z⟩:=info_parts Jk
 obtain⟨w2,q,A,K⟩:=run_make_own (P:=prog) (w:=w) w 51 9 i0 _ 1 Ci.ht hi O X .i64 .i64 1 (by rw[Z];decide) zi (bO _)
 have k2:Af w w2:=Ad.y3 K (λ_ e=>by cases e);have a0:=Ar.made w A K;have a7:=Am q1 k2;have a4:(Instr.makeSlice 51 qa (.int .i64 1)).run prog w=.ok (.slice (some w) 0 1) w2:=q;have a1:=J a0;clear q hc ht A K hi O X Z a0 k2;unfold vQ;go_in;go_wp2
 go_loopw [3,17] (λkv iv wr=>uB w kv iv wr) (λ_ iv _=>1-(intOf iv).toNat)
 case atStart=>exact⟨0,by decide,rfl,_,a1.o⟩
 case round =>obtain⟨i,hi,rfl,xs,hR⟩:=hrel;have HR:=J hR;obtain⟨ak,ck,rfl⟩:=hR.sl;have hE:=hR.ext;have t0:wr.cell? tg=some (.string key):=(H.o.2.Z hE kI).z1 rfl;have t1:wr.cell? ⟨tg,1,none⟩=some (.string val):=(H.o.2.Z hE kI).z1 rfl;clear hR hE;by_cases hlt:i<1;{obtain rfl:i=0:=vO;(clear hi;go_wp2_with (at_builtin;go_loud (refine Qm Ci (HR.o.mono (((Aa wr).alloc _).alloc _)) (.tmp 21) (.tmp 24) rfl rfl rfl (by have:=OO (wr.alloc (.cells #[key,val] 161)) 9 [key];rw[bJ]at this;exact this) (news:=[key]) (by intro u hu;simp at hu;rw[hu];rfl) rfl rfl zi vO λv5 w5 r1 r2 r3=>?_);obtain⟨a5,c5,rfl⟩:=r1.sl;have a2:=J r1;clear r1 r2 r3));go_roundw;(case rel=>exact⟨1,by decide,by go_num,_,a2.o⟩);case measure=>simp[intOf]};obtain rfl:i=1:=vO;(go_wp2);go_ret;exact⟨ak,ck,rfl,HR.o.ext⟩
end
