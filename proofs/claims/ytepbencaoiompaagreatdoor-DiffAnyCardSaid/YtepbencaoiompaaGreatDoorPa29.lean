/- Lemmas; each is under no condition but those that it states. -/
import Derived.Test.YtepbencaoiompaaGreatDoorPa28
namespace Go.Proofs.YtepbencaoiompaaGreatDoor
set_option linter.unusedSimpArgs false
set_option linter.unusedVariables false
set_option maxRecDepth 100000
set_option maxHeartbeats 16000000
open Go Go.RowKit
section
attribute [local go_sem] Oper.semAt_some
theorem jn6{y h:vB}(z:jgG y=some h):jf2 y:=by
 unfold jgG at z;cases q:cutN y with
 | none=>rw[q]at z;cases z
 | some r =>
  rw[q]at z;have z:jfm y r=some h:=z;unfold jfm at z;rw[Option.filter_eq_some_iff]at z
  obtain⟨A,E⟩:=z
  have E:h.size=32:=by simpa using E
  unfold jeF at A
  by_cases hr:r.1=false/\r.2.1+r.2.2=y.size
  case neg=>rw[if_neg hr]at A;cases A
  rw[if_pos hr]at A;have A:=bQ A
  obtain⟨b,o,n⟩:=r
  obtain⟨hb,H⟩:=hr
  have hb:b=false:=hb;have H:o+n=y.size:=H;subst hb
  refine⟨h,E,?_⟩
  have O:n=32:=by
   have e:=congrArg ByteArray.size A;rw[cL]at e;simp only at e;omega
  obtain⟨⟨l⟩⟩:=y
  cases l with
  | nil=>exact absurd (jdH q).1 vI
  | cons a t =>
   have q:cutN ⟨(a :: t).toArray⟩=some (false,o,n):=q;rw[jev]at q
   obtain⟨m,J⟩:=vE (if a.toNat < 192 then a.toNat - 128 else a.toNat - 192)
   rw[<-J]at q
   by_cases h4:a.toNat < 128
   ·rw[if_pos h4]at q
    have:=(Prod.mk.inj (Prod.mk.inj (bQ q)).2).2;omega
   rw[if_neg h4]at q
   by_cases h5:m<=55
   ·rw[if_pos h5]at q
    split at q
    ·have K:=(Prod.mk.inj (bQ q)).1
     have Q:=(Prod.mk.inj (Prod.mk.inj (bQ q)).2).1;have X:=(Prod.mk.inj (Prod.mk.inj (bQ q)).2).2;have K:¬ 192<=a.toNat:=of_decide_eq_false K;rw[if_pos vO]at J;have Z:a=160:=dX.1 (by show a.toNat=160;omega);have ht:h=⟨t.toArray⟩:=by
      rw[<-A, <-Q,O];apply ByteArray.ext;apply Array.ext';have a0:o+n=t.length+1:=H;rw[dP,dZ,dO];show ((a :: t).drop 1).take (1+32 - 1)=t;rw[iK,List.drop_zero,cD vO]
     unfold jaz;rw[if_neg vO,E,ht,Z];apply ByteArray.ext;apply Array.ext';rw[dH,fC];rfl
    ·cases q
   ·rw[if_neg h5]at q
    split at q
    ·rename_i n' hl
     split at q
     ·have X:=(Prod.mk.inj (Prod.mk.inj (bQ q)).2).2
      have:=(jd4 hl).2.2.2.1
      omega
     ·cases q
    ·cases q
theorem jlv:∀ (l:vM) (i:Nat) (r:vB),r∈l->r.size≠0->∃ j,(j,r)∈jaA i l
 | x :: l,i,r,h,h0=>by
  unfold jaA;rcases bM.1 h with rfl | h
  ·rw[if_neg h0];exact⟨i,bD⟩
  ·obtain⟨j,e⟩:=jlv l (i+1) r h h0
   split
   ·exact⟨j,e⟩
   ·exact⟨j,bC _ e⟩
theorem jqP(p r:vB)(h3:r.size≠0):jad.behindN ⟨2,p,⟨#[]⟩,r :: jar 15⟩=1:=by
 have e:jaA 0 (r :: jar 15)=[(0,r)]:=by unfold jaA;rw[if_neg h3,jd7]
 unfold jad.behindN;have o:jad.refsL ⟨2,p,⟨#[]⟩,r :: jar 15⟩=[(0,r)]:=e;rw[o];show jad.ri _ 0+1=1;unfold jad.ri;rw[o];rfl
def GetE(s:vB):Prop:=∀ w,ErrT w->vQ 43 #[.string s] w (juK w)
def InlE(s:vB):Prop:=∀ w,ErrT w->vR 52 #[.string s] w (.tuple #[jak.V,.bool false])
theorem jyv(s:vB)(hs:s.size < 32)(h:GetE s):InlE s:=fun w hG=>by
 have HR:=Hd h;have HG:=Hd hG;have c1:¬(32:Int)<=(s.size:Int):=vO
 clear h hG;go_enter Tryz.func52,Tryz.ntmps52;go_wp2_with (refine jah Tryz.allocNode rfl rfl ?_;intro W1 z q)
 refine vC (HR.o W1 (HG.o.ext q)) fun K O=>?_;have A:=z.keeps O (fun h=>h);have Q:=Hd (q.trans O);clear z q O;unfold jad.V;go_wp2_with (first |(refine jah Tryz.allocNode rfl rfl ?_;intro W3 X E;refine jae (vs:=jak.cells) rfl rfl rfl rfl X rfl Tryz.szNode jak.one ?_;intro W4 Z H;have q0:W4.cell? ⟨K.heap.size,0,none⟩=some (.int .i64 0):=Z.cellL vF;have J:=(A.keeps E (fun h=>h)).keeps H (by have:=A.lt;omega)) |(refine jae (vs:=jak.cells) rfl rfl rfl rfl J rfl Tryz.szNode (jad.one _) ?_;intro W8 a0 a1))
 refine bodyPost_ret (jaj rfl rfl rfl (jai W8 _ jak rfl a0)) rfl ?_;have a2:Ext K W4:=E.trans' H (fun x hx e=>by have e:x=K.heap.size:=e;omega)
 exact⟨rfl,(Q.o.trans a2).trans' a1 (fun x hx e=>by have e:x=w.heap.size:=e;omega)⟩
theorem jvQ(w:vW):vR 52 #[.string (jaz ⟨#[]⟩)] w (.tuple #[jak.V,.bool false]):=by
 have HR:=Hd (fun w=>jf3 (inlP 0) w jak jbd.none)
 obtain⟨s,O⟩:=vE (jaz ⟨#[]⟩)
 have q:jaR jak=s:=by rw[O];rfl
 rw[q]at HR;have Q:s.size < 32:=by rw[O];decide
 have c1:¬(32:Int)<=(s.size:Int):=vO
 rw[<-O];clear O q Q;go_enter Tryz.func52,Tryz.ntmps52;go_wp2_with (refine jah Tryz.allocNode rfl rfl ?_;intro W1 z A)
 refine vC (HR.o W1) fun X Z=>?_;have E:=z.keeps Z (fun h=>h);have a0:=Hd (A.trans Z);clear z A Z;unfold jad.V;go_wp2_with (first |(refine jah Tryz.allocNode rfl rfl ?_;intro W3 a1 H;refine jae (vs:=jak.cells) rfl rfl rfl rfl a1 rfl Tryz.szNode jak.one ?_;intro W4 a2 J;have q0:W4.cell? ⟨X.heap.size,0,none⟩=some (.int .i64 0):=a2.cellL vF;have K:=(E.keeps H (fun h=>h)).keeps J (by have:=E.lt;omega)) |(refine jae (vs:=jak.cells) rfl rfl rfl rfl K rfl Tryz.szNode (jad.one _) ?_;intro W8 a3 a4))
 refine bodyPost_ret (jaj rfl rfl rfl (jai W8 _ jak rfl a3)) rfl ?_;have a5:Ext X W4:=H.trans' J (fun x hx e=>by have e:x=X.heap.size:=e;omega)
 exact⟨rfl,(a0.o.trans a5).trans' a4 (fun x hx e=>by have e:x=w.heap.size:=e;omega)⟩
def ValD(s:vB)(m:jad):Prop:=(∃ d,jbd (InlD d) m/\jaR m≠s)\/∀ w,ErrT w->vR 75 #[m.V] w (.bool false)
theorem jvH(s:vB)(hR:∀ w,ErrT w->vQ 74 #[.string s] w (juQ w s))(hV:∀ m,jqu s m->ValD s m):GetE s:=fun w hG=>by
 have HR:=Hd hR;have HV:=Hd hV;have HG:=Hd hG;clear hR hV hG;go_enter Tryz.func43,Tryz.ntmps43;go_wp2_with (refine jah Tryz.allocNode rfl rfl ?_;intro W1 a2 J)
 refine (HR.o W1 (HG.o.ext J)).mono ?_;rintro e w2 (⟨m,hm,rfl,q⟩ |⟨m,hm,hF,rfl,q⟩)
 ·have a6:=a2.keeps q (fun h=>h)
  have K:=Hd (J.trans q);have HL:=Hd (m.cells_len hm);have HM:=Hd hm;clear a2 J q hm;unfold jad.V;go_wp2_with (first |(refine jah Tryz.allocNode rfl rfl ?_;intro W3 O A;refine jae (vs:=m.cells) rfl rfl rfl rfl O (by rw[HL.o];rfl) (by rw[HL.o];exact Tryz.szNode) m.one ?_;intro W4 Q E;have a5:=(a6.keeps A (fun h=>h)).keeps E (by have:=a6.lt;omega)) |(refine jae (vs:=jak.cells) rfl rfl rfl rfl a5 rfl Tryz.szNode (jad.one _) ?_;intro W8 X Z))
  refine bodyPost_ret (jaj rfl rfl rfl (jai W8 _ jak rfl X)) rfl ?_;have z:Ext w2 W4:=A.trans' E (fun x hx e=>by have e:x=w2.heap.size:=e;omega)
  exact⟨rfl,(K.o.trans z).trans' Z (fun x hx e=>by have e:x=w.heap.size:=e;omega)⟩
 ·have a7:=Hd (a2.keeps q (fun h=>h))
  have K:=Hd (J.trans q);have HL:=Hd (m.cells_len hm);have HM:=Hd hm;have a8:=Hd (HV.o m hF);clear a2 J q hm hF HV;unfold jad.V;go_wp2_with (first |(refine jah Tryz.allocNode rfl rfl ?_;intro W3 O A;refine jae (vs:=m.cells) rfl rfl rfl rfl O (by rw[HL.o];rfl) (by rw[HL.o];exact Tryz.szNode) m.one ?_;intro W4 Q E) |(refine jaf 99 (.tmp 4) rfl rfl _ _ rfl (jas _ _ m HM.o Q) ?_))
  have z:Ext w2 W4:=A.trans' E (fun x hx e=>by have e:x=w2.heap.size:=e;omega);rcases a8.o with⟨d,hgd,hne⟩ | hno
  ·have H:=Hd hgd
   have H1:=Hd (hgd.one (inlP d))
   obtain⟨tx,a3⟩:=vE (jaR m)
   rw[<-a3]at hne;have a9:=jb6 hne;have HT:=Hd a3;clear hgd hne a3;refine vC (jih (inlP d) W4 m H.o) fun w5 q=>?_;have a4:=Q.keeps q (fun h=>h);have HX:=Hd (z.trans q);have b0:=Hd a4;clear O A Q E z q;go_wp2_with (refine jaf 99 (.tmp 4) rfl rfl _ _ rfl (jas _ _ m HM.o a4) ?_)
   refine vH (jol w5 m H1.o) fun w6 q=>?_;rw[<-HT.o];have a1:=HX.o.trans q;have a0:=a7.o.keeps a1 (fun h=>h);clear a4;go_wp2_with (refine jae (vs:=jak.cells) rfl rfl rfl rfl a0 rfl Tryz.szNode (jad.one _) ?_;intro W8 X Z)
   refine bodyPost_ret (jaj rfl rfl rfl (jai W8 _ jak rfl X)) rfl ?_
   exact⟨rfl,(K.o.trans a1).trans' Z (fun x hx e=>by have e:x=w.heap.size:=e;omega)⟩
  ·refine vH (hno W4 (HG.o.ext (K.o.trans z))) fun w5 q=>?_;have a1:=z.trans q;have a0:=a7.o.keeps a1 (fun h=>h);clear O A Q E z hno;go_wp2_with (refine jae (vs:=jak.cells) rfl rfl rfl rfl a0 rfl Tryz.szNode (jad.one _) ?_;intro W8 X Z)
   refine bodyPost_ret (jaj rfl rfl rfl (jai W8 _ jak rfl X)) rfl ?_
   exact⟨rfl,(K.o.trans a1).trans' Z (fun x hx e=>by have e:x=w.heap.size:=e;omega)⟩
def GetD(k:Nat)(s:vB):Prop:=(∃ n,jbd (InlD k) n/\s=jaR n)\/GetE s
theorem jsN{I:vB->jad->Prop}{n:jad}(h:jbd I n)(h0:n.kind=0):n=jak:=by
 cases h with
 | none=>rfl
 | leaf p v _ _ _=>exact absurd (show (1:Nat)=0 from h0) vI
 | ext p r _ _ _=>exact absurd (show (2:Nat)=0 from h0) vI
 | branch v rs _ _ _ _=>exact absurd (show (3:Nat)=0 from h0) vI
theorem jsX(k:Nat)(r:vB)(h:GetD k r):(∃ m,InlD (k+1) r m)\/InlE r:=by
 by_cases hs:32<=r.size
 ·exact .inr fun w _=>jyu w r hs
 ·rcases h with⟨n,hn,rfl⟩ | h
  ·by_cases h0:n.kind=0
   ·rw[jsN hn h0]
    exact .inr fun w _=>jvQ w
   ·exact .inl ⟨n,hn,rfl,by omega,h0⟩
  ·exact .inr (jyv r vO h)
theorem jth(k:Nat)(r:vB)(hr:r.size<=1000000)(h:GetD k r):(MayP (InlD (k+1)) r/\MayD true r)\/(¬ MayP (InlD (k+1)) r/\MayD false r):=by
 by_cases hm:MayP (InlD (k+1)) r
 ·exact .inl ⟨hm,fun w _=>jAF (inlP _) w r hm⟩
 ·refine .inr ⟨hm,?_⟩
  have e:jgG r=none:=by
   cases e:jgG r with
   | none=>rfl
   | some x=>exact absurd (.inl (jn6 e)) hm
  rcases jsX k r h with⟨m,hm'⟩ | hi
  ·exact absurd (.inr ⟨m,hm'⟩) hm
  ·exact jAG r vO e hi
theorem jns(k:Nat)(s:vB)(m:jad)(hs:s.size<=k+1)(hs2:s.size<=400000)(ih:∀ r:vB,r.size<=k->r.size<=400000->GetD k r)(hF:jqu s m):jbd (InlD (k+1)) m\/∀ w,ErrT w->vR 75 #[m.V] w (.bool false):=by
 rcases hF with⟨p,v,rfl,hp,hps,hvs⟩ |⟨p,y,rfl,hp,hps,hy,hy0⟩ |⟨v,rs,rfl,hrl,hvs,hrs,hrn⟩
 ·have hl:(jar 16).length=16:=rfl
  by_cases h1:(⟨1,p,v,jar 16⟩:jad).pathOk 0=true
  ·by_cases q:v.size=0
   ·have q:=ja1 q
    subst q;exact .inr fun w o=>jdN false w o _ rfl (show (1:Nat)<=3 by decide) 110 rfl (vX 110) fun w _=>jmH w _ rfl hps h1 rfl
   ·by_cases z:v.size<=80
    ·exact .inl (jbd.leaf p v h1 vO z)
    ·exact .inr fun w o=>jdN false w o _ rfl (show (1:Nat)<=3 by decide) 110 rfl (vX 110) fun w _=>jq1 w _ rfl hps h1 (by show 80 < v.size;omega) (by show v.size<=1000000000;omega)
  ·exact .inr fun w o=>jdN false w o _ rfl (show (1:Nat)<=3 by decide) 110 rfl (vX 110) fun w _=>jof w _ rfl hps (by simpa using h1)
 ·by_cases h1:(⟨2,p,⟨#[]⟩,y :: jar 15⟩:jad).pathOk 1=true
  ·cases hh:jgG y with
   | some x=>exact .inl (jbd.ext p y h1 hy0 (.inl (jn6 hh)))
   | none =>
    have K:∀ (m:jad) (E:Bool),m.refs.length=16->(∀ w,ErrT w->vR 52 #[.string y] w (.tuple #[m.V,.bool E]))->(E=true->m.kind≠3) ->
      jbd (InlD (k+1)) (⟨2,p,⟨#[]⟩,y :: jar 15⟩:jad)\/∀ w,ErrT w->vR 75 #[(⟨2,p,⟨#[]⟩,y :: jar 15⟩:jad).V] w (.bool false):=fun m E A Q X =>
     .inr fun w o=>jdN false w o _ rfl (show (2:Nat)<=3 by decide) 111 rfl (vX 111) fun w o=>jsB w o _ y m E rfl h1 rfl (jqP p y hy0) rfl vO hh A Q X
    rcases jsX k y (ih y vO vO)with⟨m,A⟩ | hi
    ·by_cases z:m.kind=3
     ·exact .inl (jbd.ext p y h1 hy0 (.inr ⟨m,A,z⟩))
     ·exact K m true ((inlP _).refs y m A) (fun w _=>(inlP _).inl y m A w) (fun _=>z)
    ·exact K jak false rfl hi (fun h=>by cases h)
  ·exact .inr fun w o=>jdN false w o _ rfl (show (2:Nat)<=3 by decide) 111 rfl (vX 111) fun w _=>jjV w _ rfl hps (by simpa using h1)
 ·by_cases h8:v.size<=80
  ·open Classical in
   obtain⟨M,H⟩:∃ M:vB->Bool,M=fun r=>decide (MayP (InlD (k+1)) r):=⟨_,rfl⟩
   have Z:∀ r∈rs,r.size≠0->MayD (M r) r:=fun r J O=>by
    have a0:=hrs r J;rcases jth k r vO (ih r vO vO)with⟨h1,q⟩ |⟨h1,q⟩
    ·have e:M r=true:=by rw[H];exact decide_eq_true h1
     rw[e];exact q
    ·have e:M r=false:=by rw[H];exact decide_eq_false h1
     rw[e];exact q
   cases hb:braN M ⟨3,⟨#[]⟩,v,rs⟩with
   | true =>
    unfold braN at hb;rw[cI]at hb
    obtain⟨q,z⟩:=hb
    rw[dN]at z;refine .inl (jbd.branch v rs hrl h8 (fun r J O=>?_) (of_decide_eq_true q))
    obtain⟨j,hj⟩:=jlv rs 0 r J O
    have:M r=true:=z (j,r) hj
    rw[H]at this;exact of_decide_eq_true this
   | false =>
    refine .inr fun w o=>jdN false w o _ hrl (show (3:Nat)<=3 by decide) 112 rfl (vX 112) fun w o=>?_
    have:=joU w o ⟨3,⟨#[]⟩,v,rs⟩ hrl rfl h8 M Z
    rwa [hb]at this
  ·exact .inr fun w o=>jdN false w o _ hrl (show (3:Nat)<=3 by decide) 112 rfl (vX 112) fun w _=>jl4 w _ rfl (by show 80 < v.size;omega) (by show v.size<=1000000000;omega)
theorem jsH:∀ (k:Nat) (s:vB),s.size<=k->s.size<=400000->GetD k s:=by
 have z:∀ (k:Nat) (s:vB),s.size<=400000->(∀ m,jqu s m->jbd (InlD k) m\/∀ w,ErrT w->vR 75 #[m.V] w (.bool false))->GetD k s:=fun k s q H=>by
  by_cases hn:∃ n,jbd (InlD k) n/\s=jaR n
  ·exact .inl hn
  ·have A:s≠jaz ⟨#[]⟩:=fun e=>hn ⟨jak,jbd.none,e⟩
   refine .inr (jvH s (fun w J=>jwv w J s q A) fun m E=>?_);rcases H m E with h | h
   ·exact .inl ⟨k,h,fun e=>hn ⟨m,h,e.symm⟩⟩
   ·exact .inr h
 intro k;induction k with
 | zero =>
  intro s q o
  have:s=⟨#[]⟩:=ja1 vO
  subst this;exact .inr fun w _=>jsL w _ fun w=>jfw w _ vI jso
 | succ k ih=>exact fun s q o=>z (k+1) s o fun m E=>jns k s m q o ih E
theorem jAs(s:vB)(hs:s.size<=400000):(∃ n,jbc s n)\/GetE s:=by
 rcases jsH s.size s (bL _) hs with⟨n,h1,h2⟩ | h
 ·exact .inl ⟨n,h2,s.size,h1⟩
 ·exact .inr h
end
end Go.Proofs.YtepbencaoiompaaGreatDoor
