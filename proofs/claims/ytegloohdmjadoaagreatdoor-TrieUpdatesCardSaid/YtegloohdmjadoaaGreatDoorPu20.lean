/- Lemmas; each is under no condition but those that it states. -/
import Derived.Test.YtegloohdmjadoaaGreatDoorPu19
namespace Go.Proofs.YtegloohdmjadoaaGreatDoor
set_option linter.unusedSimpArgs false
set_option linter.unusedVariables false
set_option maxRecDepth 100000
set_option maxHeartbeats 16000000
open Go Go.RowKit
theorem jjB:∀ (a q:vN) (m:Nat),ja0 (a.take m) q=min m (ja0 a q)
 | [],q,m=>by simp[ja0]
 | x :: r,[],m=>by cases m <;> simp[ja0]
 | x :: r,y :: t,0=>by simp[ja0]
 | x :: r,y :: t,m+1=>by
  have:=jjB r t m
  rw[dU];show (if x=y then ja0 (r.take m) t+1 else 0)=min (m+1) (if x=y then ja0 r t+1 else 0);split <;> omega
def comF(l:vL)(p:vB):vB:=l.foldl (fun p q=>p.extract 0 (jal p q.1)) p
def comM(a:vB)(l:vL)(m:Nat):Nat:=l.foldl (fun m q=>min m (jal a q.1)) m
theorem jcJ(b:vB)(k:Nat):(b.extract 0 k).data.toList=b.data.toList.take k:=by
 rw[cX,fF,dQ];simp
theorem jrq(a:vB):∀ (l:vL) (p:vB) (m:Nat),p.data.toList=a.data.toList.take m->(comF l p).data.toList=a.data.toList.take (comM a l m)
 | [],p,m,h=>h
 | q :: l,p,m,h=>by
  refine jrq a l (p.extract 0 (jal p q.1)) (min m (jal a q.1)) ?_;rw[jcJ,h,iL]
  congr 1
  show min (ja0 p.data.toList q.1.data.toList) m=min m (ja0 a.data.toList q.1.data.toList);rw[h,jjB];omega
theorem jrs(a:vB)(K:Nat):∀ (l:vL) (m:Nat),K<=m->(∀ q∈l,K<=jal a q.1)->K<=comM a l m
 | [],m,h,_=>h
 | q :: l,m,h,hq=>jrs a K l (min m (jal a q.1)) (by have:=hq q bK;omega) (fun x e=>hq x (bH _ e))
theorem jn7(a:vB):∀ (l:vL) (m:Nat),comM a l m<=m
 | [],m=>bM _
 | q :: l,m=>bG (jn7 a l _) (Nat.min_le_left _ _)
theorem jrt(a:vB):∀ (l:vL) (m:Nat) (q:Pair),q∈l->comM a l m<=jal a q.1
 | p :: l,m,q,h=>by
  rcases bX.1 h with rfl | h
  ·exact bG (jn7 a l _) (Nat.min_le_right _ _)
  ·exact jrt a l _ q h
theorem jpK{a b:vN}{k:Nat}(h:a.take k=b.take k)(h1:k<=a.length)(h2:k<=b.length):k<=ja0 a b:=by
 rw[jdJ a b k h h1 h2];omega
theorem jhJ{f:Nat}{l:vL}(h:jax f l)(h2:2<=l.length):comF l (l.getD 0 pd).1=(l.getD 0 pd).1.extract 0 (comK l):=by
 refine jbE ?_
 obtain⟨a,m⟩:=vE (l.getD 0 pd).1
 have A:l.getD 0 pd∈l:=by
  rw[bC,bA vO];exact cY _
 have E:l.getD (l.length - 1) pd∈l:=by
  rw[bC,bA vO];exact cY _
 have e:=jbk h h2;have o:=(e _ A).2;rw[<-m,jrq a l a a.data.toList.length (bQ (bM _)).symm,jcJ]
 congr 1
 have H:∀ q∈l,comK l<=jal a q.1:=fun q J=>by
  obtain⟨K,O⟩:=e q J
  exact jpK (by rw[m];exact K.symm) (by rw[m];exact o) O
 have Q:=jrs a (comK l) l a.data.toList.length (by rw[m];exact o) H;have X:=jrt a l a.data.toList.length _ E;have Z:jal a (l.getD (l.length - 1) pd).1=comK l:=by rw[m];rfl
 omega
theorem jmJ{f:Nat}{l:vL}(h:jax f l)(h2:2<=l.length):jc4 ((l.getD 0 pd).1.extract 0 (comK l)) l=jak (comK l) l:=by
 have o:l.getD 0 pd∈l:=by
  rw[bC,bA vO];exact cY _
 have e:=jbk h h2;have m:((l.getD 0 pd).1.extract 0 (comK l)).size=comK l:=by
  rw[cH];have:=(e _ o).2;omega
 unfold jc4 jak;rw[List.filter_eq_self.2 (fun q A=>by
  obtain⟨E,H⟩:=e q A
  unfold jfL;rw[m,decide_eq_true H,Bool.true_and];refine decide_eq_true (jbE ?_);rw[jcJ,jcJ];exact E),m]
theorem jq7(i:Nat)(hi:i < 256)(q:Pair):jfL ⟨#[i.toUInt8]⟩ q.1=jeM i q:=by
 obtain⟨⟨⟨x⟩⟩,v⟩:=q
 cases x with
 | nil=>rfl
 | cons a r =>
  have m:(1:Nat)<=(⟨⟨a :: r⟩⟩:vB).size:=by show 1<=(a :: r).length;simp
  have o:(⟨⟨a :: r⟩⟩:vB).extract 0 1=⟨#[a]⟩:=jbE (by rw[jcJ];rfl);unfold jfL;show (decide ((1:Nat)<=_) && decide ((⟨⟨a :: r⟩⟩:vB).extract 0 1=⟨#[i.toUInt8]⟩))=(a.toNat == i);rw[show (a.toNat == i)=decide (a.toNat=i)from rfl];rw[decide_eq_true m,Bool.true_and,o];refine decide_eq_decide.2 ⟨fun e=>?_,fun e=>?_⟩
  ·have:a=i.toUInt8:=by injection e with e;injection e with e;injection e
   rw[this];simp;omega
  ·rw[<-e];simp
theorem jmK(i:Nat)(hi:i < 256)(l:vL):jc4 ⟨#[i.toUInt8]⟩ l=jak 1 (cutL i l):=by
 unfold jc4 jak cutL;rw[show (fun q:Pair=>jfL ⟨#[i.toUInt8]⟩ q.1)=jeM i from funext (jq7 i hi)];rfl
section
attribute [local go_sem] Oper.semAt_some
theorem jj8{s:vB}(h:s.size=0):s=⟨#[]⟩:=by
 obtain⟨⟨l⟩⟩:=s
 cases l with
 | nil=>rfl
 | cons x r=>cases h
theorem jmY{s:vB}(h:s.size≠0):s.toList.isEmpty=false:=by
 rw[bL]
 obtain⟨⟨l⟩⟩:=s
 cases l with
 | nil=>exact absurd rfl h
 | cons x r=>rfl
theorem jiZ(w:vW)(b:vB):vR 108 #[.string ⟨#[]⟩,.string b] w (.int .i64 (jal ⟨#[]⟩ b)):=by
  rw[show jal ⟨#[]⟩ b=0 from jgX _ _ (.inl rfl)];go_enter Tryz.func108,Tryz.ntmps108;go_wp2_with fail
  refine jah [0,1,2,3,4,5,6,7,8,9,10,11,12] Ext ExtR ExtT vY vY vY ?_;iterate 3 refine vK ?_
  iterate 2 (refine qKS _ rfl ?_;refine vS ?_)
  iterate 2 refine vK ?_
  iterate 5 (refine qKS _ rfl ?_;refine vS ?_)
  refine vK ?_
  refine qKE (fun w1 e=>?_);have m:=Hd ((jai w).trans e);clear e;go_wp2_with fail
  go_ret
  exact⟨rfl,m.o⟩
theorem jml(w:vW)(a:vB)(ha:a.size≠0):vR 108 #[.string a,.string ⟨#[]⟩] w (.int .i64 (jal a ⟨#[]⟩)):=by
  have m:=jmY ha;rw[show jal a ⟨#[]⟩=0 from jgX _ _ (.inr rfl)];go_enter Tryz.func108,Tryz.ntmps108;go_wp2_with fail
  refine jah [0,1,2,3,4,5,6,7,8,9,10,11,12] Ext ExtR ExtT vY vY vY ?_;iterate 7 refine vK ?_
  iterate 5 (refine qKS _ rfl ?_;refine vS ?_)
  refine vK ?_
  refine qKE (fun w1 e=>?_);have A:=Hd ((jai w).trans e);clear e;go_wp2_with fail
  go_ret
  exact⟨rfl,A.o⟩
theorem jm7{a b:vB}(ha:0 < a.size)(hb:0 < b.size)(h:a[0]=b[0]):jal a b=1+jal (a.extract 1 a.size) (b.extract 1 b.size):=by
 have e:∀ {s:vB} (m:0 < s.size),s.data.toList=s[0] ::(s.extract 1 s.size).data.toList:=fun {s} m=>by
  have:=jkk s m
  rw[List.drop_zero]at this;rw[this]
  congr 1
  rw[cX]
  simp
  rw[bQ (by rw[List.length_tail];exact bM _)]
 unfold jal;rw[e ha,e hb];show (if a[0]=b[0]then _ else 0)=_;rw[if_pos h];omega
theorem jgW:∀ a b:vN,ja0 a b<=a.length
 | [],_=>by simp[ja0]
 | x :: r,[]=>by simp[ja0]
 | x :: r,y :: t=>by
  have:=jgW r t
  show (if x=y then ja0 r t+1 else 0)<=_;rw[bP];split <;> omega
theorem jqe(a b:vB):jal a b<=a.size:=jgW _ _
theorem jm9{a b:vB}(ha:0 < a.size)(hb:0 < b.size)(h:a[0]≠b[0]):jal a b=0:=by
 have e:∀ {s:vB} (m:0 < s.size),s.data.toList=s[0] :: s.data.toList.drop 1:=fun {s} m=>by
  have:=jkk s m
  rwa [List.drop_zero]at this
 unfold jal;rw[e ha,e hb];show (if a[0]=b[0]then _ else 0)=_;rw[if_neg h]
theorem jsZ:∀ (n:Nat) (w:vW) (a b:vB),a.size<=n->n<=1000000->b.size<=1000000->vR 108 #[.string a,.string b] w (.int .i64 (jal a b)):=by
 intro n;induction n with
 | zero =>
  intro w a b Z hn hb;have A:=jj8 (s:=a) vO;subst A;exact jiZ w b
 | succ n ih =>
  intro w a b Z hn hb
  by_cases ha0:a.size=0
  ·have A:=jj8 ha0
   subst A;exact jiZ w b
  by_cases hb0:b.size=0
  ·have A:=jj8 hb0
   subst A;exact jml w a ha0
  have a0:=jmY ha0;have a1:=jmY hb0;have K:0 < a.size:=vO
  have O:0 < b.size:=vO
  have b1:(0:Int) < (a.size:Int):=vO
  have b2:(0:Int) < (b.size:Int):=vO
  by_cases heq:a[0]=b[0]
  ·rw[jm7 K O heq]
   have hh:((a[0].toNat:Int) !=(b[0].toNat:Int))=false:=by rw[heq];simp
   have b3:(1:Int)<=(a.size:Int):=vO
   have b4:(1:Int)<=(b.size:Int):=vO
   have E:=Hd (fun w1=>ih w1 (a.extract 1 a.size) (b.extract 1 b.size) (by rw[cH];omega) vO (by rw[cH];omega))
   obtain⟨c,Q⟩:=vE (jal (a.extract 1 a.size) (b.extract 1 b.size))
   have a2:c<=1000000:=by have:=jqe (a.extract 1 a.size) (b.extract 1 b.size);rw[cH]at this;omega
   rw[<-Q]at E ⊢;clear ih heq Q;go_enter Tryz.func108,Tryz.ntmps108;go_wp2_with fail
   refine jah [0,1,2,3,4,5,6,7,8,9,10,11,12] Ext ExtR ExtT vY vY vY ?_;iterate 13 refine vK ?_
   refine qKE (fun w1 m=>?_);have H:=Hd ((jai w).trans m);clear m;go_wp2_with fail
   refine jah [0,1,2,3,4,5,6] Ext ExtR ExtT vY vY vY ?_;iterate 4 refine vK ?_
   refine qKC _ 108 #[.string (a.extract 1 a.size),.string (b.extract 1 b.size)] (.int .i64 c) rfl (fun X=>jat (vX 108) vY) (fun X _=>E.o X) ?_;refine vS ?_;iterate 2 refine vK ?_
   refine qKE (fun w3 m=>?_);have J:=Hd (H.o.trans ((jai w1).trans m));clear m;go_wp2_with fail
   go_ret
   exact⟨by simp,J.o⟩
  ·rw[jm9 K O heq]
   have hh:((a[0].toNat:Int) !=(b[0].toNat:Int))=true:=by
    have:a[0].toNat≠b[0].toNat:=fun e=>heq (dM.1 e)
    simp;omega
   clear ih heq;go_enter Tryz.func108,Tryz.ntmps108;go_wp2_with fail
   refine jah [0,1,2,3,4,5,6,7,8,9,10,11,12] Ext ExtR ExtT vY vY vY ?_;iterate 13 refine vK ?_
   refine qKE (fun w1 m=>?_);have H:=Hd ((jai w).trans m);clear m;go_wp2_with fail
   go_ret
   exact⟨rfl,H.o⟩
theorem jrr(h:vB){l:vL}{k:Nat}{q:Pair}(hq:l[k]?=some q):comF (l.take (k+1)) h=(comF (l.take k) h).extract 0 (jal (comF (l.take k) h) q.1):=by
 unfold comF;rw[bS,hq,Option.toList_some,dF];rfl
theorem jlA:∀ (l:vL) (h:vB),(comF l h).size<=h.size
 | [],h=>bM _
 | q :: l,h=>bG (jlA l _) (by rw[cH];omega)
def Co5R(w:vW)(h:vB)(l:vL)(v iv:vV)(wr:vW):Prop:=∃ k:Nat,k<=l.length/\v=.string (comF (l.take k) h)/\iv=.int .i64 k/\Ext w wr
theorem jkP(w:vW)(v:vV)(l:vL)(hv:RdP w v l)(hl:l≠[])(hn:l.length<=1000000)(hs:∀ p∈l,p.1.size<=1000000) :
  vR 77 #[v] w (.string (comF l (l.getD 0 pd).1)):=by
 have HS:=Hd hs;have e:0 < l.length:=fV.2 hl
 obtain⟨⟨H,y0⟩,m⟩:∃ p,l[0]?=some p:=⟨_,bA e⟩
 have J:(l.getD 0 pd).1=H:=by rw[bC,m];rfl
 rw[J];rcases hv with⟨_,_,_,h0⟩ |⟨b,o,c1,rfl,hb,hc,hcell⟩
 ·rw[h0]at e;cases e
 have q0:=(hcell 0 _ m).1;rw[iI,fX]at q0;have X:=Hd (HS.o _ (bE m));have Z:=Hd hcell;have b0:(0:Int) < (l.length:Int):=vO
 clear hs hcell m J;go_enter Tryz.func77,Tryz.ntmps77;go_wp2_with fail
 go_loopw [3,4] (fun v iv wr=>Co5R w H l v iv wr) (fun _ iv _=>l.length - (intOf iv).toNat)
 case atStart=>exact⟨0,by omega,rfl,rfl,ExtR w⟩
 case round =>
  obtain⟨k,hk,rfl,rfl,K⟩:=hrel
  have HE:=Hd K
  obtain⟨p,O⟩:=vE (comF (l.take k) H)
  have HP:=Hd O;rw[<-O];have a0:=Hd (show p.size<=1000000 by rw[O];exact bG (jlA _ _) X.o);clear K O
  by_cases hlt:k < l.length
  ·have b1:(k:Int) < (l.length:Int):=vO
   obtain⟨⟨x,y⟩,Q⟩:∃ p,l[k]?=some p:=⟨_,bA hlt⟩
   have q1:=jaa (Z.o k _ Q).1 HE.o;have a1:=Hd (HS.o _ (bE Q));have A:=Hd (jrr H Q);rw[<-HP.o]at A;clear Q;go_wp2_with fail
   refine vH (jsZ p.size wr p x (bM _) a0.o a1.o) fun w1 K=>?_
   obtain⟨cm,E⟩:=vE (jal p x)
   have a4:cm<=p.size:=by rw[E];exact jgW _ _
   have a2:=Hd (HE.o.trans K);rw[<-E]at A ⊢;clear E;have c0:(cm:Int)<=(p.size:Int):=vO
   go_wp2_with fail
   go_roundw
   case rel=>exact⟨k+1,by omega,by rw[A.o],by go_num,a2.o⟩
   case measure=>exact vJ
  ·have a3:k=l.length:=vO
   have HF:=Hd (show p=comF l H by rw[HP.o,a3,bQ (bM _)]);go_wp2_with fail
   go_ret
   exact⟨by rw[HF.o];rfl,HE.o⟩
def jf9(l:vL)(n:jad):Prop:=∀ w v,RdP w v l->vR 80 #[v] w n.V
theorem jfg(f:Nat)(l:vL)(hN:jf9 l (jao (jac f) l))(h:jax f l)(w:vW)(v:vV)(hv:RdP w v l) :
  vR 42 #[v] w (.string (jac (f+1) l).text):=by
 have m:=Hd (good f l h).1;have H:=Hd hv;have A:=Hd hN
 obtain⟨n,E⟩:=vE (jao (jac f) l)
 rw[show (jac (f+1) l).text=jaO (jao (jac f) l)from rfl];rw[<-E]at m A ⊢
 obtain⟨O,Q,rfl⟩:=hv.sl;clear hv hN E h;go_enter Tryz.func42,Tryz.ntmps42;go_wp2_with fail
 refine vH (A.o w _ H.o) fun w1 J=>?_;go_wp2_with fail
 refine vH (ji4 (inlP f) (inlR f) w1 n m.o) fun X K=>?_;have e:=Hd (J.o.trans K);go_wp2_with fail
 go_ret
 exact⟨rfl,e.o⟩
theorem jtd(f:Nat)(l:vL)(hN:jf9 l (jao (jac f) l))(h:jax f l)(w:vW)(v:vV)(hv:RdP w v l) :
  vR 111 #[v] w (.string (refB (jac (f+1) l).text)):=by
 have H:=Hd (jfg f l hN h w v hv);have m:Hid ((jac (f+1) l).text.size<=1000000):=(bG (jhf (jao (jac f) l) ((good f l h).1.one (inlP f))) vI)
 obtain⟨t,J⟩:=vE (jac (f+1) l).text
 rw[<-J]at H m ⊢
 obtain⟨O,Q,rfl⟩:=hv.sl;clear hv hN J h;go_enter Tryz.func111,Tryz.ntmps111;go_wp2_with fail
 refine H.o.mono ?_;rintro e w1 ⟨rfl,A⟩;have K:=Hd A;clear A;go_wp2_with fail
 refine vH (jxN w1 t m.o) fun X A=>?_;have E:=Hd (K.o.trans A);go_wp2_with fail
 go_ret
 exact⟨rfl,E.o⟩
theorem jp9(B:vL->PT):jf9 [] (jao B []):=by
 intro w v H
 obtain⟨K,O,rfl⟩:=H.sl;clear H;go_enter Tryz.func80,Tryz.ntmps80;go_wp2_with (first |(refine jaj Tryz.allocNode rfl rfl ?_;intro Q m o) |(refine jag (vs:=jav.cells) rfl rfl rfl rfl m rfl Tryz.szNode jav.one ?_;intro J A E))
 refine bodyPost_ret (jbL rfl rfl (jas J _ jav rfl A)) rfl ?_
 exact⟨rfl,o.trans' E (fun x X e=>by have e:x=w.heap.size:=e;omega)⟩
theorem jsx(B:vL->PT)(x y:vB):jf9 [(x,y)] (jao B [(x,y)]):=by
 intro w v hv;rcases hv with⟨_,_,_,h0⟩ |⟨b,o,c1,rfl,hb,hc,hcell⟩
 ·cases h0
 obtain⟨X,Z⟩:=hcell 0 (x,y) rfl
 rw[iI,fX]at X;rw[iI,fX]at Z;have Q1:=Hd X;have Q2:=Hd Z;rw[show List.length [(x,y)]=1 from rfl]at *;rw[show jao B [(x,y)]=⟨1,x,y,jam 16⟩from rfl];have NB:=Hd (show ¬(b=w.heap.size)from by omega);clear hcell X Z hc hb;go_enter Tryz.func80,Tryz.ntmps80;go_wp2_with (refine jaj Tryz.allocNode rfl rfl ?_;intro Q H J)
 have a0:=Hd H;have m:=Hd J;clear H J;refine jaJ [0,1,2,3,4,5,6,7,8,9] [9] Ext (jae (fun z=>z=w.heap.size)) ExtR ExtT (fun x y z h k=>jae.trans h k) (fun x y h=>h.mono (fun _ _ h=>h.elim)) vY vY vY ?_;iterate 3 refine vD ?_
 refine qDL ⟨b,o,none⟩ _ rfl (fun w1 h1=>jab Tryz.uStr rfl (jan (jaa (jaa Q1.o m.o) (jai Q)) h1 NB.o)) ?_;refine vS ?_;iterate 3 refine vD ?_
 refine qDL ⟨b,o+1,none⟩ _ rfl (fun w1 h1=>jab Tryz.uStr rfl (jan (jaa (jaa Q2.o m.o) (jai Q)) h1 NB.o)) ?_;refine vS ?_
 refine vD ?_
 refine qDH _ rfl (fun w2 A K hK=>?_);refine jlb (vs:=jad.cells ⟨1,x,y,jam 16⟩) rfl rfl rfl ((a0.o.keeps (jai Q) (fun h=>h)).keeps A (fun h=>h)) rfl Tryz.szNode (jad.one _) ?_;intro W3 O E;have a1:=Hd (((m.o.trans (jai Q)).trans A).trans' E (fun x hx e=>by have e:x=w.heap.size:=e;omega));have a2:=Hd O;refine hK _ _ E ?_;clear hK K A O E;refine qDE (fun w4 A=>?_);have a3:=Hd (a2.o.keeps A (fun h=>h));have a4:=Hd (a1.o.trans A);clear A;go_wp2_with fail
 refine bodyPost_ret (jbL rfl rfl (jas w4 _ (jad.mk 1 x y (jam 16)) rfl a3.o)) rfl ?_
 exact⟨rfl,a4.o⟩
theorem jsw(f:Nat)(l:vL)(h2:2<=l.length)(hln:l.length<=1000)(hok:jax (f+1) l)(hk:0 < comK l)(hB:jf9 (jak (comK l) l) (jao (jac f) (jak (comK l) l)))(hok':jax f (jak (comK l) l)):jf9 l (jao (jac (f+1)) l):=by
 intro w v hv;have HV:=Hd hv;have HO:=Hd hok;have d2:=Hd hok';have HB:=Hd hB;have a7:=Hd (jhJ hok h2);have a8:=Hd (jmJ hok h2);have m:=jbk hok h2;have a9:Hid (∀ p∈l,p.1.size<=1000000):=(fun p hp=>bG (hok.size p hp).2.1 vI);have b0:((l.getD 0 pd).1.extract 0 (comK l)).size=comK l:=by
  have E:l.getD 0 pd∈l:=by
   rw[bC,bA vO];exact cY _
  rw[cH];have:=(m _ E).2;omega
 have a3:comK l<=12:=by
  have E:l.getD 0 pd∈l:=by
   rw[bC,bA vO];exact cY _
  exact bG (m _ E).2 (hok.size _ E).2.1
 have A:jao (jac (f+1)) l=⟨2,(l.getD 0 pd).1.extract 0 (comK l),⟨#[]⟩,refB (jac (f+1) (jak (comK l) l)).text :: jam 15⟩:=by
  unfold jao;rw[if_neg vO,if_neg vO,if_pos hk]
 rw[A]
 obtain⟨p,hp⟩:=vE ((l.getD 0 pd).1.extract 0 (comK l))
 rw[<-hp]at a7 a8 b0 ⊢
 obtain⟨r,hr⟩:=vE (refB (jac (f+1) (jak (comK l) l)).text)
 have HR:=Hd (jtd f _ hB hok');rw[<-hr]at HR ⊢;have b1:=Hd (show 0 < p.size/\p.size<=12 by omega);have K:=fun W (e:Ext w W)=>jkP W v l (hv.ext e) (fun e=>by rw[e]at h2;simp at h2) vO a9.o;rw[a7.o]at K;have b2:=Hd K;clear K
 obtain⟨a0,c0,rfl⟩:=hv.sl;have g0:¬(l.length:Int)=0:=vO
 have g1:¬(l.length:Int)=1:=vO
 clear hv hok hok' hB m b0 a3 A hp hr hk;go_enter Tryz.func80,Tryz.ntmps80;go_wp2_with (refine jaj Tryz.allocNode rfl rfl ?_;intro W1 b3 b4)
 have b5:=Hd b3;have O:=Hd b4;clear b3 b4;refine vC (b2.o W1 O.o) fun w2 hE=>?_;have Q:=Hd (O.o.trans hE);have H:=Hd (b5.o.keeps hE (fun h=>h));clear hE O b5 b2;have d3:p.toList.isEmpty=false:=by
  rw[bL];cases h:p.data.toList with
  | nil=>have:=b1.o.1;have e:p.data.toList.length=p.size:=rfl;rw[h]at e;simp at e;omega
  | cons=>rfl
 go_wp2_with (first |(refine jaj Tryz.allocNode rfl rfl ?_;intro W3 b6 X) |(refine jag (vs:=jad.cells ⟨2,p,⟨#[]⟩,jam 16⟩) rfl rfl rfl rfl b6 rfl Tryz.szNode (jad.one _) ?_;intro W4 b7 Z))
 obtain⟨gr,b8⟩:=vE w.heap.size
 obtain⟨J,b9⟩:=vE w2.heap.size
 have c1:=Hd (show gr≠J/\w.heap.size<=gr/\w.heap.size<=J from by have:=H.o.lt;have:=Q.o.size;omega);have c2:=Hd ((Q.o.trans X).trans' Z (fun x hx e=>by have e:x=w2.heap.size:=e;have:=Q.o.size;omega));have c3:=Hd ((H.o.keeps X (fun h=>h)).keeps Z (by have:=H.o.lt;omega));have c4:=Hd b7;rw[<-b8]at c3 ⊢;rw[<-b9]at c4 ⊢;clear b6 X b7 Z b8 b9 H;refine (jh3 W4 _ l p (HV.o.ext c2.o) vO a9.o (by have:=b1.o.2;omega)).mono ?_;rintro e w5 ⟨u,rfl,hU⟩;rw[a8.o]at hU
 obtain⟨a5,c5,rfl⟩:=hU.sl
 have HU:=Hd hU;clear hU;go_wp2_with fail
 refine vH (HR.o w5 _ (ERow.rd HU.o)) fun w6 hE=>?_;have a1:=Hd (HU.o.ext.trans hE);have a2:=Hd (c4.o.keeps a1.o (fun h=>h));have c9:=Hd (c3.o.keeps a1.o (fun h=>h));have k3:=a2.o.cellL (i:=3) (v:=.string ⟨#[]⟩) rfl;have f3:w6.frozen? ⟨J,3,none⟩=false:=a2.o.frozen;have c6:Blk (w6.setCell ⟨J,3,none⟩ (.string r)) J (.cells (jad.cells ⟨2,p,⟨#[]⟩,r :: jam 15⟩).toArray 110):=a2.o.set_same (i:=3) (.string r);have c7:=Hd ((jae.refl (fun z=>z=J) w6).setCell (p:=⟨J,3,none⟩) (.inl rfl) (.string r));have d0:=c9.o.keeps c7.o c1.o.1;have c8:=jaq _ J ⟨2,p,⟨#[]⟩,r :: jam 15⟩ rfl c6;unfold jad.V at c8;clear c6;go_wp2_with (first |(refine jaf 110 (.tmp 4) rfl rfl _ _ rfl c8 ?_) |(refine jag (vs:=jad.cells ⟨2,p,⟨#[]⟩,r :: jam 15⟩) rfl rfl rfl rfl d0 rfl Tryz.szNode (jad.one _) ?_;intro d1 a4 a6))
 refine bodyPost_ret (jbL rfl rfl (jas d1 _ ⟨2,p,⟨#[]⟩,r :: jam 15⟩ rfl a4)) rfl ?_;have hz:=c1.o
 exact⟨rfl,((c2.o.trans a1.o).trans' c7.o (fun x hx e=>by have e:x=J:=e;omega)).trans' a6 (fun x hx e=>by have e:x=gr:=e;omega)⟩
def valK(l:vL)(k:Nat):vB:=if k=0 then ⟨#[]⟩else if (l.getD 0 pd).1.size=0 then (l.getD 0 pd).2 else ⟨#[]⟩
theorem jtA{f:Nat}{l:vL}(h:jax f l){k:Nat}{q:Pair}(hq:l[k]?=some q)(h0:q.1.size=0):valK l (k+1)=q.2:=by
 have m:k=0:=by
  by_cases m:k=0
  ·exact m
  ·exfalso
   have A:=(bO.1 hq).1;have o:=jb9 h.rise (i:=0) (j:=k) vO (bA vO) hq;have e:q.l=[]:=bD h0;rw[e]at o;revert o;cases (l[0]'(by omega)).l <;> simp[Lt] <;> rfl
 subst m;have e:l.getD 0 pd=q:=by rw[bC,hq];rfl
 unfold valK;rw[if_neg vO,e,if_pos h0]
theorem jtz{l:vL}{k:Nat}{q:Pair}(hq:l[k]?=some q)(h0:q.1.size≠0):valK l (k+1)=valK l k:=by
 unfold valK;rw[if_neg vO]
 by_cases hk:k=0
 ·subst hk
  have e:l.getD 0 pd=q:=by rw[bC,hq];rfl
  rw[e,if_neg h0,if_pos rfl]
 ·rw[if_neg hk]
def Nc5R(w5:vW)(gn:Nat)(va:vB)(rs:vM)(iv sv:vV)(wr:vW):Prop:=∃ k:Nat,k<=16/\iv=.int .i64 k/\Blk wr gn (.cells (jad.cells ⟨3,⟨#[]⟩,va,jd0 rs k⟩).toArray 110)/\jae (fun z=>z=gn) w5 wr
def Nb5R(w4:vW)(gn:Nat)(l:vL)(iv:vV)(wr:vW):Prop:=∃ k:Nat,k<=l.length/\iv=.int .i64 k/\Blk wr gn (.cells (jad.cells ⟨3,⟨#[]⟩,valK l k,jam 16⟩).toArray 110)/\jae (fun z=>z=gn) w4 wr
theorem jl5(f:Nat)(l:vL)(h2:2<=l.length)(hln:l.length<=1000)(hok:jax (f+1) l)(hk:¬ 0 < comK l)(hB:∀ i,(cutL i l).length≠0->jf9 (jak 1 (cutL i l)) (jao (jac f) (jak 1 (cutL i l)))):jf9 l (jao (jac (f+1)) l):=by
 intro w v hv;have HV:=Hd hv;have HO:=Hd hok;have HB:=Hd hB;have a7:=jhJ hok h2;rw[show comK l=0 by omega,show (l.getD 0 pd).1.extract 0 0=⟨#[]⟩from jbE (by rw[jcJ];rfl)]at a7;have d0:Hid (∀ p∈l,p.1.size<=1000000):=(fun p hp=>bG (hok.size p hp).2.1 vI)
 obtain⟨rs,Q⟩:=vE ((List.range 16).map fun i=>if (cutL i l).length=0 then (⟨#[]⟩:vB)else refB (jac (f+1) (jak 1 (cutL i l))).text)
 have J:jao (jac (f+1)) l=⟨3,⟨#[]⟩,valK l l.length,rs⟩:=by
  rw[show valK l l.length=if (l.getD 0 pd).1.size=0 then (l.getD 0 pd).2 else ⟨#[]⟩ by unfold valK;rw[if_neg vO]];unfold jao;rw[if_neg vO,if_neg vO,if_neg hk,Q]
 rw[J]
 obtain⟨va,a8⟩:=vE (valK l l.length)
 rw[<-a8];have d1:=Hd a8;clear a8;have A:=Hd (show rs.length=16 by rw[Q];simp);have f4:=Hd (show ∀ i,i < 16->rs[i]?=some (if (cutL i l).length=0 then (⟨#[]⟩:vB)else refB (jac (f+1) (jak 1 (cutL i l))).text)from fun i hi=>by rw[Q,bV,dW hi];rfl);have a9:=fun W (e:Ext w W)=>jkP W v l (hv.ext e) (fun e=>by rw[e]at h2;simp at h2) vO d0.o;rw[a7]at a9;have d2:=Hd a9;clear a9 a7
 obtain⟨a0,c0,rfl⟩:=hv.sl;have g0:¬(l.length:Int)=0:=vO
 have g1:¬(l.length:Int)=1:=vO
 clear hv hok hB J Q hk;go_enter Tryz.func80,Tryz.ntmps80;go_wp2_with (refine jaj Tryz.allocNode rfl rfl ?_;intro W1 d3 d4)
 have d5:=Hd d3;have b0:=Hd d4;clear d3 d4;refine vC (d2.o W1 b0.o) fun w2 hE=>?_;have b2:=Hd (b0.o.trans hE);have X:=Hd (d5.o.keeps hE (fun h=>h));clear hE b0 d5 d2;have h3:(⟨#[]⟩:vB).toList.isEmpty=true:=by rw[bL];rfl
 go_wp2_with (first |(refine jaj Tryz.allocNode rfl rfl ?_;intro W3 d6 b4) |(refine jag (vs:=jad.cells ⟨3,⟨#[]⟩,⟨#[]⟩,jam 16⟩) rfl rfl rfl rfl d6 rfl Tryz.szNode (jad.one _) ?_;intro W4 d7 b5))
 obtain⟨gr,d8⟩:=vE w.heap.size
 obtain⟨H,d9⟩:=vE w2.heap.size
 have E:=Hd (show gr≠H/\w.heap.size<=gr/\w.heap.size<=H from by have:=X.o.lt;have:=b2.o.size;omega);have Z:=Hd ((b2.o.trans b4).trans' b5 (fun x K e=>by have e:x=w2.heap.size:=e;have:=b2.o.size;omega));have b6:=Hd ((X.o.keeps b4 (fun h=>h)).keeps b5 (by have:=X.o.lt;omega));have b7:=Hd d7;rw[<-d8]at b6 ⊢;rw[<-d9]at b7 ⊢;clear d6 b4 d7 b5 d8 d9 X;go_loopw [6] (fun iv wr=>Nb5R W4 H l iv wr) (fun iv _=>l.length - (intOf iv).toNat)
 case atStart=>exact⟨0,by omega,rfl,b7.o,jae.refl _ _⟩
 case round =>
  obtain⟨k,hk,rfl,hN,hK⟩:=hrel
  have HN:=Hd hN;have HK:=Hd hK;clear hN hK
  by_cases hlt:k < l.length
  ·have b1:(k:Int) < (l.length:Int):=vO
   obtain⟨⟨x,y⟩,hq⟩:∃ p,l[k]?=some p:=⟨_,bA hlt⟩
   rcases HV.o with⟨_,_,_,h0⟩ |⟨b,o,c1,hh,hb,hc,hcell⟩
   ·rw[h0]at hlt;cases hlt
   cases hh;have O:¬ b=H:=by have:=E.o;omega
   obtain⟨q1,q2⟩:=hcell k _ hq
   have q1:=jan (jaa q1 Z.o) HK.o O;have q2:=jan (jaa q2 Z.o) HK.o O;have Q2:=Hd q2;have HQ:=Hd hq;clear hcell hq hb hc q2
   by_cases K:x.size=0
   ·have f5:x.toList.isEmpty=true:=by rw[bL,fB];exact bD K
    have b8:=Hd (jtA HO.o HQ.o K);have q2:=Q2.o;have k2:=HN.o.cellL (i:=2) (v:=.string (valK l k)) rfl;have f2:wr.frozen? ⟨H,2,none⟩=false:=HN.o.frozen;clear K;go_wp2_with fail
    go_roundw
    case rel=>exact⟨k+1,by omega,by go_num,by rw[b8.o];exact HN.o.set_same (i:=2) (.string y),HK.o.setCell (p:=⟨H,2,none⟩) (.inl rfl) (.string y)⟩
    case measure=>exact vJ
   ·have f5:x.toList.isEmpty=false:=by
     rw[dC];intro e;rw[fB,bL]at e;exact K (by show x.data.toList.length=0;rw[e];rfl)
    have b8:=Hd (jtz HQ.o K);clear K;go_wp2_with fail
    go_roundw
    case rel=>exact⟨k+1,by omega,by go_num,by rw[b8.o];exact HN.o,HK.o⟩
    case measure=>exact vJ
  ·have f6:k=l.length:=vO
   subst f6;have e0:=Hd (Z.o.trans' HK.o (fun x K e=>by have e:x=H:=e;have:=E.o;omega));have f7:=Hd (b6.o.keeps HK.o (by have:=E.o;omega));rw[<-d1.o]at HN;clear Z b6 b7 HK;go_wp2_with fail
   have h1:=d1;go_loopw [7,8] (fun iv sv w2=>Nc5R wr H va rs iv sv w2) (fun iv _ _=>16 - (intOf iv).toNat)
   case atStart=>exact⟨0,by omega,rfl,HN.o,jae.refl _ _⟩
   case round =>
    obtain⟨i,hi,rfl,hN,hK⟩:=hrel
    have e1:=Hd hN;have a4:=Hd hK;clear hN hK
    by_cases hi16:i < 16
    ·have b3:(i:Int) < 16:=vO
     obtain⟨bi,b9⟩:∃ bi:vU,bi=i.toUInt8:=⟨_,rfl⟩
     have O:bi.toNat=i:=by rw[b9];simp;omega
     have e2:=jb4 wr bi;rw[O]at e2;have e3:=Hd (jmK i vO l);rw[<-b9]at e3;have c2:=Hd (f4.o i hi16);have f8:=Hd (e0.o.trans' a4.o (fun x K e=>by have e:x=H:=e;have:=E.o;omega));clear b9 O;go_wp2_with fail
     obtain⟨w4,c3⟩:=vE (wr.alloc (.cells #[.int .u8 (i:Int)] 5))
     have a1:=Hd (show Ext wr w4 by rw[c3];exact (ExtR wr).alloc _);rw[<-c3];clear e2 c3;refine (jh3 w4 _ l ⟨#[bi]⟩ (HV.o.ext (f8.o.trans a1.o)) vO d0.o (by show 1<=1000000;decide)).mono ?_;rintro e w5 ⟨u,rfl,hU⟩;rw[e3.o]at hU
     obtain⟨l',a6⟩:∃ l',l'=jak 1 (cutL i l):=⟨_,rfl⟩
     have e4:=Hd a6;have e5:=Hd (show l'.length=(cutL i l).length by rw[a6];unfold jak;rw[bU]);rw[<-a6]at hU c2
     obtain⟨a5,c5,rfl⟩:=hU.sl
     have HU:=Hd hU;have a2:=Hd (a1.o.trans hU.ext);have e6:=Hd (e1.o.keeps a2.o (fun h=>h));have e7:=Hd (a4.o.trans (a2.o.mono (fun _ _ h=>h.elim)));clear hU a6
     by_cases hc0:(cutL i l).length=0
     ·have g5:¬(0:Int) < (l'.length:Int):=by have:=e5.o;omega
      have m:=c2.o;rw[if_pos hc0]at m;have f9:=Hd (jmq A.o m);clear m hc0;go_wp2_with fail
      go_roundw
      case rel=>exact⟨i+1,by omega,by go_num,by rw[f9.o];exact e6.o,e7.o⟩
      case measure=>exact vJ
     ·have g5:(0:Int) < (l'.length:Int):=by have:=e5.o;omega
      have m:=c2.o;rw[if_neg hc0]at m;have a3:jax f l':=by rw[e4.o];exact jcU i HO.o
      have c4:=HB.o i hc0;rw[<-e4.o]at c4;have c6:=jtd f l' c4 a3 w5 _ (ERow.rd HU.o)
      obtain⟨r,hr⟩:=vE (refB (jac (f+1) l').text)
      rw[<-hr]at c6 m;have g2:=Hd (ji1 A.o m);have g3:=Hd c6;clear hr m c6 c4 a3 hc0;go_wp2_with fail
      refine g3.o.mono ?_;rintro e w6 ⟨rfl,hE⟩;have e8:=e6.o.keeps hE (fun h=>h);have c7:=Hd e8;have g4:=Hd (e7.o.trans (hE.mono (fun _ _ h=>h.elim)))
      obtain⟨old,k3⟩:∃ old,w6.cell? ⟨H,3+i,none⟩=some old:=⟨_,c7.o.cellL (bA (by rw[jad.cells_len _ (jhl A.o vO)];omega))⟩
      have f3:w6.frozen? ⟨H,3+i,none⟩=false:=c7.o.frozen;clear hE e8;go_wp2_with fail
      have e9:=c7.o.set_same (i:=3+i) (.string r);rw[jlz,g2.o]at e9
      exact⟨⟨i+1,by omega,by go_num,e9,g4.o.setCell (p:=⟨H,3+i,none⟩) (.inl rfl) (.string r)⟩,by simp[intOf];omega⟩
    ·have g6:i=16:=vO
     subst g6;have hN:=e1.o;rw[jmp A.o]at hN;have b3:¬((16:Nat):Int) < 16:=vO
     have g7:=f7.o.keeps a4.o (by have:=E.o;omega);have g8:=Hd (e0.o.trans' a4.o (fun x K e=>by have e:x=H:=e;have:=E.o;omega));have f0:=jaq _ H ⟨3,⟨#[]⟩,va,rs⟩ A.o hN;have f1:=Hd (jad.cells_len ⟨3,⟨#[]⟩,va,rs⟩ A.o);unfold jad.V at f0;clear hN hi16;go_wp2_with (first |(refine jaf 110 (.tmp 5) rfl rfl _ _ rfl f0 ?_) |(refine jag (vs:=jad.cells ⟨3,⟨#[]⟩,va,rs⟩) rfl rfl rfl rfl g7 (by rw[f1.o];rfl) (by rw[f1.o];exact Tryz.szNode) (jad.one _) ?_;intro g9 c8 c9))
     refine bodyPost_ret (jbL rfl rfl (jas g9 _ ⟨3,⟨#[]⟩,va,rs⟩ A.o c8)) rfl ?_;have hz:=E.o
     exact⟨rfl,g8.o.trans' c9 (fun x K e=>by have e:x=gr:=e;omega)⟩
theorem jmv{l:vL}(h:jax 0 l):l.length<=1:=by
 rcases l with _ |⟨a,_ |⟨b,r⟩⟩
 ·simp
 ·simp
 ·exfalso
  have e:=jb9 h.rise (i:=0) (j:=1) vO rfl rfl;have m:b.l=[]:=bD (by have:=(h.size b (by simp)).1;show b.1.size=0;omega);rw[m]at e;exact absurd e (not_lt_nil _)
theorem jax.up{f g:Nat}{l:vL}(h:jax f l)(hg:f<=g):jax g l:=⟨fun p e=>⟨bG (h.size p e).1 hg,(h.size p e).2⟩,h.rise⟩
theorem jhM{f:Nat}{l:vL}(h:jax (f+1) l)(h2:2<=l.length)(hk:0 < comK l):jax f (jak (comK l) l):=by
 have e:=jbk h h2;exact (jb8 (comK l) h (fun p m q o=>(e p m).1.trans (e q o).1.symm) (fun p m=>(e p m).2)).up vO
theorem jp8:∀ (f:Nat) (l:vL),jax f l->l.length<=1000->jf9 l (jao (jac f) l)
 | f,[],_,_=>jp9 _
 | f,[(x,y)],_,_=>jsx _ x y
 | 0,a :: b :: r,h,_=>absurd (jmv h) (by simp)
 | f+1,a :: b :: r,h,hl=>by
  have m:2<=(a :: b :: r).length:=by simp
  by_cases hk:0 < comK (a :: b :: r)
  ·have e:=jhM h m hk
   exact jsw f _ m hl h hk (jp8 f _ e (by unfold jak;rw[bU];exact hl)) e
  ·refine jl5 f _ m hl h hk (fun i o=>?_)
   have e:jax f _:=jcU i h;exact jp8 f _ e (by unfold jak;rw[bU];exact bG (dE _ _) hl)
theorem jxO(w:vW)(v:vV)(l:vL)(hv:RdP w v l)(h:jaD l=0) :
  vR 50 #[v] w (.string (jaF l).text):=by
 have A:=jaG h;have Q:=Hd (jo6 w v l hv (by have:=A.len;omega) (fun p X=>by have:=(A.size p X).2.1;omega));have H:=jbx A;have E:(jaM l).length<=1000:=by unfold jaM;rw[bU];have:=A.len;omega
 have m:=Hd (jfg 12 (jaM l) (jp8 12 _ H E) H);rw[show (jac (12+1) (jaM l)).text=(jaF l).text from rfl]at m
 obtain⟨t,K⟩:=vE (jaF l).text
 rw[<-K]at m ⊢
 obtain⟨a0,c0,rfl⟩:=hv.sl;clear hv A H E K h;go_enter Tryz.func50,Tryz.ntmps50;go_wp2_with fail
 refine Q.o.mono ?_;rintro e w1 ⟨u,rfl,J⟩
 obtain⟨a1,c1,rfl⟩:=J.sl
 have O:=Hd J;clear J;go_wp2_with fail
 refine vH (m.o w1 _ (ERow.rd O.o)) fun w2 Z=>?_;have HE:=Hd (O.o.ext.trans Z);go_wp2_with fail
 go_ret
 exact⟨rfl,HE.o⟩
theorem jvu(w:vW)(v:vV)(l:vL)(hv:RdP w v l)(h:jaD l=0) :
  vR 20 #[v] w (.string (shaB (jaF l).text)):=by
 have H:=Hd (jxO w v l hv h);have m:Hid ((jaF l).text.size<=1000000):=(bG (jhf (jao (jac 12) (jaM l)) ((good 12 _ (jbx (jaG h))).1.one (inlP 12))) vI)
 obtain⟨t,J⟩:=vE (jaF l).text
 rw[<-J]at H m ⊢
 obtain⟨O,Q,rfl⟩:=hv.sl;clear hv J h;go_enter Tryz.func20,Tryz.ntmps20;go_wp2_with fail
 refine H.o.mono ?_;rintro e w1 ⟨rfl,A⟩;have K:=Hd A;clear A;go_wp2_with fail
 refine vH (jzL w1 t m.o) fun X A=>?_;have E:=Hd (K.o.trans A);go_wp2_with fail
 go_ret
 exact⟨rfl,E.o⟩
end
def addT(acc:vM)(t:vB):vM:=if 32<=t.size then addF acc t else acc
def belF(B:vL->PT)(l:vL)(acc:vM):vM:=(jaA (jar B l)).foldl addF acc
theorem jn2{f:Nat}{l:vL}(hk:(jac (f+1) l).text.size < 32->(jac (f+1) l).kids=[])(acc:vM):(jaA (jbo (jac (f+1) l))).foldl addF acc=belF (jac f) l (addT acc (jac (f+1) l).text):=by
 have e:(jac (f+1) l).kids=jar (jac f) l:=rfl;unfold jbo addT belF
 by_cases h:(jac (f+1) l).text.size < 32
 ·have m:=hk h
  rw[e]at m;rw[if_pos h,if_neg vO,m]
 ·rw[if_neg h,if_pos vO]
  have o:jaA [jac (f+1) l]=(jac (f+1) l).text :: jaA (jar (jac f) l):=by
   rw[<-e];cases jac (f+1) l with
   | mk t ks=>simp[jaA,jaB,PT.text,PT.kids]
  rw[o];rfl
def jeW(l:vL):List (vL):=if 0 < comK l then [jak (comK l) l]else (List.range 16).map fun i=>jak 1 (cutL i l)
def jdV(f:Nat)(acc:vM)(p:vL):vM:=if p.length=0 then acc else belF (jac f) p (addT acc (jac (f+1) p).text)
theorem jcE(d:Nat)(l:vL):(jak d l).length=l.length:=by unfold jak;rw[bU]
theorem jhb{f:Nat}{l:vL}(h:jax f l)(hl:l.length≠0):(jac (f+1) l).text.size < 32->(jac (f+1) l).kids=[]:=
 ((good f l h).2.1 (fun e=>hl (by rw[e];rfl))).small
theorem jlp(f:Nat)(l:vL)(hok:∀ i,(cutL i l).length≠0->jax f (jak 1 (cutL i l))):∀ (is:List Nat) (acc:vM),(jaA (is.flatMap fun i=>if (cutL i l).length=0 then []else jbo (jac (f+1) (jak 1 (cutL i l))))).foldl addF acc=(is.map fun i=>jak 1 (cutL i l)).foldl (jdV f) acc
 | [],acc=>rfl
 | i :: is,acc=>by
  rw[dI,jcp,dF,jlp f l hok is,bT,cN]
  congr 1
  unfold jdV;rw[jcE]
  by_cases h:(cutL i l).length=0
  ·rw[if_pos h,if_pos h];rfl
  ·rw[if_neg h,if_neg h]
   exact jn2 (jhb (hok i h) (by rw[jcE];exact h)) acc
theorem jlo{f:Nat}{l:vL}(h:jax (f+1) l)(h2:2<=l.length)(acc:vM):belF (jac (f+1)) l acc=(jeW l).foldl (jdV f) acc:=by
 unfold belF jar jeW;rw[if_neg vO]
 by_cases hk:0 < comK l
 ·rw[if_pos hk,if_pos hk,cN,List.foldl_nil]
  unfold jdV;have e:(jak (comK l) l).length≠0:=by rw[jcE];omega
  rw[if_neg e];exact jn2 (jhb (jhM h h2 hk) e) acc
 ·rw[if_neg hk,if_neg hk]
  exact jlp f l (fun i _=>jcU i h) _ acc
def cstP(f:Nat)(q:vL):Nat:=if q.length=0 then 0 else (jaA (jbo (jac (f+1) q))).length
theorem jqM(acc:vM)(t:vB):(addF acc t).length<=acc.length+1:=by
 unfold addF;split <;> simp
theorem jj6:∀ (ts acc:vM),(ts.foldl addF acc).length<=acc.length+ts.length
 | [],acc=>by simp
 | t :: ts,acc=>by
  have e:=jqM acc t;have m:=jj6 ts (addF acc t);simp only[cN,bP];omega
theorem jie{f:Nat}{q:vL}(h:jax f q)(hq:q.length≠0)(acc:vM):(addT acc (jac (f+1) q).text).length+(jaA (jar (jac f) q)).length<=acc.length+cstP f q:=by
 have e:(jac (f+1) q).kids=jar (jac f) q:=rfl;have m:=jhb h hq;unfold cstP addT jbo;rw[if_neg hq]
 by_cases h32:(jac (f+1) q).text.size < 32
 ·rw[if_neg vO,if_pos h32, <-e,m h32];exact bM _
 ·rw[if_pos vO,if_neg h32]
  have A:=jqM acc (jac (f+1) q).text;have o:jaA [jac (f+1) q]=(jac (f+1) q).text :: jaA (jar (jac f) q):=by
   rw[<-e];cases jac (f+1) q with
   | mk t ks=>simp[jaA,jaB,PT.text,PT.kids]
  rw[o,bP];omega
theorem jru{f:Nat}{q:vL}(h:q.length≠0->jax f q)(acc:vM):(jdV f acc q).length<=acc.length+cstP f q:=by
 unfold jdV
 by_cases hq:q.length=0
 ·rw[if_pos hq];omega
 ·rw[if_neg hq]
  have e:=jie (h hq) hq acc;have m:=jj6 (jaA (jar (jac f) q)) (addT acc (jac (f+1) q).text);unfold belF;omega
def cstS(f:Nat)(ps:List (vL)):Nat:=(ps.map (cstP f)).sum
theorem jgY{f:Nat}:∀ (ps:List (vL)) (acc:vM),(∀ q∈ps,q.length≠0->jax f q)->(ps.foldl (jdV f) acc).length<=acc.length+cstS f ps
 | [],acc,_=>by simp
 | q :: ps,acc,h=>by
  have o:=jru (h q bK) acc;have e:=jgY ps (jdV f acc q) (fun x m=>h x (bH _ m));simp only[cN,cstS,bT,iP]at e ⊢;omega
theorem jif{f:Nat}:∀ (ps:List (vL)) (k:Nat) (q:vL),ps[k]?=some q->cstS f (ps.take k)+cstP f q<=cstS f ps
 | [],k,q,h=>by simp at h
 | p :: ps,0,q,h=>by
  obtain rfl:=bN h;simp[cstS]
 | p :: ps,k+1,q,h=>by
  have:=jif (f:=f) ps k q h
  simp only[cstS,dU,bT,iP]at this ⊢;omega
theorem jjC(f:Nat)(l:vL):∀ is:List Nat,(jaA (is.flatMap fun i=>if (cutL i l).length=0 then []else jbo (jac (f+1) (jak 1 (cutL i l))))).length=cstS f (is.map fun i=>jak 1 (cutL i l))
 | []=>rfl
 | i :: is=>by
  have e:=jjC f l is;rw[dI,jcp,bF,e];simp only[cstS,bT,iP]
  congr 1
  unfold cstP;rw[jcE];split <;> rfl
theorem jn8{f:Nat}{l:vL}(h2:2<=l.length):(jaA (jar (jac (f+1)) l)).length=cstS f (jeW l):=by
 unfold jar jeW;rw[if_neg vO]
 by_cases hk:0 < comK l
 ·rw[if_pos hk,if_pos hk]
  simp only[cstS,bT,gN,iP,List.sum_nil,fX,cstP];rw[if_neg (by rw[jcE];omega)]
 ·rw[if_neg hk,if_neg hk]
  exact jjC f l _
section
section mixr
variable {P:Program} {l:List Oper} {lr:Nat} {R:Act->vW->Prop}
def jed(R:Act->vW->Prop):Exit->Act->vW->Prop:=fun e a w=>e=.normal/\R a w
theorem jjI:¬ LetsOut (jed R):=fun ⟨_,_,h,_⟩=>by cases h
theorem jhu{o:Oper}{a:Act}{w:vW}{K K':Act->vW->Prop}{Q:Exit->Act->vW->Prop}(hd:∀ c,o.op≠.defer c)(hK:∀ a w,K a w->K' a w)(h:o.wp P a w K (jed R)) :
  o.wpIn (Fence.wide.inRound lr) 0 P a w K' Q:=by
 unfold Oper.wp at h
 refine⟨fun _ _=>trivial,?_⟩
 rw[Oper.semAt_eq _ _ _ hd];generalize (execOp a.eval o).run P w=r at *;cases r with
 | ok x w' =>
  cases x with
  | value v=>exact hK _ _ h
  | skip=>exact hK _ _ h
  | defer d=>exact hK _ _ h
  | enter f args =>
   refine bB (fun m=>absurd m (by simp[Fence.wide])) (CallsIn.inRound lr (callsIn_wide.2 (Calls.mono h fun e E A=>?_)));cases e with
   | returned v=>exact hK _ _ A
   | panicked c=>cases A.1
   | outgrown=>exact absurd A jjI
  | row r args=>exact bB (fun m=>absurd m (by simp[Fence.wide])) (fun c cs _=>let ⟨v,w',r,s⟩:=h c cs;⟨v,w',hK _ _ r,stepsIn_wide.2 s⟩)
  | round l f t a b=>exact h.elim
  | _=>exact h.elim
 | halt x w' =>
  cases x <;> first | exact h.elim | cases h.1
theorem jlm(hnd:jkD l.toArray=true):∀ (m:Nat) (e:Array Bool) (a:Act) (w:vW),wpAny P .any l.toArray (jed R) m e a w->wpAnyIn (Fence.wide.inRound lr) 0 P .any l.toArray (jed R) m e a w:=by
 have H:∀ (i:Nat) (o:Oper),l.toArray[i]?=some o->∀ c,o.op≠.defer c:=by
  intro i o E c J;unfold jkD at hnd;rw[fG]at hnd
  have:=hnd o (by simpa using bE (by simpa using E))
  rw[J]at this;simp at this
 intro m;induction m with
 | zero=>exact fun _ _ _ h=>h
 | succ m ih =>
  intro e a w h
  refine⟨h.1,fun i K=>?_⟩
  have A:=h.2 i K;unfold wpOp at A;unfold wpOpIn;split
  ·rename_i E;simp only[E]at A;exact ih _ _ _ A
  ·rename_i o E
   simp only[E]at A;split
   ·rename_i hw;simp only[hw,if_true]at A
    rcases A with A | A
    ·exact jhu (H i o E) (fun a w h=>ih _ a w h) A
    ·exact absurd A.2 jjI
   ·rename_i hw;simp only[hw]at A
    exact⟨fun _ _=>trivial,ih _ _ _ A⟩
theorem jk9(hm:P.follows .mixedOrders=true)(hnd:jkD l.toArray=true){id:Nat}{Q:Exit->Act->vW->Prop}{a:Act}{w:vW}(hq:∀ a w,R a w->Q .normal a w)
  (h:wpAny P .any l.toArray (jed R) l.toArray.size (Array.replicate l.toArray.size false) a w.drew):(Code.region id l.toArray true).wpIn (Fence.wide.inRound lr) 0 P Q a w:=
 wpIn_mono (wpIn_region_any hm (jlm hnd _ _ _ _ h)) fun e a w ⟨m,o⟩=>by subst m;exact hq _ _ o
theorem jhv(ord hd:List Nat)(E:vW->vW->Prop)(hE:∀ w,E w w)(hT:∀ x y z,E x y->E y z->E x z){id:Nat}{Q:Exit->Act->vW->Prop}{a:Act}{w:vW}
  (hm:P.follows .mixedOrders=true) (hnd:jkD l.toArray=true) (hs:Region.noSelect l.toArray=true) (hl:ord.length=l.toArray.size)
  (h:Mix P l hd E (fun a w=>Q .normal a w) ord [] a w.drew):(Code.region id l.toArray true).wpIn (Fence.wide.inRound lr) 0 P Q a w:=by
 refine jk9 (R:=fun a w=>Q .normal a w) hm hnd (fun _ _ h=>h) ?_;rw[<-hl]
 have:=jeB hE hT hs ord _ _ _ h
 unfold jbc at this;rw[hl]at this ⊢;exact jgP hE (fun _ _ h=>⟨rfl,h⟩) _ _ _ _ this
theorem jmO{ops:Array Oper}{rest:List Oper}{o:Oper}{a:Act}{w:vW}{Q:Exit->Act->vW->Prop}{T:TypeId}{cs:List vV}(hrun:∀ w,(Instr.alloc T true (.tuple #[])).run P w=.ok (.pointer (some ⟨w.heap.size,0,none⟩)) (w.alloc (.cells cs.toArray T)))(hgd:o.guard=none)(ho:o.op=.alloc T)
  (h:∀ W,Blk W w.heap.size (.cells cs.toArray T)->Ext w W->wpListIn (Fence.wide.inRound lr) 0 P ops Q rest (a.put o.dst (.pointer (some ⟨w.heap.size,0,none⟩))) W):wpListIn (Fence.wide.inRound lr) 0 P ops Q (o :: rest) a w:=
 wpListIn_plain hgd fun K e=>jhu (R:=fun _ _=>False) (by rw[ho];intro c m;cases m) (fun _ _ h=>h) (jcu (v:=.pointer (some ⟨w.heap.size,0,none⟩)) (w':=w.alloc (.cells cs.toArray T)) (by simp only[execOp,ho,cA,hrun,Result.andThen,cR]) (e _ _ (h _ (Blk.new w _) ((ExtR w).alloc _))))
theorem jla{ops:Array Oper}{rest:List Oper}{o:Oper}{a:Act}{w:vW}{Q:Exit->Act->vW->Prop}{T T2:TypeId}{x y:Operand}{b:Nat}{old vs:List vV}(hgd:o.guard=none)(ho:o.op=.store T x y)(hx:a.eval x=.pointer (some ⟨b,0,none⟩))(hy:a.eval y=.agg vs.toArray)
  (hB:Blk w b (.cells old.toArray T2)) (hl:old.length=vs.length) (hi:(P.info? T).map (·.size)=some vs.length) (h1:∀ v∈vs,v.oneCell'=true)
  (h:∀ W,Blk W b (.cells vs.toArray T2)->jae (fun z=>z=b) w W->wpListIn (Fence.wide.inRound lr) 0 P ops Q rest (a.put o.dst undef) W):wpListIn (Fence.wide.inRound lr) 0 P ops Q (o :: rest) a w:=by
 refine wpListIn_plain hgd fun K e=>jhu (R:=fun _ _=>False) (by rw[ho];intro c m;cases m) (fun _ _ h=>h) ?_;refine wp_store_mid T x y ho b 0 vs.toArray hx hy (by have:=jk3 hB;rw[hl]at this;simpa using this) (by simpa using hi) (all_oneCell_toArray h1) (e _ _ (h _ ?_ (jae.oneSetCells b vs 0 w)))
 have:=Blk.setCells vs 0 w old hB vO
 rw[gW vO]at this;simpa using this
end mixr
end
end Go.Proofs.YtegloohdmjadoaaGreatDoor
