/- Lemmas; each is under no condition but those that it states. -/
import Derived.Test.YtdofbjccfkaijaaGreatDoorPn22
import Derived.Stop.Asserts
namespace Go.Proofs.YtdofbjccfkaijaaGreatDoor
set_option linter.unusedSimpArgs false
set_option linter.unusedVariables false
set_option maxRecDepth 100000
set_option maxHeartbeats 16000000
open Go Go.RowKit
def cK(T:vM)(k:Key):Nat:=(T.map (·.data.toList)).count k
theorem jzJ(A B:vM)(k:Key):cK (A++B) k=cK A k+cK B k:=by unfold cK;rw[cB,List.count_append]
theorem jkr(r:vB)(B:vM)(k:Key):cK (r :: B) k=cK B k+(if k=r.data.toList then 1 else 0):=by
 unfold cK;rw[bV,List.count_cons]
 by_cases h:k=r.data.toList
 ·rw[if_pos h,h];simp
 ·rw[if_neg h,if_neg];simpa using fun e=>h e.symm
theorem jxv{T:vM}{k:Key}(h:∀ r∈T,r.data.toList≠k):cK T k=0:=by
 unfold cK;rw[List.count_eq_zero];intro o
 obtain⟨r,z,e⟩:=bJ.1 o
 exact h r z e
theorem jwK{T:vM}{r:vB}(h:r∈T):1<=cK T r.data.toList:=by
 unfold cK;exact gX.2 (bJ.2 ⟨r,h,rfl⟩)
def addU(n:Nat)(x:Nd5):Nd5:=(x.1,x.2.1,⟨x.2.2.text,x.2.2.refs,x.2.2.used+n,x.2.2.held⟩)
def addH(n:Nat)(x:Nd5):Nd5:=(x.1,x.2.1,⟨x.2.2.text,x.2.2.refs,x.2.2.used,x.2.2.held+n⟩)
theorem joz:∀ (T:vM) (L:vT),jeJ T L=L.map fun x=>addU (cK T x.1) x
 | [],L=>by
  show L=_
  have:(fun x:Nd5=>addU (cK [] x.1) x)=id:=by
   funext x
   obtain⟨a,b,⟨t,r,u,h⟩⟩:=x
   unfold addU cK;simp
  rw[this,List.map_id]
 | r :: T,L=>by
  show jeJ T (jgv r.data.toList L)=_;rw[joz T,jgv,dJ];refine dI fun x _=>?_;show addU (cK T (if x.1=r.data.toList then (x.1,x.2.1,putF 2 (x.2.2.used+1) x.2.2)else x).1) (if x.1=r.data.toList then (x.1,x.2.1,putF 2 (x.2.2.used+1) x.2.2)else x)=_;rw[jkr]
  by_cases h:x.1=r.data.toList
  ·simp only[if_pos h]
   unfold addU putF;simp only[if_true];rw[show x.2.2.used+1+((cK T x.1:Nat):Int)=x.2.2.used+((cK T x.1+1:Nat):Int) by omega]
  ·simp only[if_neg h,fR]
theorem juS(r:vB)(L:vT):jkq r.data.toList L=L.map fun x=>addH (cK [r] x.1) x:=by
 unfold jkq;refine dI fun x _=>?_;rw[jkr]
 by_cases h:x.1=r.data.toList
 ·rw[if_pos h,if_pos h];rfl
 ·rw[if_neg h,if_neg h]
  obtain⟨a,b,⟨t,r,u,h⟩⟩:=x
  unfold addH cK;simp
def jlE(T:vM)(r:vB)(x:Nd5):Nd5:=addH (cK [r] x.1) (addU (cK T x.1) x)
theorem jxt(T:vM)(r:vB)(L:vT):jkq r.data.toList (jeJ T L)=L.map (jlE T r):=by
 rw[juS,joz,dJ];rfl
theorem jrI(T:vM)(r:vB)(L:vT):(L.map (jlE T r)).map (·.1)=L.map (·.1):=by
 rw[dJ];rfl
theorem jrJ(T:vM)(r:vB)(L:vT):(L.map (jlE T r)).flatMap (fun y=>y.2.2.refs)=L.flatMap (fun y=>y.2.2.refs):=by
 rw[List.flatMap_map];rfl
theorem jj2(G:vT):∀ F:vM,F.flatMap (jcc G)=(jcX G F).flatMap (fun y=>y.2.2.refs)
 | []=>rfl
 | x :: F=>by
  have e:=jj2 G F;unfold jcX at *;rw[cH,gC];cases h:atL G x.data.toList with
  | none=>rw[e];unfold jcc;rw[h];rfl
  | some y=>rw[e,jfN h,cH]
theorem jeO{S:vT}{k:Key}:(atL S k).isSome=true↔k∈S.map (·.1):=by
 constructor
 ·intro h
  obtain⟨y,o⟩:=fG.1 h
  exact bJ.2 ⟨y,(jbd o).1,(jbd o).2⟩
 ·intro h
  obtain⟨y,o,e⟩:=bJ.1 h
  cases ha:atL S k with
  | some z=>rfl
  | none=>exact absurd e.symm (jkj.1 ha y o)
def jBc(L:vM)(top:vB):Prop:=∀ P:vB->Prop,(∀ t∈L,P (shaB t)->∀ h∈jaM (nodeOf t),P h)->P (shaB top)->∀ t∈L,P (shaB t)
theorem jAc{U:vM}(hU:InjL U){s t:vB}(hs:s∈U)(ht:t∈U)(h:ky s=ky t):s=t:=hU s hs t ht (jnq h)
def addS(S G:vT)(M:vM)(top:vB):vT:=jkq (shaB top).data.toList (jeJ ((frK S M).flatMap (jcc G)) (S++jcX G (frK S M)))
theorem jds(S G:vT)(M:vM)(top:vB):addS S G M top=(S++jcX G (frK S M)).map (jlE ((frK S M).flatMap (jcc G)) (shaB top)):=jxt _ _ _
theorem jBR(w:vW)(P:vB->Prop):∀ (f:Nat) (l:vL),jas f l->(∀ t∈jax (jac (f+1) l),P (shaB t)->∀ h∈jaM (nodeOf t),P h)->P (shaB (jaP (jap (jac f) l)))->∀ t∈jax (jac (f+1) l),P (shaB t):=by
 intro f;induction f with
 | zero =>
  intro l h _ J t o;have Q:jav (jac 0) l=[]:=by have:=jbI h;unfold jav;rw[if_pos vO]
  have A:jax (jac (0+1) l)=[jaP (jap (jac 0) l)]:=by
   show jax (.mk (jaP (jap (jac 0) l)) (jav (jac 0) l))=_;rw[jax,Q];simp[jaH]
  rw[A,bZ]at o;subst o;exact J
 | succ f ih =>
  intro l h E J t o;have A:jax (jac (f+1+1) l)=jaP (jap (jac (f+1)) l) :: jaH (jav (jac (f+1)) l):=by
   show jax (.mk (jaP (jap (jac (f+1)) l)) (jav (jac (f+1)) l))=_;rw[jax]
  have X:=jd5 (f+1) l h;have z:jbr (jaP (jap (jac (f+1)) l)) (jap (jac (f+1)) l):=⟨rfl,f+1,(good (f+1) l h).1⟩;rw[A]at o;rcases bM.1 o with rfl | o
  ·exact J
  obtain⟨K,O,o⟩:=jbD.1 o
  obtain⟨g,m,eg,e,Z,a0⟩:=jig h O
  obtain rfl:f=g:=vO
  subst e;have H:∀ t∈jax (jac (f+1) m),t∈jax (jac (f+1+1) l):=fun t o=>by
   rw[A];exact bE _ (jbD.2 ⟨_,O,o⟩)
  refine ih m Z (fun t o=>E t (H t o)) ?_ t o;refine E _ (by rw[A];exact bH) J _ ?_;rw[jet w (jdm z) z,X];exact bJ.2 ⟨_,O,rfl⟩
theorem jwe(w:vW){l:vL}(h:jaw l=0):jBc (jbf (jax (jaF l))) (jaF l).text:=fun P o z t e =>
 jBR w P 12 (jaR l) (jbw (jaA h)) (fun t e=>o t ((jaX _ _).2 e)) z t ((jaX _ _).1 e)
theorem jq8(w:vW){l:vL}(h:jaw l=0)(hl:(jbf (jax (jaF l))).length<=1000):jzu (jbf (jax (jaF l))):=
 ⟨fun t o=>by obtain⟨n,e,_⟩:=(jhT h).node t o;exact⟨n,e⟩,
  fun t o x z=>by
  obtain⟨n,e,A⟩:=(jhT h).node t o
  rw[jet w (jdm e) e]at z;exact A x z,hl⟩
theorem jaS.nd{W:vW}{s bm:Nat}{room:Int}{S:vT}(h:jaS W s bm room S):(S.map (·.1)).Nodup:=by
 obtain⟨o,z,_,e⟩:=h.mp.mp
 have:=e.keys
 rw[dJ]at this;exact this
section
attribute [local go_sem] Oper.semAt_some
def ja5(l:vL):vM:=jbf (jax (jaF l))
theorem jc4{l:vL}(h:jaw l=0):(ja5 l).length<=121:=by
 have e:=(jq9 h).1;have o:=(jaA h).len;show (jbf (jax (jaF l))).length<=_;omega
def jzb(l:vL)(w:vW)(e:Ending)(w':vW):Prop:=e=.returned (.tuple #[.pointer none,.string ⟨#[]⟩])/\Ext w w'/\¬(fewB l=true/\jaw l=0/\InjL (ja5 l))
end
def malE:vV:=.iface 25 (.int .i64 2)
def Fa1(W0 W:vW)(v:vV):Prop:=∃ (b:Nat) (k:Int),v=.iface 263 (.pointer (some ⟨b,0,none⟩))/\Blk W b (.cells #[.int .i64 k,malE] 265)/\W0.heap.size<=b
def MalP(w:vW)(e:Ending)(w':vW):Prop:=∃ v,e=.returned v/\Ext w w'/\Fa1 w w' v
theorem jbQ(w:vW)(k:Int):vQ 180 #[.int .i64 k] w (MalP w):=by
 unfold vQ;go_in;go_wp2_with fail
 go_ret
 exact⟨_,rfl,(ExtR w).alloc _,_,k,rfl,Blk.new w _,bL _⟩
def jA0(w:vW)(e:Ending)(w':vW):Prop:=∃ v,e=.returned (.tuple #[.int .i64 0,v])/\Ext w w'/\Fa1 w w' v
def jxc(s:vB)(to:Nat)(w:vW)(n i:vV)(wr:vW):Prop:=∃ k:Nat,1<=k/\k<=to/\i=.int .i64 k/\n=.int .i64 (beN ((s.data.toList.take k).drop 1))/\beN ((s.data.toList.take k).drop 1)<=1048576/\wr=w
theorem jmg(w:vW)(s:vB)(to:Nat)(hs:s.size<=1000000000)(h2:2<=to)(h9:to<=1000)(h:lenB s to=none):vQ 181 #[.string s,.int .i64 to] w (jA0 w):=by
 by_cases hto:s.size < to
 ·have c0:(s.size:Int) < (to:Int):=vO
  clear h;unfold vQ;go_in;go_wp2_with fail
  refine (jbQ w s.size).mono ?_;rintro e w1 ⟨v,rfl,z,H⟩
  obtain⟨b,k,rfl,A⟩:=H
  have E:=Hd (bB z A);clear z A;go_wp2_with fail
  go_ret2
  exact⟨_,rfl,E.o.1,b,k,rfl,E.o.2⟩
 have c0:¬(s.size:Int) < (to:Int):=vO
 have c1:(1:Int) < (s.size:Int):=vO
 by_cases hz:(s[1]'(by omega)).toNat=0
 ·have a2:(((s[1]'(by omega)).toNat:Int) == 0)=true:=by simp[hz]
  clear h;unfold vQ;go_in;go_wp2_with fail
  refine (jbQ w 1).mono ?_;rintro e w1 ⟨v,rfl,z,H⟩
  obtain⟨b,k,rfl,A⟩:=H
  have E:=Hd (bB z A);clear z A;go_wp2_with fail
  go_ret2
  exact⟨_,rfl,E.o.1,b,k,rfl,E.o.2⟩
 have a2:(((s[1]'(by omega)).toNat:Int) == 0)=false:=by simpa using hz
 have HH:=Hd (show ¬(55 < beN ((s.data.toList.take to).drop 1)/\beN ((s.data.toList.take to).drop 1)<=1048576)from fun hc=>by
  unfold lenB at h;rw[if_neg ?_,if_pos hc]at h
  ·cases h
  ·rintro (Q | Q)
   ·exact hto Q
   ·rw[bG,bA (by simp;omega)]at Q
    have Q:(s[1]'(by omega))=0:=Q;exact hz (by rw[Q];rfl))
 clear h hz;unfold vQ;go_in;go_wp2_with fail
 go_loopw [6,7] (fun m i wr=>jxc s to w m i wr) (fun _ i _=>to - (intOf i).toNat)
 case atStart=>exact⟨1,bL _,by omega,rfl,by simp[beN],by simp[beN],rfl⟩
 case round =>
  obtain⟨k,a3,a6,rfl,rfl,J,rfl⟩:=hrel
  by_cases hlt:k < to
  ·have a4:k < s.size:=vO
   have c2:(k:Int) < (s.size:Int):=vO
   have c3:(k:Int) < (to:Int):=vO
   have X:=jf0 s a3 a4
   obtain⟨m,K⟩:=vE (beN ((s.data.toList.take k).drop 1))
   rw[<-K]at J;have Z:=jtk m s[k] J;have a0:bits BinOp.or .i64 ((m:Int) * 256) (wrap64 (s[k].toNat:Int))=((m * 256+s[k].toNat:Nat):Int):=by
    have hb:=s[k].toNat_lt;rw[<-Z];congr 1;unfold wrap64;omega
   clear Z;have e5:beN ((s.data.toList.take (k+1)).drop 1)=m * 256+s[k].toNat:=by rw[X,jkl, <-K]
   have H5:=Hd e5;rw[<-K];clear K X e5
   obtain⟨m',O⟩:∃ m',m'=m * 256+s[k].toNat:=⟨_,rfl⟩
   rw[<-O]at a0;have a1:=Hd O;clear O
   by_cases hbig:1048576 < m'
   ·have c4:(1048576:Int) < (m':Int):=vO
    go_wp2_with fail
    refine (jbQ wr k).mono ?_;rintro e w1 ⟨v,rfl,z,H⟩
    obtain⟨b,kk,rfl,A⟩:=H
    have E:=Hd (bB z A);clear z A;go_wp2_with fail
    go_ret2
    exact⟨_,rfl,E.o.1,b,kk,rfl,E.o.2⟩
   ·have c4:¬(1048576:Int) < (m':Int):=vO
    go_wp2_with fail
    go_roundw
    case rel=>exact⟨k+1,by omega,by omega,by go_num,by rw[H5.o,a1.o],by rw[H5.o, <-a1.o];omega,rfl⟩
    case measure=>exact vJ
  ·have a5:k=to:=vO
   subst a5;have c3:¬(k:Int) < (k:Int):=vO
   obtain⟨m,K⟩:=vE (beN ((s.data.toList.take k).drop 1))
   have hh:=HH.o;rw[<-K]at J hh ⊢;have c4:¬(55:Int) < (m:Int):=vO
   clear K hh;go_wp2_with fail
   refine (jbQ wr 1).mono ?_;rintro e w1 ⟨v,rfl,z,H⟩
   obtain⟨b,kk,rfl,A⟩:=H
   have E:=Hd (bB z A);clear z A;go_wp2_with fail
   go_ret2
   exact⟨_,rfl,E.o.1,b,kk,rfl,E.o.2⟩
