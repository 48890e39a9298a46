/- Lemmas; each is under no condition but those that it states. -/
import Derived.Test.YtfjmkebdhojanaaGreatDoorPt22
import Derived.Stop.Asserts
namespace Go.Proofs.YtfjmkebdhojanaaGreatDoor
set_option linter.unusedSimpArgs false
set_option linter.unusedVariables false
set_option maxRecDepth 100000
set_option maxHeartbeats 16000000
open Go Go.RowKit
def cK(T:vM)(k:Key):Nat:=(T.map (·.data.toList)).count k
theorem jzx(A B:vM)(k:Key):cK (A++B) k=cK A k+cK B k:=by unfold cK;rw[cB,List.count_append]
theorem jky(r:vB)(B:vM)(k:Key):cK (r :: B) k=cK B k+(if k=r.data.toList then 1 else 0):=by
 unfold cK;rw[bS,List.count_cons]
 by_cases h:k=r.data.toList
 ·rw[if_pos h,h];simp
 ·rw[if_neg h,if_neg];simpa using fun e=>h e.symm
theorem jxr{T:vM}{k:Key}(h:∀ r∈T,r.data.toList≠k):cK T k=0:=by
 unfold cK;rw[List.count_eq_zero];intro o
 obtain⟨r,A,e⟩:=bK.1 o
 exact h r A e
theorem jwE{T:vM}{r:vB}(h:r∈T):1<=cK T r.data.toList:=by
 unfold cK;exact gZ.2 (bK.2 ⟨r,h,rfl⟩)
def addU(n:Nat)(x:Nd5):Nd5:=(x.1,x.2.1,⟨x.2.2.text,x.2.2.refs,x.2.2.used+n,x.2.2.held⟩)
def addH(n:Nat)(x:Nd5):Nd5:=(x.1,x.2.1,⟨x.2.2.text,x.2.2.refs,x.2.2.used,x.2.2.held+n⟩)
theorem joM:∀ (T:vM) (L:vT),jeI T L=L.map fun x=>addU (cK T x.1) x
 | [],L=>by
  show L=_
  have:(fun x:Nd5=>addU (cK [] x.1) x)=id:=by
   funext x
   obtain⟨a,b,⟨t,r,u,h⟩⟩:=x
   unfold addU cK;simp
  rw[this,List.map_id]
 | r :: T,L=>by
  show jeI T (jgp r.data.toList L)=_;rw[joM T,jgp,dN];refine dI fun x _=>?_;show addU (cK T (if x.1=r.data.toList then (x.1,x.2.1,putF 2 (x.2.2.used+1) x.2.2)else x).1) (if x.1=r.data.toList then (x.1,x.2.1,putF 2 (x.2.2.used+1) x.2.2)else x)=_;rw[jky]
  by_cases h:x.1=r.data.toList
  ·simp only[if_pos h]
   unfold addU putF;simp only[if_true];rw[show x.2.2.used+1+((cK T x.1:Nat):Int)=x.2.2.used+((cK T x.1+1:Nat):Int) by omega]
  ·simp only[if_neg h,fN]
theorem juP(r:vB)(L:vT):jkx r.data.toList L=L.map fun x=>addH (cK [r] x.1) x:=by
 unfold jkx;refine dI fun x _=>?_;rw[jky]
 by_cases h:x.1=r.data.toList
 ·rw[if_pos h,if_pos h];rfl
 ·rw[if_neg h,if_neg h]
  obtain⟨a,b,⟨t,r,u,h⟩⟩:=x
  unfold addH cK;simp
def jlO(T:vM)(r:vB)(x:Nd5):Nd5:=addH (cK [r] x.1) (addU (cK T x.1) x)
theorem jxp(T:vM)(r:vB)(L:vT):jkx r.data.toList (jeI T L)=L.map (jlO T r):=by
 rw[juP,joM,dN];rfl
theorem jrG(T:vM)(r:vB)(L:vT):(L.map (jlO T r)).map (·.1)=L.map (·.1):=by
 rw[dN];rfl
theorem jrH(T:vM)(r:vB)(L:vT):(L.map (jlO T r)).flatMap (fun y=>y.2.2.refs)=L.flatMap (fun y=>y.2.2.refs):=by
 rw[List.flatMap_map];rfl
theorem jj6(G:vT):∀ F:vM,F.flatMap (jce G)=(jc0 G F).flatMap (fun y=>y.2.2.refs)
 | []=>rfl
 | x :: F=>by
  have e:=jj6 G F;unfold jc0 at *;rw[cG,gF];cases h:atL G x.data.toList with
  | none=>rw[e];unfold jce;rw[h];rfl
  | some y=>rw[e,jfO h,cG]
theorem jeN{S:vT}{k:Key}:(atL S k).isSome=true↔k∈S.map (·.1):=by
 constructor
 ·intro h
  obtain⟨y,o⟩:=fG.1 h
  exact bK.2 ⟨y,(jba o).1,(jba o).2⟩
 ·intro h
  obtain⟨y,o,e⟩:=bK.1 h
  cases ha:atL S k with
  | some z=>rfl
  | none=>exact absurd e.symm (jkp.1 ha y o)
def jA2(L:vM)(top:vB):Prop:=∀ P:vB->Prop,(∀ t∈L,P (shaB t)->∀ h∈jaL (nodeOf t),P h)->P (shaB top)->∀ t∈L,P (shaB t)
theorem jz0{U:vM}(hU:InjL U){s t:vB}(hs:s∈U)(ht:t∈U)(h:ky s=ky t):s=t:=hU s hs t ht (jnE h)
def addS(S G:vT)(M:vM)(top:vB):vT:=jkx (shaB top).data.toList (jeI ((frK S M).flatMap (jce G)) (S++jc0 G (frK S M)))
theorem jdr(S G:vT)(M:vM)(top:vB):addS S G M top=(S++jc0 G (frK S M)).map (jlO ((frK S M).flatMap (jce G)) (shaB top)):=jxp _ _ _
theorem jBG(w:vW)(P:vB->Prop):∀ (f:Nat) (l:vL),jap f l->(∀ t∈jav (jac (f+1) l),P (shaB t)->∀ h∈jaL (nodeOf t),P h)->P (shaB (jaQ (jar (jac f) l)))->∀ t∈jav (jac (f+1) l),P (shaB t):=by
 intro f;induction f with
 | zero =>
  intro l h _ O t o;have X:jas (jac 0) l=[]:=by have:=jbI h;unfold jas;rw[if_pos vO]
  have E:jav (jac (0+1) l)=[jaQ (jar (jac 0) l)]:=by
   show jav (.mk (jaQ (jar (jac 0) l)) (jas (jac 0) l))=_;rw[jav,X];simp[jaA]
  rw[E,bY]at o;subst o;exact O
 | succ f ih =>
  intro l h H O t o;have E:jav (jac (f+1+1) l)=jaQ (jar (jac (f+1)) l) :: jaA (jas (jac (f+1)) l):=by
   show jav (.mk (jaQ (jar (jac (f+1)) l)) (jas (jac (f+1)) l))=_;rw[jav]
  have Z:=jd5 (f+1) l h;have A:jbs (jaQ (jar (jac (f+1)) l)) (jar (jac (f+1)) l):=⟨rfl,f+1,(good (f+1) l h).1⟩;rw[E]at o;rcases bM.1 o with rfl | o
  ·exact O
  obtain⟨K,Q,o⟩:=jbE.1 o
  obtain⟨g,m,eg,e,h1,a0⟩:=jid h Q
  obtain rfl:f=g:=vO
  subst e;have J:∀ t∈jav (jac (f+1) m),t∈jav (jac (f+1+1) l):=fun t o=>by
   rw[E];exact bD _ (jbE.2 ⟨_,Q,o⟩)
  refine ih m h1 (fun t o=>H t (J t o)) ?_ t o;refine H _ (by rw[E];exact bG) O _ ?_;rw[jes w (jdm A) A,Z];exact bK.2 ⟨_,Q,rfl⟩
theorem jv9(w:vW){l:vL}(h:jaz l=0):jA2 (ja9 (jav (jaG l))) (jaG l).text:=fun P o A t e =>
 jBG w P 12 (jaP l) (jbD (jaD h)) (fun t e=>o t ((jaV _ _).2 e)) A t ((jaV _ _).1 e)
theorem jq7(w:vW){l:vL}(h:jaz l=0)(hl:(ja9 (jav (jaG l))).length<=1000):jzi (ja9 (jav (jaG l))):=
 ⟨fun t o=>by obtain⟨n,e,_⟩:=(jhN h).node t o;exact⟨n,e⟩,
  fun t o x A=>by
  obtain⟨n,e,E⟩:=(jhN h).node t o
  rw[jes w (jdm e) e]at A;exact E x A,hl⟩
theorem jaT.nd{W:vW}{s bm:Nat}{room:Int}{S:vT}(h:jaT W s bm room S):(S.map (·.1)).Nodup:=by
 obtain⟨o,A,_,e⟩:=h.mp.mp
 have:=e.keys
 rw[dN]at this;exact this
section
attribute [local go_sem] Oper.semAt_some
def jaM(l:vL):vM:=ja9 (jav (jaG l))
theorem jcy{l:vL}(h:jaz l=0):(jaM l).length<=121:=by
 have e:=(jq8 h).1;have o:=(jaD h).len;show (ja9 (jav (jaG l))).length<=_;omega
def jy0(l:vL)(w:vW)(e:Ending)(w':vW):Prop:=e=.returned (.tuple #[.pointer none,.string ⟨#[]⟩])/\Ext w w'/\¬(fewB l=true/\jaz l=0/\InjL (jaM l))
end
def malE:vV:=.iface 28 (.int .i64 2)
def Fa1(W0 W:vW)(v:vV):Prop:=∃ (b:Nat) (k:Int),v=.iface 259 (.pointer (some ⟨b,0,none⟩))/\Blk W b (.cells #[.int .i64 k,malE] 261)/\W0.heap.size<=b
def MalP(w:vW)(e:Ending)(w':vW):Prop:=∃ v,e=.returned v/\Ext w w'/\Fa1 w w' v
theorem jbQ(w:vW)(k:Int):vQ 176 #[.int .i64 k] w (MalP w):=by
 unfold vQ;go_in;go_wp2_with fail
 go_ret
 exact⟨_,rfl,(ExtR w).alloc _,_,k,rfl,Blk.new w _,bL _⟩
def jAS(w:vW)(e:Ending)(w':vW):Prop:=∃ v,e=.returned (.tuple #[.int .i64 0,v])/\Ext w w'/\Fa1 w w' v
def jw5(s:vB)(to:Nat)(w:vW)(n i:vV)(wr:vW):Prop:=∃ k:Nat,1<=k/\k<=to/\i=.int .i64 k/\n=.int .i64 (beN ((s.data.toList.take k).drop 1))/\beN ((s.data.toList.take k).drop 1)<=1048576/\wr=w
theorem jmr(w:vW)(s:vB)(to:Nat)(hs:s.size<=1000000000)(h2:2<=to)(h9:to<=1000)(h:lenB s to=none):vQ 177 #[.string s,.int .i64 to] w (jAS w):=by
 by_cases hto:s.size < to
 ·have c0:(s.size:Int) < (to:Int):=vO
  clear h;unfold vQ;go_in;go_wp2_with fail
  refine (jbQ w s.size).mono ?_;rintro e w1 ⟨v,rfl,A,J⟩
  obtain⟨b,k,rfl,E⟩:=J
  have H:=Hd (bB A E);clear A E;go_wp2_with fail
  go_ret2
  exact⟨_,rfl,H.o.1,b,k,rfl,H.o.2⟩
 have c0:¬(s.size:Int) < (to:Int):=vO
 have c1:(1:Int) < (s.size:Int):=vO
 by_cases hz:(s[1]'(by omega)).toNat=0
 ·have a3:(((s[1]'(by omega)).toNat:Int) == 0)=true:=by simp[hz]
  clear h;unfold vQ;go_in;go_wp2_with fail
  refine (jbQ w 1).mono ?_;rintro e w1 ⟨v,rfl,A,J⟩
  obtain⟨b,k,rfl,E⟩:=J
  have H:=Hd (bB A E);clear A E;go_wp2_with fail
  go_ret2
  exact⟨_,rfl,H.o.1,b,k,rfl,H.o.2⟩
 have a3:(((s[1]'(by omega)).toNat:Int) == 0)=false:=by simpa using hz
 have HH:=Hd (show ¬(55 < beN ((s.data.toList.take to).drop 1)/\beN ((s.data.toList.take to).drop 1)<=1048576)from fun hc=>by
  unfold lenB at h;rw[if_neg ?_,if_pos hc]at h
  ·cases h
  ·rintro (X | X)
   ·exact hto X
   ·rw[bH,bA (by simp;omega)]at X
    have X:(s[1]'(by omega))=0:=X;exact hz (by rw[X];rfl))
 clear h hz;unfold vQ;go_in;go_wp2_with fail
 go_loopw [6,7] (fun m i wr=>jw5 s to w m i wr) (fun _ i _=>to - (intOf i).toNat)
 case atStart=>exact⟨1,bL _,by omega,rfl,by simp[beN],by simp[beN],rfl⟩
 case round =>
  obtain⟨k,a4,a7,rfl,rfl,K,rfl⟩:=hrel
  by_cases hlt:k < to
  ·have a5:k < s.size:=vO
   have c2:(k:Int) < (s.size:Int):=vO
   have c3:(k:Int) < (to:Int):=vO
   have Z:=jf0 s a4 a5
   obtain⟨m,O⟩:=vE (beN ((s.data.toList.take k).drop 1))
   rw[<-O]at K;have a1:=jtj m s[k] K;have a0:bits BinOp.or .i64 ((m:Int) * 256) (wrap64 (s[k].toNat:Int))=((m * 256+s[k].toNat:Nat):Int):=by
    have hb:=s[k].toNat_lt;rw[<-a1];congr 1;unfold wrap64;omega
   clear a1;have e5:beN ((s.data.toList.take (k+1)).drop 1)=m * 256+s[k].toNat:=by rw[Z,jkr, <-O]
   have H5:=Hd e5;rw[<-O];clear O Z e5
   obtain⟨m',Q⟩:∃ m',m'=m * 256+s[k].toNat:=⟨_,rfl⟩
   rw[<-Q]at a0;have a2:=Hd Q;clear Q
   by_cases hbig:1048576 < m'
   ·have c4:(1048576:Int) < (m':Int):=vO
    go_wp2_with fail
    refine (jbQ wr k).mono ?_;rintro e w1 ⟨v,rfl,A,J⟩
    obtain⟨b,kk,rfl,E⟩:=J
    have H:=Hd (bB A E);clear A E;go_wp2_with fail
    go_ret2
    exact⟨_,rfl,H.o.1,b,kk,rfl,H.o.2⟩
   ·have c4:¬(1048576:Int) < (m':Int):=vO
    go_wp2_with fail
    go_roundw
    case rel=>exact⟨k+1,by omega,by omega,by go_num,by rw[H5.o,a2.o],by rw[H5.o, <-a2.o];omega,rfl⟩
    case measure=>exact vJ
  ·have a6:k=to:=vO
   subst a6;have c3:¬(k:Int) < (k:Int):=vO
   obtain⟨m,O⟩:=vE (beN ((s.data.toList.take k).drop 1))
   have hh:=HH.o;rw[<-O]at K hh ⊢;have c4:¬(55:Int) < (m:Int):=vO
   clear O hh;go_wp2_with fail
   refine (jbQ wr 1).mono ?_;rintro e w1 ⟨v,rfl,A,J⟩
   obtain⟨b,kk,rfl,E⟩:=J
   have H:=Hd (bB A E);clear A E;go_wp2_with fail
   go_ret2
   exact⟨_,rfl,H.o.1,b,kk,rfl,H.o.2⟩
