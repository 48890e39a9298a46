/- Lemmas. -/
import Derived.Test.YtgmmpefjadjajaaGreatDoorPa0
import Derived.BigQuiet
import Derived.Lib.Hide
namespace Go.Proofs.YtgmmpefjadjajaaGreatDoor
set_option linter.unusedSimpArgs false
set_option linter.unusedVariables false
set_option maxRecDepth 100000
set_option maxHeartbeats 16000000
open Go Go.RowKit
variable (w:vW)(s:vB){k:Nat}
def Dy(s:vB):Bool:=s.data.toList.all (·<=15)
theorem B2(h:k<s.size)(p:vU->Bool):(s.data.toList.take (k+1)).all p=((s.data.toList.take k).all p&&p s[k]):=by
 have e:k<s.data.toList.length:=by simpa using h
 rw[cP e,List.all_append]
 simp
 rfl
theorem PG(hs:s.size<=1000000000):vQ 219 #[s] w λe w'=>e=.returned (Dy s)/\w'=w:=by
 unfold vQ;go_in;go_wp2;go_loop [6] (λi=>∃ k:Nat,k<=s.size/\i=.int .i64 k/\(s.data.toList.take k).all (·<=15)=true) (λi=>s.size-(intOf i).toNat)
 case atStart=>exact⟨0,cD _,rfl,rfl⟩
 case round =>obtain⟨k,hk,rfl,A⟩:=hrel;by_cases hlt:k<s.size;{have q:=B2 s hlt (·<=15);rw[A]at q;have O:=Lib.hid q;go_wp2;{(have X:15<(s[k].toNat:Int):=by assumption);go_ret;refine⟨?_,rfl⟩;(have Z:decide (s[k]<=15)=false:=by simp only[decide_eq_false_iff_not,fS];have:(15:vU).toNat=15:=rfl;omega);(have h2:Dy s=false:=by have H:=O.out;simp only[Z,Bool.and_false]at H;unfold Dy;rw[<-cX (k+1) s.data.toList,List.all_append,H];rfl);rw[h2];rfl};(have a0:(s[k].toNat:Int)<=15:=by assumption);(have ht:decide (s[k]<=15)=true:=by simp only[decide_eq_true_eq,fS];have:(15:vU).toNat=15:=rfl;omega);have H:=O.out;simp only[ht,Bool.and_true]at H;go_round;(case rel=>exact⟨k+1,by omega,by go_num,H⟩);case measure=>exact vJ};have K:k=s.size:=vO;(have hv:Dy s=true:=by unfold Dy;rw[<-A,K,cG];simp);go_wp2;go_ret;exact⟨rfl,rfl⟩
def Hz:vN->vN->Nat
 |x::r,y::t=>if x=y then Hz r t+1 else 0
 |_,_=>0
theorem MU:∀ (a b:vN) (k:Nat),a.take k=b.take k->k<=a.length->k<=b.length->Hz a b=k+Hz (a.drop k) (b.drop k)
 |_,_,0,_,_,_=>by simp
 |x::r,y::t,k+1,h,h1,h2=>by
  simp only[fM,List.cons.injEq]at h;simp only[List.drop_succ_cons,Hz,h.1,if_true];rw[MU r t k h.2 (by simpa using h1) (by simpa using h2)];omega
 |[],_,k+1,_,h1,_=>by simp at h1
 |_::_,[],k+1,_,_,h2=>by simp at h2
def Dg(a b:vB):Nat:=Hz a.data.toList b.data.toList
theorem qZ(h:k<s.size):s.data.toList.drop k=s[k]::s.data.toList.drop (k+1):=by
 have e:k<s.data.toList.length:=by simpa using h
 rw[gY e];simp;rfl
theorem aA{s t:vB}(h:s.data.toList.take k=t.data.toList.take k)(h1:k<s.size)(h2:k<t.size)(hne:((s[k].toNat:Int) !=(t[k].toNat:Int))=true):Dg s t=k:=by
 have q:s[k]≠t[k]:=λe=>by rw[e]at hne;simp at hne
 unfold Dg;rw[MU _ _ k h (by simpa using Nat.le_of_lt h1) (by simpa using Nat.le_of_lt h2),qZ s h1,qZ t h2];simp[Hz,q]
theorem ZZ{s t:vB}(h:s.data.toList.take k=t.data.toList.take k)(h1:k<s.size)(h2:k<t.size)(heq:((s[k].toNat:Int) !=(t[k].toNat:Int))=false):s.data.toList.take (k+1)=t.data.toList.take (k+1):=by
 have A:s[k]=t[k]:=by(have:(s[k].toNat:Int)=t[k].toNat:=by simpa using heq);exact dO.1 vO
 have e:k<s.data.toList.length:=by simpa using h1
 have q:k<t.data.toList.length:=by simpa using h2
 rw[cP e,cP q,h]
 congr 2
theorem c7:∀ (a b:vN),(a=[]\/b=[])->Hz a b=0
 |[],_,_=>by simp[Hz]
 |_::_,[],_=>by simp[Hz]
 |_::_,_::_,h=>by simp at h
theorem aT{s t:vB}(h:s.data.toList.take k=t.data.toList.take k)(h1:k<=s.size)(h2:k<=t.size)(he:s.size<=k\/t.size<=k):Dg s t=k:=by
 unfold Dg;rw[MU _ _ k h (by simpa using h1) (by simpa using h2),c7]
 ·rfl
 rcases he with e|e
 ·exact .inl (List.drop_eq_nil_of_le (by simpa using e))
 ·exact .inr (List.drop_eq_nil_of_le (by simpa using e))
theorem GQ(t:vB)(Z:s.size<=1000000000)(ht:t.size<=1000000000):vQ 120 #[s,t] w λe w'=>e=.returned (.int .i64 (Dg s t))/\∃ n,w'=w.drewN n:=by
 unfold vQ;go_in;go_wp2
 ·(go_loopw [13] (λi wr=>∃ k:Nat,k<=s.size/\k<=t.size/\i=.int .i64 k/\s.data.toList.take k=t.data.toList.take k/\∃ n,wr=w.drewN n) (λi _=>s.size+1-(intOf i).toNat));(case atStart=>exact⟨0,cD _,cD _,rfl,rfl,0,rfl⟩);case round =>obtain⟨k,hk,a0,rfl,q,nw,rfl⟩:=hrel;have A:=Lib.hid q;by_cases hlt:k<t.size;{have O:k<s.size:=vO;have X:k<t.size:=vO;(go_wp2_with fail);(go_quiet (fail));go_wp2;{(have H:((s[k].toNat:Int) !=(t[k].toNat:Int))=true:=by assumption);go_ret;exact⟨by rw[aA A.out O X H];rfl,_,World.drewN_drewN ..⟩};(have K:((s[k].toNat:Int) !=(t[k].toNat:Int))=false:=by assumption);have Z:=ZZ A.out O X K;go_roundw;(case rel=>exact⟨k+1,by omega,by omega,by go_num,Z,_,rfl⟩);case measure=>exact vJ};go_wp2;go_ret;exact⟨by rw[aT A.out vO vO vO,show k=t.size by omega];rfl,_,rfl⟩
 ·(go_loopw [13] (λi wr=>∃ k:Nat,k<=s.size/\k<=t.size/\i=.int .i64 k/\s.data.toList.take k=t.data.toList.take k/\∃ n,wr=w.drewN n) (λi _=>s.size+1-(intOf i).toNat));(case atStart=>exact⟨0,cD _,cD _,rfl,rfl,0,rfl⟩);case round =>obtain⟨k,hk,a0,rfl,q,nw,rfl⟩:=hrel;have A:=Lib.hid q;by_cases hlt:k<s.size;{have O:k<s.size:=vO;have X:k<t.size:=vO;(go_wp2_with fail);(go_quiet (fail));go_wp2;{(have H:((s[k].toNat:Int) !=(t[k].toNat:Int))=true:=by assumption);go_ret;exact⟨by rw[aA A.out O X H];rfl,_,World.drewN_drewN ..⟩};(have K:((s[k].toNat:Int) !=(t[k].toNat:Int))=false:=by assumption);have Z:=ZZ A.out O X K;go_roundw;(case rel=>exact⟨k+1,by omega,by omega,by go_num,Z,_,rfl⟩);case measure=>exact vJ};go_wp2;go_ret;exact⟨by rw[aT A.out vO vO vO,show k=s.size by omega];rfl,_,rfl⟩
def YO(leaf odd:Bool):Int:=(if leaf then 2 else 0)+(if odd then 1 else 0)
theorem uX(leaf odd:Bool):vQ 243 #[leaf,odd] w λe w'=>e=.returned (.int .u8 (YO leaf odd))/\w'=w:=by
 cases leaf<;>cases odd
 all_goals unfold vQ;go_in;go_wp2;go_ret;exact⟨rfl,rfl⟩
