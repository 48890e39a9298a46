/- Lemmas; each is under no condition but those that it states. -/
import Derived.Test.YtnkdaacmpceghaaGreatDoorPa0
import Derived.BigQuiet
import Derived.Lib.Hide
namespace Go.Proofs.YtnkdaacmpceghaaGreatDoor
set_option linter.unusedSimpArgs false
set_option linter.unusedVariables false
set_option maxRecDepth 100000
set_option maxHeartbeats 16000000
open Go Go.RowKit
variable (w:vW)(s:vB){k:Nat}
def jaE(s:vB):Bool:=s.data.toList.all (·<=15)
theorem jsc(h:k < s.size)(p:vU->Bool):(s.data.toList.take (k+1)).all p=((s.data.toList.take k).all p && p s[k]):=by
 have e:k < s.data.toList.length:=by simpa using h
 rw[cS e,List.all_append]
 simp
 rfl
theorem jjL(hs:s.size<=1000000000):vQ 221 #[.string s] w fun e w'=>e=.returned (.bool (jaE s))/\w'=w:=by
 unfold vQ;go_in;go_wp2;go_loop [6] (fun i=>∃ k:Nat,k<=s.size/\i=.int .i64 k/\(s.data.toList.take k).all (·<=15)=true) (fun i=>s.size - (intOf i).toNat)
 case atStart=>exact⟨0,cB _,rfl,rfl⟩
 case round =>
  obtain⟨k,hk,rfl,A⟩:=hrel
  by_cases hlt:k < s.size
  ·have q:=jsc s hlt (·<=15)
   rw[A]at q;have K:=Lib.hid q;clear q;go_wp2
   ·have O:15 < (s[k].toNat:Int):=by assumption
    go_ret
    refine⟨?_,rfl⟩
    have X:decide (s[k]<=15)=false:=by
     simp only[decide_eq_false_iff_not,fB]
     have:(15:vU).toNat=15:=rfl
     omega
    have Z:jaE s=false:=by
     have H:=K.out;simp only[X,Bool.and_false]at H;unfold jaE;rw[<-dJ (k+1) s.data.toList,List.all_append,H];rfl
    rw[Z];rfl
   ·have a0:(s[k].toNat:Int)<=15:=by assumption
    have ht:decide (s[k]<=15)=true:=by
     simp only[decide_eq_true_eq,fB]
     have:(15:vU).toNat=15:=rfl
     omega
    have H:=K.out;simp only[ht,Bool.and_true]at H;go_round
    case rel=>exact⟨k+1,by omega,by go_num,H⟩
    case measure=>exact vJ
  ·have J:k=s.size:=vO
   have hv:jaE s=true:=by
    unfold jaE;rw[<-A,J,cF]
    simp
   go_wp2;go_ret
   exact⟨rfl,rfl⟩
def jbs:vN->vN->Nat
 | x :: r,y :: t=>if x=y then jbs r t+1 else 0
 | _,_=>0
theorem jdU:∀ (a b:vN) (k:Nat),a.take k=b.take k->k<=a.length->k<=b.length->jbs a b=k+jbs (a.drop k) (b.drop k)
 | _,_,0,_,_,_=>by simp
 | x :: r,y :: t,k+1,h,h1,h2=>by
  simp only[fP,List.cons.injEq]at h;simp only[List.drop_succ_cons,jbs,h.1,if_true];rw[jdU r t k h.2 (by simpa using h1) (by simpa using h2)];omega
 | [],_,k+1,_,h1,_=>by simp at h1
 | _ :: _,[],k+1,_,_,h2=>by simp at h2
def jar(a b:vB):Nat:=jbs a.data.toList b.data.toList
theorem jpY(h:k < s.size):s.data.toList.drop k=s[k] :: s.data.toList.drop (k+1):=by
 have e:k < s.data.toList.length:=by simpa using h
 rw[gF e];simp;rfl
theorem jhi{s t:vB}(h:s.data.toList.take k=t.data.toList.take k)(h1:k < s.size)(h2:k < t.size)(hne:((s[k].toNat:Int) !=(t[k].toNat:Int))=true):jar s t=k:=by
 have q:s[k]≠t[k]:=fun e=>by rw[e]at hne;simp at hne
 unfold jar;rw[jdU _ _ k h (by simpa using Nat.le_of_lt h1) (by simpa using Nat.le_of_lt h2),jpY s h1,jpY t h2];simp[jbs,q]
theorem jhh{s t:vB}(h:s.data.toList.take k=t.data.toList.take k)(h1:k < s.size)(h2:k < t.size)(heq:((s[k].toNat:Int) !=(t[k].toNat:Int))=false):s.data.toList.take (k+1)=t.data.toList.take (k+1):=by
 have A:s[k]=t[k]:=by
  have:(s[k].toNat:Int)=t[k].toNat:=by simpa using heq
  exact fV.1 vO
 have e:k < s.data.toList.length:=by simpa using h1
 have q:k < t.data.toList.length:=by simpa using h2
 rw[cS e,cS q,h]
 congr 2
theorem jnU:∀ (a b:vN),(a=[]\/b=[])->jbs a b=0
 | [],_,_=>by simp[jbs]
 | _ :: _,[],_=>by simp[jbs]
 | _ :: _,_ :: _,h=>by simp at h
theorem jir{s t:vB}(h:s.data.toList.take k=t.data.toList.take k)(h1:k<=s.size)(h2:k<=t.size)(he:s.size<=k\/t.size<=k):jar s t=k:=by
 unfold jar;rw[jdU _ _ k h (by simpa using h1) (by simpa using h2),jnU]
 ·rfl
 rcases he with e | e
 ·exact .inl (List.drop_eq_nil_of_le (by simpa using e))
 ·exact .inr (List.drop_eq_nil_of_le (by simpa using e))
theorem jeR(t:vB)(X:s.size<=1000000000)(ht:t.size<=1000000000):vQ 131 #[.string s,.string t] w fun e w'=>e=.returned (.int .i64 (jar s t))/\∃ n,w'=w.drewN n:=by
 unfold vQ;go_in;go_wp2
 ·go_loopw [13] (fun i wr=>∃ k:Nat,k<=s.size/\k<=t.size/\i=.int .i64 k/\s.data.toList.take k=t.data.toList.take k/\∃ n,wr=w.drewN n) (fun i _=>s.size+1 - (intOf i).toNat)
  case atStart=>exact⟨0,cB _,cB _,rfl,rfl,0,rfl⟩
  case round =>
   obtain⟨k,hk,Z,rfl,q,nw,rfl⟩:=hrel
   have A:=Lib.hid q;clear q
   by_cases hlt:k < t.size
   ·have K:k < s.size:=vO
    have O:k < t.size:=vO
    go_wp2_with fail
    go_quiet (fail)
    go_wp2
    ·have H:((s[k].toNat:Int) !=(t[k].toNat:Int))=true:=by assumption
     go_ret
     exact⟨by rw[jhi A.out K O H];rfl,_,World.drewN_drewN ..⟩
    ·have J:((s[k].toNat:Int) !=(t[k].toNat:Int))=false:=by assumption
     have X:=jhh A.out K O J;go_roundw
     case rel=>exact⟨k+1,by omega,by omega,by go_num,X,_,rfl⟩
     case measure=>exact vJ
   ·go_wp2
    go_ret
    exact⟨by rw[jir A.out vO vO vO,show k=t.size by omega];rfl,_,rfl⟩
 ·go_loopw [13] (fun i wr=>∃ k:Nat,k<=s.size/\k<=t.size/\i=.int .i64 k/\s.data.toList.take k=t.data.toList.take k/\∃ n,wr=w.drewN n) (fun i _=>s.size+1 - (intOf i).toNat)
  case atStart=>exact⟨0,cB _,cB _,rfl,rfl,0,rfl⟩
  case round =>
   obtain⟨k,hk,Z,rfl,q,nw,rfl⟩:=hrel
   have A:=Lib.hid q;clear q
   by_cases hlt:k < s.size
   ·have K:k < s.size:=vO
    have O:k < t.size:=vO
    go_wp2_with fail
    go_quiet (fail)
    go_wp2
    ·have H:((s[k].toNat:Int) !=(t[k].toNat:Int))=true:=by assumption
     go_ret
     exact⟨by rw[jhi A.out K O H];rfl,_,World.drewN_drewN ..⟩
    ·have J:((s[k].toNat:Int) !=(t[k].toNat:Int))=false:=by assumption
     have X:=jhh A.out K O J;go_roundw
     case rel=>exact⟨k+1,by omega,by omega,by go_num,X,_,rfl⟩
     case measure=>exact vJ
   ·go_wp2
    go_ret
    exact⟨by rw[jir A.out vO vO vO,show k=s.size by omega];rfl,_,rfl⟩
def jxT(leaf odd:Bool):Int:=(if leaf then 2 else 0)+(if odd then 1 else 0)
theorem jxU(leaf odd:Bool):vQ 239 #[.bool leaf,.bool odd] w fun e w'=>e=.returned (.int .u8 (jxT leaf odd))/\w'=w:=by
 cases leaf <;> cases odd
 all_goals
  unfold vQ;go_in;go_wp2;go_ret
  exact⟨rfl,rfl⟩
