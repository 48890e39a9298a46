/- Lemmas; each is under no condition but those that it states. -/
import Derived.Test.YtfjmkebdhojanaaGreatDoorPt0
import Derived.BigQuiet
import Derived.Lib.Hide
namespace Go.Proofs.YtfjmkebdhojanaaGreatDoor
set_option linter.unusedSimpArgs false
set_option linter.unusedVariables false
set_option maxRecDepth 100000
set_option maxHeartbeats 16000000
open Go Go.RowKit
def jaB(s:vB):Bool:=s.data.toList.all (·<=15)
theorem joD(s:vB){k:Nat}(h:k < s.size)(p:vU->Bool):(s.data.toList.take (k+1)).all p=((s.data.toList.take k).all p && p s[k]):=by
 have e:k < s.data.toList.length:=by simpa using h
 rw[cX e,List.all_append]
 simp
 rfl
theorem jlq(w:vW)(s:vB)(hs:s.size<=1000000000):vQ 85 #[.string s] w fun e w'=>e=.returned (.bool (jaB s))/\w'=w:=by
 unfold vQ;go_in;go_wp2;go_loop [6] (fun i=>∃ k:Nat,k<=s.size/\i=.int .i64 k/\(s.data.toList.take k).all (·<=15)=true) (fun i=>s.size - (intOf i).toNat)
 case atStart=>exact⟨0,cD _,rfl,rfl⟩
 case round =>
  obtain⟨k,hk,rfl,A⟩:=hrel
  by_cases hlt:k < s.size
  ·have o:=joD s hlt (·<=15)
   rw[A]at o;have J:=Lib.hid o;clear o;go_wp2
   ·have K:15 < (s[k].toNat:Int):=by assumption
    go_ret
    refine⟨?_,rfl⟩
    have O:decide (s[k]<=15)=false:=by
     simp only[decide_eq_false_iff_not,fB]
     have:(15:vU).toNat=15:=rfl
     omega
    have Q:jaB s=false:=by
     have E:=J.out;simp only[O,Bool.and_false]at E;unfold jaB;rw[<-cV (k+1) s.data.toList,List.all_append,E];rfl
    rw[Q];rfl
   ·have X:(s[k].toNat:Int)<=15:=by assumption
    have Z:decide (s[k]<=15)=true:=by
     simp only[decide_eq_true_eq,fB]
     have:(15:vU).toNat=15:=rfl
     omega
    have E:=J.out;simp only[Z,Bool.and_true]at E;go_round
    case rel=>exact⟨k+1,by omega,by go_num,E⟩
    case measure=>exact vJ
  ·have H:k=s.size:=vO
   have hv:jaB s=true:=by
    unfold jaB;rw[<-A,H,bN]
    simp
   go_wp2;go_ret
   exact⟨rfl,rfl⟩
def jaY:vN->vN->Nat
 | x :: r,y :: t=>if x=y then jaY r t+1 else 0
 | _,_=>0
theorem jdP:∀ (a b:vN) (k:Nat),a.take k=b.take k->k<=a.length->k<=b.length->jaY a b=k+jaY (a.drop k) (b.drop k)
 | _,_,0,_,_,_=>by simp
 | x :: r,y :: t,k+1,h,h1,h2=>by
  simp only[dV,List.cons.injEq]at h;simp only[iO,jaY,h.1,if_true];rw[jdP r t k h.2 (by simpa using h1) (by simpa using h2)];omega
 | [],_,k+1,_,h1,_=>by simp at h1
 | _ :: _,[],k+1,_,_,h2=>by simp at h2
def jal(a b:vB):Nat:=jaY a.data.toList b.data.toList
theorem jkD(s:vB){k:Nat}(h:k < s.size):s.data.toList.drop k=s[k] :: s.data.toList.drop (k+1):=by
 have e:k < s.data.toList.length:=by simpa using h
 rw[fZ e];simp;rfl
theorem jij{s t:vB}{k:Nat}(h:s.data.toList.take k=t.data.toList.take k)(h1:k < s.size)(h2:k < t.size)(hne:((s[k].toNat:Int) !=(t[k].toNat:Int))=true):jal s t=k:=by
 have o:s[k]≠t[k]:=fun e=>by rw[e]at hne;simp at hne
 unfold jal;rw[jdP _ _ k h (by simpa using Nat.le_of_lt h1) (by simpa using Nat.le_of_lt h2),jkD s h1,jkD t h2];simp[jaY,o]
theorem jii{s t:vB}{k:Nat}(h:s.data.toList.take k=t.data.toList.take k)(h1:k < s.size)(h2:k < t.size)(heq:((s[k].toNat:Int) !=(t[k].toNat:Int))=false):s.data.toList.take (k+1)=t.data.toList.take (k+1):=by
 have A:s[k]=t[k]:=by
  have:(s[k].toNat:Int)=t[k].toNat:=by simpa using heq
  exact dS.1 vO
 have e:k < s.data.toList.length:=by simpa using h1
 have o:k < t.data.toList.length:=by simpa using h2
 rw[cX e,cX o,h]
 congr 2
theorem jha:∀ (a b:vN),(a=[]\/b=[])->jaY a b=0
 | [],_,_=>by simp[jaY]
 | _ :: _,[],_=>by simp[jaY]
 | _ :: _,_ :: _,h=>by simp at h
theorem jjJ{s t:vB}{k:Nat}(h:s.data.toList.take k=t.data.toList.take k)(h1:k<=s.size)(h2:k<=t.size)(he:s.size<=k\/t.size<=k):jal s t=k:=by
 unfold jal;rw[jdP _ _ k h (by simpa using h1) (by simpa using h2),jha]
 ·rfl
 rcases he with e | e
 ·exact .inl (List.drop_eq_nil_of_le (by simpa using e))
 ·exact .inr (List.drop_eq_nil_of_le (by simpa using e))
theorem jfE(w:vW)(s t:vB)(O:s.size<=1000000000)(ht:t.size<=1000000000):vQ 73 #[.string s,.string t] w fun e w'=>e=.returned (.int .i64 (jal s t))/\∃ n,w'=w.drewN n:=by
 unfold vQ;go_in;go_wp2
 ·go_loopw [13] (fun i wr=>∃ k:Nat,k<=s.size/\k<=t.size/\i=.int .i64 k/\s.data.toList.take k=t.data.toList.take k/\∃ n,wr=w.drewN n) (fun i _=>s.size+1 - (intOf i).toNat)
  case atStart=>exact⟨0,cD _,cD _,rfl,rfl,0,rfl⟩
  case round =>
   obtain⟨k,X,Q,rfl,o,Z,rfl⟩:=hrel
   have A:=Lib.hid o;clear o
   by_cases hlt:k < t.size
   ·have J:k < s.size:=vO
    have K:k < t.size:=vO
    go_wp2_with fail
    go_quiet (fail)
    go_wp2
    ·have E:((s[k].toNat:Int) !=(t[k].toNat:Int))=true:=by assumption
     go_ret
     exact⟨by rw[jij A.out J K E];rfl,_,World.drewN_drewN ..⟩
    ·have H:((s[k].toNat:Int) !=(t[k].toNat:Int))=false:=by assumption
     have O:=jii A.out J K H;go_roundw
     case rel=>exact⟨k+1,by omega,by omega,by go_num,O,_,rfl⟩
     case measure=>exact vJ
   ·go_wp2
    go_ret
    exact⟨by rw[jjJ A.out vO vO vO,show k=t.size by omega];rfl,_,rfl⟩
 ·go_loopw [13] (fun i wr=>∃ k:Nat,k<=s.size/\k<=t.size/\i=.int .i64 k/\s.data.toList.take k=t.data.toList.take k/\∃ n,wr=w.drewN n) (fun i _=>s.size+1 - (intOf i).toNat)
  case atStart=>exact⟨0,cD _,cD _,rfl,rfl,0,rfl⟩
  case round =>
   obtain⟨k,X,Q,rfl,o,Z,rfl⟩:=hrel
   have A:=Lib.hid o;clear o
   by_cases hlt:k < s.size
   ·have J:k < s.size:=vO
    have K:k < t.size:=vO
    go_wp2_with fail
    go_quiet (fail)
    go_wp2
    ·have E:((s[k].toNat:Int) !=(t[k].toNat:Int))=true:=by assumption
     go_ret
     exact⟨by rw[jij A.out J K E];rfl,_,World.drewN_drewN ..⟩
    ·have H:((s[k].toNat:Int) !=(t[k].toNat:Int))=false:=by assumption
     have O:=jii A.out J K H;go_roundw
     case rel=>exact⟨k+1,by omega,by omega,by go_num,O,_,rfl⟩
     case measure=>exact vJ
   ·go_wp2
    go_ret
    exact⟨by rw[jjJ A.out vO vO vO,show k=s.size by omega];rfl,_,rfl⟩
def jzR(leaf odd:Bool):Int:=(if leaf then 2 else 0)+(if odd then 1 else 0)
theorem jzS(w:vW)(leaf odd:Bool):vQ 174 #[.bool leaf,.bool odd] w fun e w'=>e=.returned (.int .u8 (jzR leaf odd))/\w'=w:=by
 cases leaf <;> cases odd
 all_goals
  unfold vQ;go_in;go_wp2;go_ret
  exact⟨rfl,rfl⟩
