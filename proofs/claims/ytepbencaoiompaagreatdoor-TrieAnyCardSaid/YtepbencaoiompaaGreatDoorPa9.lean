/- Lemmas; each is under no condition but those that it states. -/
import Derived.Test.YtepbencaoiompaaGreatDoorPa0
import Derived.BigQuiet
import Derived.Lib.Hide
namespace Go.Proofs.YtepbencaoiompaaGreatDoor
set_option linter.unusedSimpArgs false
set_option linter.unusedVariables false
set_option maxRecDepth 100000
set_option maxHeartbeats 16000000
open Go Go.RowKit
def jaC(s:vB):Bool:=s.data.toList.all (·<=15)
theorem juX(s:vB){k:Nat}(h:k < s.size)(p:vU->Bool):(s.data.toList.take (k+1)).all p=((s.data.toList.take k).all p && p s[k]):=by
 have e:k < s.data.toList.length:=by simpa using h
 rw[cS e,List.all_append]
 simp
 rfl
theorem jlK(w:vW)(s:vB)(hs:s.size<=1000000000):vQ 86 #[.string s] w fun e w'=>e=.returned (.bool (jaC s))/\w'=w:=by
 go_enter Tryz.func86,Tryz.ntmps86;go_wp2;go_loop [6] (fun i=>∃ k:Nat,k<=s.size/\i=.int .i64 k/\(s.data.toList.take k).all (·<=15)=true) (fun i=>s.size - (intOf i).toNat)
 case atStart=>exact⟨0,bY _,rfl,rfl⟩
 case round =>
  obtain⟨k,X,rfl,q⟩:=hrel
  by_cases hlt:k < s.size
  ·have o:=juX s hlt (·<=15)
   rw[q]at o;have E:=Lib.hid o;clear o;go_wp2
   ·have H:15 < (s[k].toNat:Int):=by assumption
    go_ret
    refine⟨?_,rfl⟩
    have J:decide (s[k]<=15)=false:=by
     simp only[decide_eq_false_iff_not,fU]
     have:(15:vU).toNat=15:=rfl
     omega
    have K:jaC s=false:=by
     have z:=E.out;simp only[J,iY]at z;unfold jaC;rw[<-dD (k+1) s.data.toList,List.all_append,z];rfl
    rw[K];rfl
   ·have O:(s[k].toNat:Int)<=15:=by assumption
    have Q:decide (s[k]<=15)=true:=by
     simp only[decide_eq_true_eq,fU]
     have:(15:vU).toNat=15:=rfl
     omega
    have z:=E.out;simp only[Q,Bool.and_true]at z;go_round
    case rel=>exact⟨k+1,by omega,by go_num,z⟩
    case measure=>exact vJ
  ·have A:k=s.size:=vO
   have Z:jaC s=true:=by
    unfold jaC;rw[<-q,A,cD]
    simp
   go_wp2;go_ret
   exact⟨rfl,rfl⟩
def jbh:vN->vN->Nat
 | x :: r,y :: t=>if x=y then jbh r t+1 else 0
 | _,_=>0
theorem jeU:∀ (a b:vN) (k:Nat),a.take k=b.take k->k<=a.length->k<=b.length->jbh a b=k+jbh (a.drop k) (b.drop k)
 | _,_,0,_,_,_=>by simp
 | x :: r,y :: t,k+1,h,h1,h2=>by
  simp only[dW,List.cons.injEq]at h;simp only[iK,jbh,h.1,if_true];rw[jeU r t k h.2 (by simpa using h1) (by simpa using h2)];omega
 | [],_,k+1,_,h1,_=>by simp at h1
 | _ :: _,[],k+1,_,_,h2=>by simp at h2
def jam(a b:vB):Nat:=jbh a.data.toList b.data.toList
theorem jsv(s:vB){k:Nat}(h:k < s.size):s.data.toList.drop k=s[k] :: s.data.toList.drop (k+1):=by
 have e:k < s.data.toList.length:=by simpa using h
 rw[iM e];simp;rfl
theorem jis{s t:vB}{k:Nat}(h:s.data.toList.take k=t.data.toList.take k)(h1:k < s.size)(h2:k < t.size)(hne:((s[k].toNat:Int) !=(t[k].toNat:Int))=true):jam s t=k:=by
 have o:s[k]≠t[k]:=fun e=>by rw[e]at hne;simp at hne
 unfold jam;rw[jeU _ _ k h (by simpa using Nat.le_of_lt h1) (by simpa using Nat.le_of_lt h2),jsv s h1,jsv t h2];simp[jbh,o]
theorem jir{s t:vB}{k:Nat}(h:s.data.toList.take k=t.data.toList.take k)(h1:k < s.size)(h2:k < t.size)(heq:((s[k].toNat:Int) !=(t[k].toNat:Int))=false):s.data.toList.take (k+1)=t.data.toList.take (k+1):=by
 have q:s[k]=t[k]:=by
  have:(s[k].toNat:Int)=t[k].toNat:=by simpa using heq
  exact dX.1 vO
 have e:k < s.data.toList.length:=by simpa using h1
 have o:k < t.data.toList.length:=by simpa using h2
 rw[cS e,cS o,h]
 congr 2
theorem jqI:∀ (a b:vN),(a=[]\/b=[])->jbh a b=0
 | [],_,_=>by simp[jbh]
 | _ :: _,[],_=>by simp[jbh]
 | _ :: _,_ :: _,h=>by simp at h
theorem jjO{s t:vB}{k:Nat}(h:s.data.toList.take k=t.data.toList.take k)(h1:k<=s.size)(h2:k<=t.size)(he:s.size<=k\/t.size<=k):jam s t=k:=by
 unfold jam;rw[jeU _ _ k h (by simpa using h1) (by simpa using h2),jqI]
 ·rfl
 rcases he with e | e
 ·exact .inl (List.drop_eq_nil_of_le (by simpa using e))
 ·exact .inr (List.drop_eq_nil_of_le (by simpa using e))
theorem jfL(w:vW)(s t:vB)(J:s.size<=1000000000)(ht:t.size<=1000000000):vQ 100 #[.string s,.string t] w fun e w'=>e=.returned (.int .i64 (jam s t))/\∃ n,w'=w.drewN n:=by
 go_enter Tryz.func100,Tryz.ntmps100;go_wp2
 ·go_loopw [13] (fun i wr=>∃ k:Nat,k<=s.size/\k<=t.size/\i=.int .i64 k/\s.data.toList.take k=t.data.toList.take k/\∃ n,wr=w.drewN n) (fun i _=>s.size+1 - (intOf i).toNat)
  case atStart=>exact⟨0,bY _,bY _,rfl,rfl,0,rfl⟩
  case round =>
   obtain⟨k,O,K,rfl,o,Q,rfl⟩:=hrel
   have q:=Lib.hid o;clear o
   by_cases hlt:k < t.size
   ·have E:k < s.size:=vO
    have H:k < t.size:=vO
    go_wp2_with fail
    go_quiet (fail)
    go_wp2
    ·have z:((s[k].toNat:Int) !=(t[k].toNat:Int))=true:=by assumption
     go_ret
     exact⟨by rw[jis q.out E H z];rfl,_,World.drewN_drewN ..⟩
    ·have A:((s[k].toNat:Int) !=(t[k].toNat:Int))=false:=by assumption
     have J:=jir q.out E H A;go_roundw
     case rel=>exact⟨k+1,by omega,by omega,by go_num,J,_,rfl⟩
     case measure=>exact vJ
   ·go_wp2
    go_ret
    exact⟨by rw[jjO q.out vO vO vO,show k=t.size by omega];rfl,_,rfl⟩
 ·go_loopw [13] (fun i wr=>∃ k:Nat,k<=s.size/\k<=t.size/\i=.int .i64 k/\s.data.toList.take k=t.data.toList.take k/\∃ n,wr=w.drewN n) (fun i _=>s.size+1 - (intOf i).toNat)
  case atStart=>exact⟨0,bY _,bY _,rfl,rfl,0,rfl⟩
  case round =>
   obtain⟨k,O,K,rfl,o,Q,rfl⟩:=hrel
   have q:=Lib.hid o;clear o
   by_cases hlt:k < s.size
   ·have E:k < s.size:=vO
    have H:k < t.size:=vO
    go_wp2_with fail
    go_quiet (fail)
    go_wp2
    ·have z:((s[k].toNat:Int) !=(t[k].toNat:Int))=true:=by assumption
     go_ret
     exact⟨by rw[jis q.out E H z];rfl,_,World.drewN_drewN ..⟩
    ·have A:((s[k].toNat:Int) !=(t[k].toNat:Int))=false:=by assumption
     have J:=jir q.out E H A;go_roundw
     case rel=>exact⟨k+1,by omega,by omega,by go_num,J,_,rfl⟩
     case measure=>exact vJ
   ·go_wp2
    go_ret
    exact⟨by rw[jjO q.out vO vO vO,show k=s.size by omega];rfl,_,rfl⟩
def jAo(leaf odd:Bool):Int:=(if leaf then 2 else 0)+(if odd then 1 else 0)
theorem jAp(w:vW)(leaf odd:Bool):vQ 149 #[.bool leaf,.bool odd] w fun e w'=>e=.returned (.int .u8 (jAo leaf odd))/\w'=w:=by
 cases leaf <;> cases odd
 all_goals
  go_enter Tryz.func149,Tryz.ntmps149;go_wp2;go_ret
  exact⟨rfl,rfl⟩
end Go.Proofs.YtepbencaoiompaaGreatDoor
