/- Lemmas; each is under no condition but those that it states. -/
import Derived.Test.YtmobgkphhbmhbaaGreatDoorPb0
import Derived.BigQuiet
import Derived.Lib.Hide
namespace Go.Proofs.YtmobgkphhbmhbaaGreatDoor
set_option linter.unusedSimpArgs false
set_option linter.unusedVariables false
set_option maxRecDepth 100000
set_option maxHeartbeats 16000000
open Go Go.RowKit
def jaG(s:vB):Bool:=s.data.toList.all (·<=15)
theorem js0(s:vB){k:Nat}(h:k < s.size)(p:vU->Bool):(s.data.toList.take (k+1)).all p=((s.data.toList.take k).all p && p s[k]):=by
 have e:k < s.data.toList.length:=by simpa using h
 rw[cR e,List.all_append]
 simp
 rfl
theorem jkM(w:vW)(s:vB)(hs:s.size<=1000000000):vQ 128 #[.string s] w fun e w'=>e=.returned (.bool (jaG s))/\w'=w:=by
 go_enter Tryz.func128,Tryz.ntmps128;go_wp2;go_loop [6] (fun i=>∃ k:Nat,k<=s.size/\i=.int .i64 k/\(s.data.toList.take k).all (·<=15)=true) (fun i=>s.size - (intOf i).toNat)
 case atStart=>exact⟨0,cB _,rfl,rfl⟩
 case round =>
  obtain⟨k,X,rfl,q⟩:=hrel
  by_cases hlt:k < s.size
  ·have o:=js0 s hlt (·<=15)
   rw[q]at o;have E:=Lib.hid o;clear o;go_wp2
   ·have H:15 < (s[k].toNat:Int):=by assumption
    go_ret
    refine⟨?_,rfl⟩
    have J:decide (s[k]<=15)=false:=by
     simp only[decide_eq_false_iff_not,fT]
     have:(15:vU).toNat=15:=rfl
     omega
    have K:jaG s=false:=by
     have z:=E.out;simp only[J,Bool.and_false]at z;unfold jaG;rw[<-dC (k+1) s.data.toList,List.all_append,z];rfl
    rw[K];rfl
   ·have O:(s[k].toNat:Int)<=15:=by assumption
    have Q:decide (s[k]<=15)=true:=by
     simp only[decide_eq_true_eq,fT]
     have:(15:vU).toNat=15:=rfl
     omega
    have z:=E.out;simp only[Q,Bool.and_true]at z;go_round
    case rel=>exact⟨k+1,by omega,by go_num,z⟩
    case measure=>exact vJ
  ·have A:k=s.size:=vO
   have Z:jaG s=true:=by
    unfold jaG;rw[<-q,A,cD]
    simp
   go_wp2;go_ret
   exact⟨rfl,rfl⟩
def jbc:vN->vN->Nat
 | x :: r,y :: t=>if x=y then jbc r t+1 else 0
 | _,_=>0
theorem jey:∀ (a b:vN) (k:Nat),a.take k=b.take k->k<=a.length->k<=b.length->jbc a b=k+jbc (a.drop k) (b.drop k)
 | _,_,0,_,_,_=>by simp
 | x :: r,y :: t,k+1,h,h1,h2=>by
  simp only[fH,List.cons.injEq]at h;simp only[List.drop_succ_cons,jbc,h.1,if_true];rw[jey r t k h.2 (by simpa using h1) (by simpa using h2)];omega
 | [],_,k+1,_,h1,_=>by simp at h1
 | _ :: _,[],k+1,_,_,h2=>by simp at h2
def jaj(a b:vB):Nat:=jbc a.data.toList b.data.toList
theorem jqX(s:vB){k:Nat}(h:k < s.size):s.data.toList.drop k=s[k] :: s.data.toList.drop (k+1):=by
 have e:k < s.data.toList.length:=by simpa using h
 rw[iG e];simp;rfl
theorem jhT{s t:vB}{k:Nat}(h:s.data.toList.take k=t.data.toList.take k)(h1:k < s.size)(h2:k < t.size)(hne:((s[k].toNat:Int) !=(t[k].toNat:Int))=true):jaj s t=k:=by
 have o:s[k]≠t[k]:=fun e=>by rw[e]at hne;simp at hne
 unfold jaj;rw[jey _ _ k h (by simpa using Nat.le_of_lt h1) (by simpa using Nat.le_of_lt h2),jqX s h1,jqX t h2];simp[jbc,o]
theorem jhS{s t:vB}{k:Nat}(h:s.data.toList.take k=t.data.toList.take k)(h1:k < s.size)(h2:k < t.size)(heq:((s[k].toNat:Int) !=(t[k].toNat:Int))=false):s.data.toList.take (k+1)=t.data.toList.take (k+1):=by
 have q:s[k]=t[k]:=by
  have:(s[k].toNat:Int)=t[k].toNat:=by simpa using heq
  exact dR.1 vO
 have e:k < s.data.toList.length:=by simpa using h1
 have o:k < t.data.toList.length:=by simpa using h2
 rw[cR e,cR o,h]
 congr 2
theorem jph:∀ (a b:vN),(a=[]\/b=[])->jbc a b=0
 | [],_,_=>by simp[jbc]
 | _ :: _,[],_=>by simp[jbc]
 | _ :: _,_ :: _,h=>by simp at h
theorem ji9{s t:vB}{k:Nat}(h:s.data.toList.take k=t.data.toList.take k)(h1:k<=s.size)(h2:k<=t.size)(he:s.size<=k\/t.size<=k):jaj s t=k:=by
 unfold jaj;rw[jey _ _ k h (by simpa using h1) (by simpa using h2),jph]
 ·rfl
 rcases he with e | e
 ·exact .inl (List.drop_eq_nil_of_le (by simpa using e))
 ·exact .inr (List.drop_eq_nil_of_le (by simpa using e))
theorem jfn(w:vW)(s t:vB)(J:s.size<=1000000000)(ht:t.size<=1000000000):vQ 110 #[.string s,.string t] w fun e w'=>e=.returned (.int .i64 (jaj s t))/\∃ n,w'=w.drewN n:=by
 go_enter Tryz.func110,Tryz.ntmps110;go_wp2
 ·go_loopw [13] (fun i wr=>∃ k:Nat,k<=s.size/\k<=t.size/\i=.int .i64 k/\s.data.toList.take k=t.data.toList.take k/\∃ n,wr=w.drewN n) (fun i _=>s.size+1 - (intOf i).toNat)
  case atStart=>exact⟨0,cB _,cB _,rfl,rfl,0,rfl⟩
  case round =>
   obtain⟨k,O,K,rfl,o,Q,rfl⟩:=hrel
   have q:=Lib.hid o;clear o
   by_cases hlt:k < t.size
   ·have E:k < s.size:=vO
    have H:k < t.size:=vO
    go_wp2_with fail
    go_quiet (fail)
    go_wp2
    ·have z:((s[k].toNat:Int) !=(t[k].toNat:Int))=true:=by assumption
     go_ret
     exact⟨by rw[jhT q.out E H z];rfl,_,World.drewN_drewN ..⟩
    ·have A:((s[k].toNat:Int) !=(t[k].toNat:Int))=false:=by assumption
     have J:=jhS q.out E H A;go_roundw
     case rel=>exact⟨k+1,by omega,by omega,by go_num,J,_,rfl⟩
     case measure=>exact vJ
   ·go_wp2
    go_ret
    exact⟨by rw[ji9 q.out vO vO vO,show k=t.size by omega];rfl,_,rfl⟩
 ·go_loopw [13] (fun i wr=>∃ k:Nat,k<=s.size/\k<=t.size/\i=.int .i64 k/\s.data.toList.take k=t.data.toList.take k/\∃ n,wr=w.drewN n) (fun i _=>s.size+1 - (intOf i).toNat)
  case atStart=>exact⟨0,cB _,cB _,rfl,rfl,0,rfl⟩
  case round =>
   obtain⟨k,O,K,rfl,o,Q,rfl⟩:=hrel
   have q:=Lib.hid o;clear o
   by_cases hlt:k < s.size
   ·have E:k < s.size:=vO
    have H:k < t.size:=vO
    go_wp2_with fail
    go_quiet (fail)
    go_wp2
    ·have z:((s[k].toNat:Int) !=(t[k].toNat:Int))=true:=by assumption
     go_ret
     exact⟨by rw[jhT q.out E H z];rfl,_,World.drewN_drewN ..⟩
    ·have A:((s[k].toNat:Int) !=(t[k].toNat:Int))=false:=by assumption
     have J:=jhS q.out E H A;go_roundw
     case rel=>exact⟨k+1,by omega,by omega,by go_num,J,_,rfl⟩
     case measure=>exact vJ
   ·go_wp2
    go_ret
    exact⟨by rw[ji9 q.out vO vO vO,show k=s.size by omega];rfl,_,rfl⟩
def jxG(leaf odd:Bool):Int:=(if leaf then 2 else 0)+(if odd then 1 else 0)
theorem jxH(w:vW)(leaf odd:Bool):vQ 202 #[.bool leaf,.bool odd] w fun e w'=>e=.returned (.int .u8 (jxG leaf odd))/\w'=w:=by
 cases leaf <;> cases odd
 all_goals
  go_enter Tryz.func202,Tryz.ntmps202;go_wp2;go_ret
  exact⟨rfl,rfl⟩
end Go.Proofs.YtmobgkphhbmhbaaGreatDoor
