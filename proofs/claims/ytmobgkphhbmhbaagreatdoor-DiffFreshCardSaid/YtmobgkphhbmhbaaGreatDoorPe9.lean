/- Lemmas; each is under no condition but those that it states. -/
import Derived.Test.YtmobgkphhbmhbaaGreatDoorPe0
import Derived.BigQuiet
import Derived.Lib.Hide
namespace Go.Proofs.YtmobgkphhbmhbaaGreatDoor
set_option linter.unusedSimpArgs false
set_option linter.unusedVariables false
set_option maxRecDepth 100000
set_option maxHeartbeats 16000000
open Go Go.RowKit
def jaM(s:vB):Bool:=s.data.toList.all (·<=15)
theorem jta(s:vB){k:Nat}(h:k < s.size)(p:vU->Bool):(s.data.toList.take (k+1)).all p=((s.data.toList.take k).all p && p s[k]):=by
 have e:k < s.data.toList.length:=by simpa using h
 rw[cR e,List.all_append]
 simp
 rfl
theorem jkD(w:vW)(s:vB)(hs:s.size<=1000000000):vQ 128 #[.string s] w fun e w'=>e=.returned (.bool (jaM s))/\w'=w:=by
 go_enter Tryz.func128,Tryz.ntmps128;go_wp2;go_loop [6] (fun i=>∃ k:Nat,k<=s.size/\i=.int .i64 k/\(s.data.toList.take k).all (·<=15)=true) (fun i=>s.size - (intOf i).toNat)
 case atStart=>exact⟨0,cC _,rfl,rfl⟩
 case round =>
  obtain⟨k,Z,rfl,q⟩:=hrel
  by_cases hlt:k < s.size
  ·have o:=jta s hlt (·<=15)
   rw[q]at o;have H:=Lib.hid o;clear o;go_wp2
   ·have J:15 < (s[k].toNat:Int):=by assumption
    go_ret
    refine⟨?_,rfl⟩
    have K:decide (s[k]<=15)=false:=by
     simp only[decide_eq_false_iff_not,fT]
     have:(15:vU).toNat=15:=rfl
     omega
    have O:jaM s=false:=by
     have z:=H.out;simp only[K,Bool.and_false]at z;unfold jaM;rw[<-dF (k+1) s.data.toList,List.all_append,z];rfl
    rw[O];rfl
   ·have Q:(s[k].toNat:Int)<=15:=by assumption
    have X:decide (s[k]<=15)=true:=by
     simp only[decide_eq_true_eq,fT]
     have:(15:vU).toNat=15:=rfl
     omega
    have z:=H.out;simp only[X,Bool.and_true]at z;go_round
    case rel=>exact⟨k+1,by omega,by go_num,z⟩
    case measure=>exact vJ
  ·have E:k=s.size:=vO
   have hv:jaM s=true:=by
    unfold jaM;rw[<-q,E,cD]
    simp
   go_wp2;go_ret
   exact⟨rfl,rfl⟩
def jba:vN->vN->Nat
 | x :: r,y :: t=>if x=y then jba r t+1 else 0
 | _,_=>0
theorem jev:∀ (a b:vN) (k:Nat),a.take k=b.take k->k<=a.length->k<=b.length->jba a b=k+jba (a.drop k) (b.drop k)
 | _,_,0,_,_,_=>by simp
 | x :: r,y :: t,k+1,h,h1,h2=>by
  simp only[fF,List.cons.injEq]at h;simp only[List.drop_succ_cons,jba,h.1,if_true];rw[jev r t k h.2 (by simpa using h1) (by simpa using h2)];omega
 | [],_,k+1,_,h1,_=>by simp at h1
 | _ :: _,[],k+1,_,_,h2=>by simp at h2
def jap(a b:vB):Nat:=jba a.data.toList b.data.toList
theorem jqX(s:vB){k:Nat}(h:k < s.size):s.data.toList.drop k=s[k] :: s.data.toList.drop (k+1):=by
 have e:k < s.data.toList.length:=by simpa using h
 rw[iI e];simp;rfl
theorem jhU{s t:vB}{k:Nat}(h:s.data.toList.take k=t.data.toList.take k)(h1:k < s.size)(h2:k < t.size)(hne:((s[k].toNat:Int) !=(t[k].toNat:Int))=true):jap s t=k:=by
 have o:s[k]≠t[k]:=fun e=>by rw[e]at hne;simp at hne
 unfold jap;rw[jev _ _ k h (by simpa using Nat.le_of_lt h1) (by simpa using Nat.le_of_lt h2),jqX s h1,jqX t h2];simp[jba,o]
theorem jhT{s t:vB}{k:Nat}(h:s.data.toList.take k=t.data.toList.take k)(h1:k < s.size)(h2:k < t.size)(heq:((s[k].toNat:Int) !=(t[k].toNat:Int))=false):s.data.toList.take (k+1)=t.data.toList.take (k+1):=by
 have q:s[k]=t[k]:=by
  have:(s[k].toNat:Int)=t[k].toNat:=by simpa using heq
  exact dP.1 vO
 have e:k < s.data.toList.length:=by simpa using h1
 have o:k < t.data.toList.length:=by simpa using h2
 rw[cR e,cR o,h]
 congr 2
theorem jpd:∀ (a b:vN),(a=[]\/b=[])->jba a b=0
 | [],_,_=>by simp[jba]
 | _ :: _,[],_=>by simp[jba]
 | _ :: _,_ :: _,h=>by simp at h
theorem ji7{s t:vB}{k:Nat}(h:s.data.toList.take k=t.data.toList.take k)(h1:k<=s.size)(h2:k<=t.size)(he:s.size<=k\/t.size<=k):jap s t=k:=by
 unfold jap;rw[jev _ _ k h (by simpa using h1) (by simpa using h2),jpd]
 ·rfl
 rcases he with e | e
 ·exact .inl (List.drop_eq_nil_of_le (by simpa using e))
 ·exact .inr (List.drop_eq_nil_of_le (by simpa using e))
theorem jfn(w:vW)(s t:vB)(K:s.size<=1000000000)(ht:t.size<=1000000000):vQ 110 #[.string s,.string t] w fun e w'=>e=.returned (.int .i64 (jap s t))/\∃ n,w'=w.drewN n:=by
 go_enter Tryz.func110,Tryz.ntmps110;go_wp2
 ·go_loopw [13] (fun i wr=>∃ k:Nat,k<=s.size/\k<=t.size/\i=.int .i64 k/\s.data.toList.take k=t.data.toList.take k/\∃ n,wr=w.drewN n) (fun i _=>s.size+1 - (intOf i).toNat)
  case atStart=>exact⟨0,cC _,cC _,rfl,rfl,0,rfl⟩
  case round =>
   obtain⟨k,Q,O,rfl,o,X,rfl⟩:=hrel
   have q:=Lib.hid o;clear o
   by_cases hlt:k < t.size
   ·have H:k < s.size:=vO
    have J:k < t.size:=vO
    go_wp2_with fail
    go_quiet (fail)
    go_wp2
    ·have z:((s[k].toNat:Int) !=(t[k].toNat:Int))=true:=by assumption
     go_ret
     exact⟨by rw[jhU q.out H J z];rfl,_,World.drewN_drewN ..⟩
    ·have E:((s[k].toNat:Int) !=(t[k].toNat:Int))=false:=by assumption
     have K:=jhT q.out H J E;go_roundw
     case rel=>exact⟨k+1,by omega,by omega,by go_num,K,_,rfl⟩
     case measure=>exact vJ
   ·go_wp2
    go_ret
    exact⟨by rw[ji7 q.out vO vO vO,show k=t.size by omega];rfl,_,rfl⟩
 ·go_loopw [13] (fun i wr=>∃ k:Nat,k<=s.size/\k<=t.size/\i=.int .i64 k/\s.data.toList.take k=t.data.toList.take k/\∃ n,wr=w.drewN n) (fun i _=>s.size+1 - (intOf i).toNat)
  case atStart=>exact⟨0,cC _,cC _,rfl,rfl,0,rfl⟩
  case round =>
   obtain⟨k,Q,O,rfl,o,X,rfl⟩:=hrel
   have q:=Lib.hid o;clear o
   by_cases hlt:k < s.size
   ·have H:k < s.size:=vO
    have J:k < t.size:=vO
    go_wp2_with fail
    go_quiet (fail)
    go_wp2
    ·have z:((s[k].toNat:Int) !=(t[k].toNat:Int))=true:=by assumption
     go_ret
     exact⟨by rw[jhU q.out H J z];rfl,_,World.drewN_drewN ..⟩
    ·have E:((s[k].toNat:Int) !=(t[k].toNat:Int))=false:=by assumption
     have K:=jhT q.out H J E;go_roundw
     case rel=>exact⟨k+1,by omega,by omega,by go_num,K,_,rfl⟩
     case measure=>exact vJ
   ·go_wp2
    go_ret
    exact⟨by rw[ji7 q.out vO vO vO,show k=s.size by omega];rfl,_,rfl⟩
def jx9(leaf odd:Bool):Int:=(if leaf then 2 else 0)+(if odd then 1 else 0)
theorem jya(w:vW)(leaf odd:Bool):vQ 202 #[.bool leaf,.bool odd] w fun e w'=>e=.returned (.int .u8 (jx9 leaf odd))/\w'=w:=by
 cases leaf <;> cases odd
 all_goals
  go_enter Tryz.func202,Tryz.ntmps202;go_wp2;go_ret
  exact⟨rfl,rfl⟩
end Go.Proofs.YtmobgkphhbmhbaaGreatDoor
