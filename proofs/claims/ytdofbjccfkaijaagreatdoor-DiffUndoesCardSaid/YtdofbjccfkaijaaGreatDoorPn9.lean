/- Lemmas; each is under no condition but those that it states. -/
import Derived.Test.YtdofbjccfkaijaaGreatDoorPn0
import Derived.BigQuiet
import Derived.Lib.Hide
namespace Go.Proofs.YtdofbjccfkaijaaGreatDoor
set_option linter.unusedSimpArgs false
set_option linter.unusedVariables false
set_option maxRecDepth 100000
set_option maxHeartbeats 16000000
open Go Go.RowKit
def jaB(s:vB):Bool:=s.data.toList.all (·<=15)
theorem jor(s:vB){k:Nat}(h:k < s.size)(p:vU->Bool):(s.data.toList.take (k+1)).all p=((s.data.toList.take k).all p && p s[k]):=by
 have e:k < s.data.toList.length:=by simpa using h
 rw[cT e,jB]
 simp
 rfl
theorem jll(w:vW)(s:vB)(hs:s.size<=1000000000):vQ 114 #[.string s] w fun e w'=>e=.returned (.bool (jaB s))/\w'=w:=by
 unfold vQ;go_in;go_wp2;go_loop [6] (fun i=>∃ k:Nat,k<=s.size/\i=.int .i64 k/\(s.data.toList.take k).all (·<=15)=true) (fun i=>s.size - (intOf i).toNat)
 case atStart=>exact⟨0,cE _,rfl,rfl⟩
 case round =>
  obtain⟨k,Z,rfl,z⟩:=hrel
  by_cases hlt:k < s.size
  ·have o:=jor s hlt (·<=15)
   rw[z]at o;have H:=Lib.hid o;clear o;go_wp2
   ·have J:15 < (s[k].toNat:Int):=by assumption
    go_ret
    refine⟨?_,rfl⟩
    have K:decide (s[k]<=15)=false:=by
     simp only[decide_eq_false_iff_not,dY]
     have:(15:vU).toNat=15:=rfl
     omega
    have O:jaB s=false:=by
     have A:=H.out;simp only[K,iF]at A;unfold jaB;rw[<-cX (k+1) s.data.toList,jB,A];rfl
    rw[O];rfl
   ·have Q:(s[k].toNat:Int)<=15:=by assumption
    have X:decide (s[k]<=15)=true:=by
     simp only[decide_eq_true_eq,dY]
     have:(15:vU).toNat=15:=rfl
     omega
    have A:=H.out;simp only[X,Bool.and_true]at A;go_round
    case rel=>exact⟨k+1,by omega,by go_num,A⟩
    case measure=>exact vJ
  ·have E:k=s.size:=vO
   have hv:jaB s=true:=by
    unfold jaB;rw[<-z,E,bN]
    simp
   go_wp2;go_ret
   exact⟨rfl,rfl⟩
def ja0:vN->vN->Nat
 | x :: r,y :: t=>if x=y then ja0 r t+1 else 0
 | _,_=>0
theorem jdQ:∀ (a b:vN) (k:Nat),a.take k=b.take k->k<=a.length->k<=b.length->ja0 a b=k+ja0 (a.drop k) (b.drop k)
 | _,_,0,_,_,_=>by simp
 | x :: r,y :: t,k+1,h,h1,h2=>by
  simp only[dZ,List.cons.injEq]at h;simp only[iN,ja0,h.1,if_true];rw[jdQ r t k h.2 (by simpa using h1) (by simpa using h2)];omega
 | [],_,k+1,_,h1,_=>by simp at h1
 | _ :: _,[],k+1,_,_,h2=>by simp at h2
def jal(a b:vB):Nat:=ja0 a.data.toList b.data.toList
theorem jkw(s:vB){k:Nat}(h:k < s.size):s.data.toList.drop k=s[k] :: s.data.toList.drop (k+1):=by
 have e:k < s.data.toList.length:=by simpa using h
 rw[fY e];simp;rfl
theorem jim{s t:vB}{k:Nat}(h:s.data.toList.take k=t.data.toList.take k)(h1:k < s.size)(h2:k < t.size)(hne:((s[k].toNat:Int) !=(t[k].toNat:Int))=true):jal s t=k:=by
 have o:s[k]≠t[k]:=fun e=>by rw[e]at hne;simp at hne
 unfold jal;rw[jdQ _ _ k h (by simpa using Nat.le_of_lt h1) (by simpa using Nat.le_of_lt h2),jkw s h1,jkw t h2];simp[ja0,o]
theorem jil{s t:vB}{k:Nat}(h:s.data.toList.take k=t.data.toList.take k)(h1:k < s.size)(h2:k < t.size)(heq:((s[k].toNat:Int) !=(t[k].toNat:Int))=false):s.data.toList.take (k+1)=t.data.toList.take (k+1):=by
 have z:s[k]=t[k]:=by
  have:(s[k].toNat:Int)=t[k].toNat:=by simpa using heq
  exact dP.1 vO
 have e:k < s.data.toList.length:=by simpa using h1
 have o:k < t.data.toList.length:=by simpa using h2
 rw[cT e,cT o,h]
 congr 2
theorem jhe:∀ (a b:vN),(a=[]\/b=[])->ja0 a b=0
 | [],_,_=>by simp[ja0]
 | _ :: _,[],_=>by simp[ja0]
 | _ :: _,_ :: _,h=>by simp at h
theorem jjG{s t:vB}{k:Nat}(h:s.data.toList.take k=t.data.toList.take k)(h1:k<=s.size)(h2:k<=t.size)(he:s.size<=k\/t.size<=k):jal s t=k:=by
 unfold jal;rw[jdQ _ _ k h (by simpa using h1) (by simpa using h2),jhe]
 ·rfl
 rcases he with e | e
 ·exact .inl (List.drop_eq_nil_of_le (by simpa using e))
 ·exact .inr (List.drop_eq_nil_of_le (by simpa using e))
theorem jfA(w:vW)(s t:vB)(K:s.size<=1000000000)(ht:t.size<=1000000000):vQ 47 #[.string s,.string t] w fun e w'=>e=.returned (.int .i64 (jal s t))/\∃ n,w'=w.drewN n:=by
 unfold vQ;go_in;go_wp2
 ·go_loopw [13] (fun i wr=>∃ k:Nat,k<=s.size/\k<=t.size/\i=.int .i64 k/\s.data.toList.take k=t.data.toList.take k/\∃ n,wr=w.drewN n) (fun i _=>s.size+1 - (intOf i).toNat)
  case atStart=>exact⟨0,cE _,cE _,rfl,rfl,0,rfl⟩
  case round =>
   obtain⟨k,Q,O,rfl,o,X,rfl⟩:=hrel
   have z:=Lib.hid o;clear o
   by_cases hlt:k < t.size
   ·have H:k < s.size:=vO
    have J:k < t.size:=vO
    go_wp2_with fail
    go_quiet (fail)
    go_wp2
    ·have A:((s[k].toNat:Int) !=(t[k].toNat:Int))=true:=by assumption
     go_ret
     exact⟨by rw[jim z.out H J A];rfl,_,World.drewN_drewN ..⟩
    ·have E:((s[k].toNat:Int) !=(t[k].toNat:Int))=false:=by assumption
     have K:=jil z.out H J E;go_roundw
     case rel=>exact⟨k+1,by omega,by omega,by go_num,K,_,rfl⟩
     case measure=>exact vJ
   ·go_wp2
    go_ret
    exact⟨by rw[jjG z.out vO vO vO,show k=t.size by omega];rfl,_,rfl⟩
 ·go_loopw [13] (fun i wr=>∃ k:Nat,k<=s.size/\k<=t.size/\i=.int .i64 k/\s.data.toList.take k=t.data.toList.take k/\∃ n,wr=w.drewN n) (fun i _=>s.size+1 - (intOf i).toNat)
  case atStart=>exact⟨0,cE _,cE _,rfl,rfl,0,rfl⟩
  case round =>
   obtain⟨k,Q,O,rfl,o,X,rfl⟩:=hrel
   have z:=Lib.hid o;clear o
   by_cases hlt:k < s.size
   ·have H:k < s.size:=vO
    have J:k < t.size:=vO
    go_wp2_with fail
    go_quiet (fail)
    go_wp2
    ·have A:((s[k].toNat:Int) !=(t[k].toNat:Int))=true:=by assumption
     go_ret
     exact⟨by rw[jim z.out H J A];rfl,_,World.drewN_drewN ..⟩
    ·have E:((s[k].toNat:Int) !=(t[k].toNat:Int))=false:=by assumption
     have K:=jil z.out H J E;go_roundw
     case rel=>exact⟨k+1,by omega,by omega,by go_num,K,_,rfl⟩
     case measure=>exact vJ
   ·go_wp2
    go_ret
    exact⟨by rw[jjG z.out vO vO vO,show k=s.size by omega];rfl,_,rfl⟩
def jz3(leaf odd:Bool):Int:=(if leaf then 2 else 0)+(if odd then 1 else 0)
theorem jz4(w:vW)(leaf odd:Bool):vQ 169 #[.bool leaf,.bool odd] w fun e w'=>e=.returned (.int .u8 (jz3 leaf odd))/\w'=w:=by
 cases leaf <;> cases odd
 all_goals
  unfold vQ;go_in;go_wp2;go_ret
  exact⟨rfl,rfl⟩
