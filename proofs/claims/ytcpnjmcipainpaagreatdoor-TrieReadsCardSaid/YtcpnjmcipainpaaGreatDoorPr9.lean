/- Lemmas; each is under no condition but those that it states. -/
import Derived.Test.YtcpnjmcipainpaaGreatDoorPr0
import Derived.BigQuiet
import Derived.Lib.Hide
namespace Go.Proofs.YtcpnjmcipainpaaGreatDoor
set_option linter.unusedSimpArgs false
set_option linter.unusedVariables false
set_option maxRecDepth 100000
set_option maxHeartbeats 16000000
open Go Go.RowKit
def jat(s:vB):Bool:=s.data.toList.all (·<=15)
theorem jmR(s:vB){k:Nat}(h:k < s.size)(p:UInt8->Bool):(s.data.toList.take (k+1)).all p=((s.data.toList.take k).all p && p s[k]):=by
 have hl:k < s.data.toList.length:=by simpa using h
 rw[List.take_succ_eq_append_getElem hl,List.all_append]
 simp
 rfl
theorem jkg(w:World)(s:vB)(hs:s.size<=1000000000):vQ 203 #[.string s] w fun e w'=>e=.returned (.bool (jat s))/\w'=w:=by
 go_enter Tryz.func203,Tryz.ntmps203;go_wp2;go_loop [6] (fun i=>∃ k:Nat,k<=s.size/\i=.int .i64 k/\(s.data.toList.take k).all (·<=15)=true) (fun i=>s.size - (intOf i).toNat)
 case atStart=>exact⟨0,Nat.zero_le _,rfl,rfl⟩
 case round =>
  obtain⟨k,hk,rfl,hall⟩:=hrel
  by_cases hlt:k < s.size
  ·have hall':=jmR s hlt (·<=15)
   rw[hall]at hall';have HN:=Lib.hid hall';clear hall';go_wp2
   ·have hgt:15 < (s[k].toNat:Int):=by assumption
    go_ret
    refine⟨?_,rfl⟩
    have hf:decide (s[k]<=15)=false:=by
     simp only[decide_eq_false_iff_not,UInt8.le_iff_toNat_le]
     have:(15:UInt8).toNat=15:=rfl
     omega
    have h2:jat s=false:=by
     have h3:=HN.out;simp only[hf,Bool.and_false]at h3;unfold jat;rw[<-List.take_append_drop (k+1) s.data.toList,List.all_append,h3];rfl
    rw[h2];rfl
   ·have hle:(s[k].toNat:Int)<=15:=by assumption
    have ht:decide (s[k]<=15)=true:=by
     simp only[decide_eq_true_eq,UInt8.le_iff_toNat_le]
     have:(15:UInt8).toNat=15:=rfl
     omega
    have h3:=HN.out;simp only[ht,Bool.and_true]at h3;go_round
    case rel=>exact⟨k+1,by omega,by go_num,h3⟩
    case measure=>simp[intOf];omega
  ·have hks:k=s.size:=by omega
   have hv:jat s=true:=by
    unfold jat;rw[<-hall,hks,List.take_of_length_le]
    simp
   go_wp2;go_ret
   exact⟨rfl,rfl⟩
def jaV:List UInt8->List UInt8->Nat
 | x :: r,y :: t=>if x=y then jaV r t+1 else 0
 | _,_=>0
theorem jdu:∀ (a b:List UInt8) (k:Nat),a.take k=b.take k->k<=a.length->k<=b.length->jaV a b=k+jaV (a.drop k) (b.drop k)
 | _,_,0,_,_,_=>by simp
 | x :: r,y :: t,k+1,h,h1,h2=>by
  simp only[List.take_succ_cons,List.cons.injEq]at h;simp only[List.drop_succ_cons,jaV,h.1,if_true];rw[jdu r t k h.2 (by simpa using h1) (by simpa using h2)];omega
 | [],_,k+1,_,h1,_=>by simp at h1
 | _ :: _,[],k+1,_,_,h2=>by simp at h2
def jak(a b:vB):Nat:=jaV a.data.toList b.data.toList
theorem jjt(s:vB){k:Nat}(h:k < s.size):s.data.toList.drop k=s[k] :: s.data.toList.drop (k+1):=by
 have hl:k < s.data.toList.length:=by simpa using h
 rw[List.drop_eq_getElem_cons hl];simp;rfl
theorem jht{s t:vB}{k:Nat}(h:s.data.toList.take k=t.data.toList.take k)(h1:k < s.size)(h2:k < t.size)(hne:((s[k].toNat:Int) !=(t[k].toNat:Int))=true):jak s t=k:=by
 have hn:s[k]≠t[k]:=fun e=>by rw[e]at hne;simp at hne
 unfold jak;rw[jdu _ _ k h (by simpa using Nat.le_of_lt h1) (by simpa using Nat.le_of_lt h2),jjt s h1,jjt t h2];simp[jaV,hn]
theorem jhs{s t:vB}{k:Nat}(h:s.data.toList.take k=t.data.toList.take k)(h1:k < s.size)(h2:k < t.size)(heq:((s[k].toNat:Int) !=(t[k].toNat:Int))=false):s.data.toList.take (k+1)=t.data.toList.take (k+1):=by
 have he:s[k]=t[k]:=by
  have:(s[k].toNat:Int)=t[k].toNat:=by simpa using heq
  exact UInt8.toNat_inj.1 vO
 have l1:k < s.data.toList.length:=by simpa using h1
 have l2:k < t.data.toList.length:=by simpa using h2
 rw[List.take_succ_eq_append_getElem l1,List.take_succ_eq_append_getElem l2,h]
 congr 2
theorem jgu:∀ (a b:List UInt8),(a=[]\/b=[])->jaV a b=0
 | [],_,_=>by simp[jaV]
 | _ :: _,[],_=>by simp[jaV]
 | _ :: _,_ :: _,h=>by simp at h
theorem jiM{s t:vB}{k:Nat}(h:s.data.toList.take k=t.data.toList.take k)(h1:k<=s.size)(h2:k<=t.size)(he:s.size<=k\/t.size<=k):jak s t=k:=by
 unfold jak;rw[jdu _ _ k h (by simpa using h1) (by simpa using h2),jgu]
 ·rfl
 rcases he with e | e
 ·exact .inl (List.drop_eq_nil_of_le (by simpa using e))
 ·exact .inr (List.drop_eq_nil_of_le (by simpa using e))
theorem jfa(w:World)(s t:vB)(hs:s.size<=1000000000)(ht:t.size<=1000000000):vQ 124 #[.string s,.string t] w fun e w'=>e=.returned (.int .i64 (jak s t))/\∃ n,w'=w.drewN n:=by
 go_enter Tryz.func124,Tryz.ntmps124;go_wp2
 ·go_loopw [13] (fun i wr=>∃ k:Nat,k<=s.size/\k<=t.size/\i=.int .i64 k/\s.data.toList.take k=t.data.toList.take k/\∃ n,wr=w.drewN n) (fun i _=>s.size+1 - (intOf i).toNat)
  case atStart=>exact⟨0,Nat.zero_le _,Nat.zero_le _,rfl,rfl,0,rfl⟩
  case round =>
   obtain⟨k,hk,hk',rfl,hall,nw,rfl⟩:=hrel
   have HA:=Lib.hid hall;clear hall
   by_cases hlt:k < t.size
   ·have h1:k < s.size:=by omega
    have h2:k < t.size:=by omega
    go_wp2_with fail
    go_quiet (fail)
    go_wp2
    ·have hne:((s[k].toNat:Int) !=(t[k].toNat:Int))=true:=by assumption
     go_ret
     exact⟨by rw[jht HA.out h1 h2 hne];rfl,_,World.drewN_drewN ..⟩
    ·have heq:((s[k].toNat:Int) !=(t[k].toNat:Int))=false:=by assumption
     have hs:=jhs HA.out h1 h2 heq;go_roundw
     case rel=>exact⟨k+1,by omega,by omega,by go_num,hs,_,rfl⟩
     case measure=>simp[intOf];omega
   ·go_wp2
    go_ret
    exact⟨by rw[jiM HA.out vO vO vO,show k=t.size by omega];rfl,_,rfl⟩
 ·go_loopw [13] (fun i wr=>∃ k:Nat,k<=s.size/\k<=t.size/\i=.int .i64 k/\s.data.toList.take k=t.data.toList.take k/\∃ n,wr=w.drewN n) (fun i _=>s.size+1 - (intOf i).toNat)
  case atStart=>exact⟨0,Nat.zero_le _,Nat.zero_le _,rfl,rfl,0,rfl⟩
  case round =>
   obtain⟨k,hk,hk',rfl,hall,nw,rfl⟩:=hrel
   have HA:=Lib.hid hall;clear hall
   by_cases hlt:k < s.size
   ·have h1:k < s.size:=by omega
    have h2:k < t.size:=by omega
    go_wp2_with fail
    go_quiet (fail)
    go_wp2
    ·have hne:((s[k].toNat:Int) !=(t[k].toNat:Int))=true:=by assumption
     go_ret
     exact⟨by rw[jht HA.out h1 h2 hne];rfl,_,World.drewN_drewN ..⟩
    ·have heq:((s[k].toNat:Int) !=(t[k].toNat:Int))=false:=by assumption
     have hs:=jhs HA.out h1 h2 heq;go_roundw
     case rel=>exact⟨k+1,by omega,by omega,by go_num,hs,_,rfl⟩
     case measure=>simp[intOf];omega
   ·go_wp2
    go_ret
    exact⟨by rw[jiM HA.out vO vO vO,show k=s.size by omega];rfl,_,rfl⟩
def jxk(leaf odd:Bool):Int:=(if leaf then 2 else 0)+(if odd then 1 else 0)
theorem jxl(w:World)(leaf odd:Bool):vQ 249 #[.bool leaf,.bool odd] w fun e w'=>e=.returned (.int .u8 (jxk leaf odd))/\w'=w:=by
 cases leaf <;> cases odd
 all_goals
  go_enter Tryz.func249,Tryz.ntmps249;go_wp2;go_ret
  exact⟨rfl,rfl⟩
end Go.Proofs.YtcpnjmcipainpaaGreatDoor
