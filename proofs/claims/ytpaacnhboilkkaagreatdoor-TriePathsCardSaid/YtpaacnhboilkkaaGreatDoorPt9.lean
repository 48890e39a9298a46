/- Parts of the proof, one behind the other: NodeA. Each is under no condition but those that it states. -/
import Derived.Test.YtpaacnhboilkkaaGreatDoorPt6
import Derived.Test.YtpaacnhboilkkaaGreatDoorPt8
namespace Go.Proofs.YtpaacnhboilkkaaGreatDoor
set_option linter.unusedSimpArgs false
set_option linter.unusedVariables false
set_option maxRecDepth 100000
set_option maxHeartbeats 16000000
section
open Go Go.RowKit
theorem outL_len(ws:List UInt32):(outL ws).length=4 * ws.length:=by
 unfold outL
 induction ws with
 | nil=>rfl
 | cons x r ih=>rw[List.flatMap_cons,List.length_append,ih];simp[wBytes];omega
theorem sumB_size(s:HSt)(sz:UInt64):(sumB s sz).size=32:=by
 rw[Lib.size_eq];unfold sumB
 rw[List.toList_toArray,outL_len];rfl
theorem shaB_size(s:ByteArray):(shaB s).size=32:=sumB_size _ _
def refB(s:ByteArray):ByteArray:=if s.size < 32 then s else textB (shaB s)
theorem ref_c(w:World)(s:ByteArray)(hc:Cubes w):Calls Tryz.prog 155 #[.string s] w fun e w'=>e=.returned (.string (refB s))∧Ext w w':=by
 have HC:=Hd hc
 clear hc
 by_cases hlt:s.size < 32
 ·have hq:(s.size:Int) < 32:=by omega
  go_enter Tryz.func155,Tryz.ntmps155
  go_wp2_with fail
  go_ret
  exact⟨by unfold refB;rw[if_pos hlt];rfl,ExtR w⟩
 ·have hq:¬(s.size:Int) < 32:=by omega
  go_enter Tryz.func155,Tryz.ntmps155
  go_wp2_with fail
  refine (of_t _ _ [s] (by simp) (rds_one (ExtR _)) (HC.out.ext ((ExtR w).alloc _))).mono ?_
  rintro e w1 ⟨rfl,hE1⟩
  rw[catB_one]
  have HE1:Hid (Ext w w1):=Hd (((ExtR w).alloc _).trans hE1)
  clear hE1
  obtain⟨h,hh⟩:∃ h,h=shaB s:=⟨_,rfl⟩
  have hhs:h.size≤1000000000:=by rw[hh,shaB_size];omega
  rw[←hh]
  have HH:=Hd hh
  clear hh
  go_wp2_with fail
  refine (text_c w1 h hhs).mono ?_
  rintro e w2 ⟨rfl,hE2⟩
  have HE2:=Hd (HE1.out.trans hE2)
  clear hE2 hhs
  go_wp2_with fail
  go_ret
  exact⟨by unfold refB;rw[if_neg hlt, ←HH.out];rfl,HE2.out⟩
def plainB(s:ByteArray)(r:Bool × Nat × Nat):Option ByteArray:=if r.1=false∧r.2.1+r.2.2=s.size then some (s.extract r.2.1 (r.2.1+r.2.2))else none
def optV:Option ByteArray→Value
 | some x=>.tuple #[.string x,.bool true]
 | none=>.tuple #[.string ⟨#[]⟩,.bool false]
theorem cutN_le{s:ByteArray}{r:Bool × Nat × Nat}(h:cutN s=some r):r.2.1+r.2.2≤s.size:=by
 unfold cutN at h
 by_cases h0:0 < s.size
 ·rw[dif_pos h0]at h
  simp only at h
  by_cases h1:s[0].toNat < 128
  ·rw[if_pos h1]at h
   obtain rfl:=Option.some.inj h;simp only;omega
  ·rw[if_neg h1]at h
   obtain⟨lm,hlm⟩:∃ lm:Bool × Nat,lm=if s[0].toNat < 192 then (false,s[0].toNat - 128)else (true,s[0].toNat - 192):=⟨_,rfl⟩
   rw[←hlm]at h
   clear hlm
   obtain⟨l,m⟩:=lm
   simp only at h
   by_cases h3:m≤55
   ·rw[if_pos h3]at h
    split at h
    ·rename_i hc;obtain rfl:=Option.some.inj h;exact hc.1
    ·cases h
   ·rw[if_neg h3]at h
    split at h
    ·split at h
     ·rename_i hc;obtain rfl:=Option.some.inj h;exact hc
     ·cases h
    ·cases h
 ·rw[dif_neg h0]at h;cases h
theorem plain_c(w:World)(s:ByteArray)(r:Bool × Nat × Nat)(hs:s.size≤1000000000)(h:cutN s=some r):Calls Tryz.prog 149 #[.string s] w fun e w'=>e=.returned (optV (plainB s r))∧Ext w w':=by
 have hle:=cutN_le h
 go_enter Tryz.func149,Tryz.ntmps149
 go_wp2_with fail
 refine (split_c w s r hs h).mono ?_
 rintro e w1 ⟨rfl,hE⟩
 obtain⟨x,hx⟩:∃ x,x=s.extract r.2.1 (r.2.1+r.2.2):=⟨_,rfl⟩
 obtain⟨y,hy⟩:∃ x,x=s.extract (r.2.1+r.2.2) s.size:=⟨_,rfl⟩
 have hys:y.size=s.size - (r.2.1+r.2.2):=by rw[hy];simp[ByteArray.size_extract]
 rw[←hx, ←hy]
 obtain⟨l,p⟩:=r
 simp only at hys hle
 have HE:=Hd hE
 have HX:=Hd hx
 clear hE h hx hy hs
 simp only
 cases l with
 | true =>
  go_wp2_with fail
  exact bodyPost_ret (v:=optV none) (by kernel_rfl) rfl ⟨by unfold plainB;rw[if_neg (by simp)],HE.out⟩
 | false =>
  by_cases he:p.1+p.2=s.size
  ·have hy0:y=⟨#[]⟩:=by
    have:y.size=0:=by omega
    obtain⟨⟨l⟩⟩:=y
    cases l with
    | nil=>rfl
    | cons x y=>exact absurd this (Nat.succ_ne_zero _)
   subst hy0
   clear hys
   go_wp2_with fail
   exact bodyPost_ret (v:=optV (some x)) (by kernel_rfl) rfl ⟨by unfold plainB;rw[if_pos ⟨rfl,he⟩,HX.out],HE.out⟩
  ·have hne:=ne_empty (s:=y) (by omega)
   clear hys
   go_wp2_with fail
   exact bodyPost_ret (v:=optV none) (by kernel_rfl) rfl ⟨by unfold plainB;rw[if_neg (by simp[he])],HE.out⟩
def hashB(s:ByteArray)(r:Bool × Nat × Nat):Option ByteArray:=(plainB s r).filter (fun x=>x.size=32)
theorem hash_c(w:World)(s:ByteArray)(r:Bool × Nat × Nat)(hs:s.size≤1000000000)(h:cutN s=some r):Calls Tryz.prog 110 #[.string s] w fun e w'=>e=.returned (optV (hashB s r))∧Ext w w':=by
 go_enter Tryz.func110,Tryz.ntmps110
 go_wp2_with fail
 refine (plain_c w s r hs h).mono ?_
 rintro e w1 ⟨rfl,hE⟩
 have HE:=Hd hE
 have hb:hashB s r=(plainB s r).filter (fun x=>x.size=32):=rfl
 obtain⟨o,ho⟩:∃ o,o=plainB s r:=⟨_,rfl⟩
 rw[←ho]at hb ⊢
 have HB:=Hd hb
 clear hE h hs ho hb
 cases o with
 | none =>
  unfold optV
  simp only
  go_wp2_with fail
  exact bodyPost_ret (v:=optV none) (by kernel_rfl) rfl ⟨by rw[HB.out];rfl,HE.out⟩
 | some x =>
  unfold optV
  simp only
  by_cases hx:x.size=32
  ·have hq:((x.size:Int) == 32)=true:=by simp;omega
   have hq':(x.size:Int)=32:=by omega
   go_wp2_with fail
   exact bodyPost_ret (v:=optV (some x)) (by kernel_rfl) rfl ⟨by rw[HB.out];simp[Option.filter,hx],HE.out⟩
  ·have hq:((x.size:Int) == 32)=false:=by simp;omega
   have hq':¬(x.size:Int)=32:=by omega
   go_wp2_with fail
   exact bodyPost_ret (v:=optV none) (by kernel_rfl) rfl ⟨by rw[HB.out];simp[Option.filter,hx],HE.out⟩
end
end Go.Proofs.YtpaacnhboilkkaaGreatDoor
