/- Parts of the proof, one behind the other: CanonLaid, RlpC, NodeA. Each is under no condition but those that it states. -/
import Derived.Test.YtpaacnhboilkkaaGreatDoorPh8
import Derived.Test.YtpaacnhboilkkaaGreatDoorPh7
import Derived.Test.YtpaacnhboilkkaaGreatDoorCards
import Derived.Test.YtpaacnhboilkkaaGreatDoorTie
import Derived.Lib.LaidTab
import Derived.LaidSub
namespace Go.Proofs.YtpaacnhboilkkaaGreatDoor
set_option linter.unusedSimpArgs false
set_option linter.unusedVariables false
set_option maxRecDepth 100000
set_option maxHeartbeats 16000000
section
open Go Go.RowKit
def jpu:List Int:=jho.map fun x=>(x.toNat:Int)
theorem jpv:(Rows.laid_guilloche_sha_cubes:DataW Unit)=Lib.tabData .u32 jpu:=by kernel_rfl
theorem Tryz.gCubes:Tryz.prog.globalNamed "guilloche/sha.cubes"=some 0:=by kernel_rfl
theorem Tryz.gCubesType:(Tryz.prog.globals[0]?).map (·.type)=some 238:=by kernel_rfl
theorem Tryz.uCubes:Tryz.prog.underlying 238=some (.array 64 194):=by kernel_rfl
theorem Tryz.cellsU32:Tryz.prog.cellsOf 194=1:=by kernel_rfl
theorem Tryz.cellsCubes:Tryz.prog.cellsOf 238=64:=by kernel_rfl
theorem jrY{W:World}(h:laidMetH Tryz.prog [("errors.errorType",Rows.laid_errors_errorType),("guilloche/sha.cubes",Rows.laid_guilloche_sha_cubes)] W):jch W:=by
 have h1:laidMet Tryz.prog [("guilloche/sha.cubes",Rows.laid_guilloche_sha_cubes)] W:=(laidMetH_iff.1 h).1;rw[jpv]at h1;have ht:=Lib.tabIs_of_head Tryz.gCubes Tryz.gCubesType Tryz.uCubes Tryz.uU32 Tryz.cellsU32 Tryz.cellsCubes h1;intro i hi
 have:=ht.cell Tryz.gCubes i (by unfold jpu;rw[List.length_map];exact hi)
 rw[this];unfold jpu wv;simp only[List.getD_eq_getElem?_getD,List.getElem?_map];cases jho[i]? <;> rfl
def cutN(s:ByteArray):Option (Bool × Nat × Nat):=
 if h:0 < s.size then
  let b:=s[0].toNat
  if b < 128 then some (false,0,1)
  else
   let (l,m):=if b < 192 then (false,b - 128)else (true,b - 192)
   if m≤55 then
    if 1+m≤s.size∧(l=true∨m≠1∨128≤(s.data.toList.getD 1 0).toNat)then some (l,1,m)else none
   else match lenB s (1+(m - 55))with
    | some n=>if 1+(m - 55)+n≤s.size then some (l,1+(m - 55),n)else none
    | none=>none
 else none
theorem jwh(w:World)(s:ByteArray)(r:Bool × Nat × Nat)(hs:s.size≤1000000000)(h:cutN s=some r):Calls Tryz.prog 210 #[.string s] w fun e w'=>e=.returned (jdH s r)∧Ext w w':=by
 unfold cutN at h
 by_cases h0:0 < s.size
 ·rw[dif_pos h0]at h
  simp only at h;have hb:=s[0].toNat_lt
  by_cases h1:s[0].toNat < 128
  ·rw[if_pos h1]at h
   cases h;exact jpA w s hs h0 (by omega)
  ·rw[if_neg h1]at h
   by_cases h2:s[0].toNat < 192
   ·rw[if_pos h2]at h
    simp only at h
    by_cases h3:s[0].toNat - 128≤55
    ·rw[if_pos h3]at h
     split at h
     ·rename_i hc
      cases h;refine jr4 w s (s[0].toNat - 128) hs h0 (by omega) h3 hc.1 ?_;rcases hc.2 with hc | hc | hc
      ·cases hc
      ·exact .inl hc
      ·have h5:1 < s.size:=by
        rcases Nat.lt_or_ge 1 s.size with h | h
        ·exact h
        ·rw[List.getD_eq_getElem?_getD,List.getElem?_eq_none (by simpa using h)]at hc
         exact absurd hc (by decide)
       refine .inr ⟨h5,?_⟩;rw[List.getD_eq_getElem?_getD,List.getElem?_eq_getElem (by simpa using h5)]at hc;have h6:128≤(s[1]'h5).toNat:=hc;omega
     ·cases h
    ·rw[if_neg h3]at h
     split at h
     ·rename_i n hl
      split at h
      ·rename_i hc
       cases h;exact jpB w s (s[0].toNat - 128 - 55) n hs h0 (by omega) (by omega) (by omega) hl hc
      ·cases h
     ·cases h
   ·rw[if_neg h2]at h
    simp only at h
    by_cases h3:s[0].toNat - 192≤55
    ·rw[if_pos h3]at h
     split at h
     ·rename_i hc
      cases h;exact jr2 w s (s[0].toNat - 192) hs h0 (by omega) h3 hc.1
     ·cases h
    ·rw[if_neg h3]at h
     split at h
     ·rename_i n hl
      split at h
      ·rename_i hc
       cases h;exact jpz w s (s[0].toNat - 192 - 55) n hs h0 (by omega) (by omega) (by omega) hl hc
      ·cases h
     ·cases h
 ·rw[dif_neg h0]at h;cases h
theorem jwx(w:World):Calls Tryz.prog 107 #[.nilIface,.iface 27 (.int .i64 2)] w fun e w'=>e=.returned (.bool false)∧w=w':=by
 have hq:∀ w,(binOp .eql 163 .nilIface (.iface 27 (.int .i64 2))).run Tryz.prog w=.ok (.bool false) w:=fun w=>by kernel_rfl
 go_enter Tryz.func107,Tryz.ntmps107;go_wp2_with fail
 go_ret
 exact⟨rfl,rfl⟩
theorem jl5(w:World)(s:ByteArray)(r:Bool × Nat × Nat)(hs:s.size≤1000000000)(h:cutN s=some r):Calls Tryz.prog 174 #[.string s] w fun e w'=>e=.returned (.tuple #[.bool r.1,.string (s.extract r.2.1 (r.2.1+r.2.2)),.string (s.extract (r.2.1+r.2.2) s.size),.int .i64 0])∧Ext w w':=by
 go_enter Tryz.func174,Tryz.ntmps174;go_wp2_with fail
 refine (jwh w s r hs h).mono ?_;rintro e w1 ⟨rfl,hE⟩;unfold jdH
 obtain⟨x,hx⟩:∃ x,x=s.extract r.2.1 (r.2.1+r.2.2):=⟨_,rfl⟩
 obtain⟨y,hy⟩:∃ x,x=s.extract (r.2.1+r.2.2) s.size:=⟨_,rfl⟩
 rw[←hx, ←hy]
 obtain⟨l,p⟩:=r
 have HE:=Hd hE;have HX:=Hd hx;have HY:=Hd hy;clear hE h hx hy hs;simp only;go_wp2_with fail
 refine (jwx w1).mono ?_;rintro e w2 ⟨rfl,rfl⟩;go_wp2_with fail
 exact bodyPost_ret (v:=.tuple #[.bool l,.string x,.string y,.int .i64 0]) (by kernel_rfl) rfl ⟨by rw[HX.o,HY.o],HE.o⟩
theorem jsQ(ws:List UInt32):(outL ws).length=4 * ws.length:=by
 unfold outL;induction ws with
 | nil=>rfl
 | cons x r ih=>rw[List.flatMap_cons,List.length_append,ih];simp[jnt];omega
theorem jrj(s:HSt)(sz:UInt64):(sumB s sz).size=32:=by
 rw[Lib.size_eq];unfold sumB;rw[List.toList_toArray,jsQ];rfl
theorem jb3(s:ByteArray):(shaB s).size=32:=jrj _ _
def refB(s:ByteArray):ByteArray:=if s.size < 32 then s else jaO (shaB s)
theorem ju8(w:World)(s:ByteArray)(hc:jch w):Calls Tryz.prog 155 #[.string s] w fun e w'=>e=.returned (.string (refB s))∧Ext w w':=by
 have HC:=Hd hc;clear hc
 by_cases hlt:s.size < 32
 ·have hq:(s.size:Int) < 32:=by omega
  go_enter Tryz.func155,Tryz.ntmps155;go_wp2_with fail
  go_ret
  exact⟨by unfold refB;rw[if_pos hlt];rfl,ExtR w⟩
 ·have hq:¬(s.size:Int) < 32:=by omega
  go_enter Tryz.func155,Tryz.ntmps155;go_wp2_with fail
  refine (of_t _ _ [s] (by simp) (ju6 (ExtR _)) (HC.o.ext ((ExtR w).alloc _))).mono ?_;rintro e w1 ⟨rfl,hE1⟩;rw[jer];have HE1:Hid (Ext w w1):=Hd (((ExtR w).alloc _).trans hE1);clear hE1
  obtain⟨h,hh⟩:∃ h,h=shaB s:=⟨_,rfl⟩
  have hhs:h.size≤1000000000:=by rw[hh,jb3];omega
  rw[←hh];have HH:=Hd hh;clear hh;go_wp2_with fail
  refine (jeG w1 h hhs).mono ?_;rintro e w2 ⟨rfl,hE2⟩;have HE2:=Hd (HE1.o.trans hE2);clear hE2 hhs;go_wp2_with fail
  go_ret
  exact⟨by unfold refB;rw[if_neg hlt, ←HH.o];rfl,HE2.o⟩
def jeZ(s:ByteArray)(r:Bool × Nat × Nat):Option ByteArray:=if r.1=false∧r.2.1+r.2.2=s.size then some (s.extract r.2.1 (r.2.1+r.2.2))else none
def optV:Option ByteArray→Value
 | some x=>.tuple #[.string x,.bool true]
 | none=>.tuple #[.string ⟨#[]⟩,.bool false]
theorem jur{s:ByteArray}{r:Bool × Nat × Nat}(h:cutN s=some r):r.2.1+r.2.2≤s.size:=by
 unfold cutN at h
 by_cases h0:0 < s.size
 ·rw[dif_pos h0]at h
  simp only at h
  by_cases h1:s[0].toNat < 128
  ·rw[if_pos h1]at h
   obtain rfl:=Option.some.inj h;simp only;omega
  ·rw[if_neg h1]at h
   obtain⟨lm,hlm⟩:∃ lm:Bool × Nat,lm=if s[0].toNat < 192 then (false,s[0].toNat - 128)else (true,s[0].toNat - 192):=⟨_,rfl⟩
   rw[←hlm]at h;clear hlm
   obtain⟨l,m⟩:=lm
   simp only at h
   by_cases h3:m≤55
   ·rw[if_pos h3]at h
    split at h
    ·rename_i hc;obtain rfl:=Option.some.inj h;exact hc.1
    ·cases h
   ·rw[if_neg h3]at h
    split at h
    ·split at h
     ·rename_i hc;obtain rfl:=Option.some.inj h;exact hc
     ·cases h
    ·cases h
 ·rw[dif_neg h0]at h;cases h
theorem jhU(w:World)(s:ByteArray)(r:Bool × Nat × Nat)(hs:s.size≤1000000000)(h:cutN s=some r):Calls Tryz.prog 149 #[.string s] w fun e w'=>e=.returned (optV (jeZ s r))∧Ext w w':=by
 have hle:=jur h;go_enter Tryz.func149,Tryz.ntmps149;go_wp2_with fail
 refine (jl5 w s r hs h).mono ?_;rintro e w1 ⟨rfl,hE⟩
 obtain⟨x,hx⟩:∃ x,x=s.extract r.2.1 (r.2.1+r.2.2):=⟨_,rfl⟩
 obtain⟨y,hy⟩:∃ x,x=s.extract (r.2.1+r.2.2) s.size:=⟨_,rfl⟩
 have hys:y.size=s.size - (r.2.1+r.2.2):=by rw[hy];simp[ByteArray.size_extract]
 rw[←hx, ←hy]
 obtain⟨l,p⟩:=r
 simp only at hys hle;have HE:=Hd hE;have HX:=Hd hx;clear hE h hx hy hs;simp only;cases l with
 | true =>
  go_wp2_with fail
  exact bodyPost_ret (v:=optV none) (by kernel_rfl) rfl ⟨by unfold jeZ;rw[if_neg (by simp)],HE.o⟩
 | false =>
  by_cases he:p.1+p.2=s.size
  ·have hy0:y=⟨#[]⟩:=by
    have:y.size=0:=by omega
    obtain⟨⟨l⟩⟩:=y
    cases l with
    | nil=>rfl
    | cons x y=>exact absurd this (Nat.succ_ne_zero _)
   subst hy0;clear hys;go_wp2_with fail
   exact bodyPost_ret (v:=optV (some x)) (by kernel_rfl) rfl ⟨by unfold jeZ;rw[if_pos ⟨rfl,he⟩,HX.o],HE.o⟩
  ·have hne:=jbn (s:=y) (by omega)
   clear hys;go_wp2_with fail
   exact bodyPost_ret (v:=optV none) (by kernel_rfl) rfl ⟨by unfold jeZ;rw[if_neg (by simp[he])],HE.o⟩
def jfv(s:ByteArray)(r:Bool × Nat × Nat):Option ByteArray:=(jeZ s r).filter (fun x=>x.size=32)
theorem jeS(w:World)(s:ByteArray)(r:Bool × Nat × Nat)(hs:s.size≤1000000000)(h:cutN s=some r):Calls Tryz.prog 110 #[.string s] w fun e w'=>e=.returned (optV (jfv s r))∧Ext w w':=by
 go_enter Tryz.func110,Tryz.ntmps110;go_wp2_with fail
 refine (jhU w s r hs h).mono ?_;rintro e w1 ⟨rfl,hE⟩;have HE:=Hd hE;have hb:jfv s r=(jeZ s r).filter (fun x=>x.size=32):=rfl
 obtain⟨o,ho⟩:∃ o,o=jeZ s r:=⟨_,rfl⟩
 rw[←ho]at hb ⊢;have HB:=Hd hb;clear hE h hs ho hb;cases o with
 | none =>
  unfold optV;simp only;go_wp2_with fail
  exact bodyPost_ret (v:=optV none) (by kernel_rfl) rfl ⟨by rw[HB.o];rfl,HE.o⟩
 | some x =>
  unfold optV;simp only
  by_cases hx:x.size=32
  ·have hq:((x.size:Int) == 32)=true:=by simp;omega
   have hq':(x.size:Int)=32:=by omega
   go_wp2_with fail
   exact bodyPost_ret (v:=optV (some x)) (by kernel_rfl) rfl ⟨by rw[HB.o];simp[Option.filter,hx],HE.o⟩
  ·have hq:((x.size:Int) == 32)=false:=by simp;omega
   have hq':¬(x.size:Int)=32:=by omega
   go_wp2_with fail
   exact bodyPost_ret (v:=optV none) (by kernel_rfl) rfl ⟨by rw[HB.o];simp[Option.filter,hx],HE.o⟩
end
end Go.Proofs.YtpaacnhboilkkaaGreatDoor
