/- Parts of the proof, one behind the other: RlpR. Each is under no condition but those that it states. -/
import Derived.Test.YtpaacnhboilkkaaGreatDoorPt35
import Derived.Test.YtpaacnhboilkkaaGreatDoorPt9
namespace Go.Proofs.YtpaacnhboilkkaaGreatDoor
set_option linter.unusedSimpArgs false
set_option linter.unusedVariables false
set_option maxRecDepth 100000
set_option maxHeartbeats 16000000
section
open Go Go.RowKit
attribute [local go_sem] Oper.semAt_some
theorem split_no(w:World)(s:ByteArray)(hs:s.size≤1000000000)(h:cutN s=none):Calls Tryz.prog 174 #[.string s] w fun e w'=>e=.returned (.tuple #[.bool false,.string ⟨#[]⟩,.string ⟨#[]⟩,.int .i64 2])∧Ext w w':=by
 have HC:=Hd (cut_no w s hs h)
 clear h
 go_enter Tryz.func174,Tryz.ntmps174
 go_wp2_with fail
 refine HC.out.mono ?_
 rintro e w1 ⟨v,rfl,hE,b,k,rfl,hB,_⟩
 have HE:=Hd hE
 have HB:=Hd hB
 clear hE hB
 go_wp2_with fail
 refine (show Calls Tryz.prog 107 #[.iface 306 (.pointer (some ⟨b,0,none⟩)),.iface 27 (.int .i64 2)] w1 fun e w'=>e=.returned (.bool true)∧w1=w' from is_fault w1 b k HB.out).mono ?_
 rintro e w2 ⟨rfl,rfl⟩
 go_wp2_with fail
 exact bodyPost_ret (v:=.tuple #[.bool false,.string ⟨#[]⟩,.string ⟨#[]⟩,.int .i64 2]) (by simp[results,Tryz.results174,go_sem]) rfl ⟨rfl,HE.out⟩
theorem plain_no(w:World)(s:ByteArray)(hs:s.size≤1000000000)(h:cutN s=none):Calls Tryz.prog 149 #[.string s] w fun e w'=>e=.returned (optV none)∧Ext w w':=by
 have HC:=Hd (split_no w s hs h)
 clear h
 go_enter Tryz.func149,Tryz.ntmps149
 go_wp2_with fail
 refine HC.out.mono ?_
 rintro e w1 ⟨rfl,hE⟩
 have HE:=Hd hE
 clear hE
 go_wp2_with fail
 go_ret2
 exact⟨rfl,HE.out⟩
theorem hash_no(w:World)(s:ByteArray)(hs:s.size≤1000000000)(h:cutN s=none):Calls Tryz.prog 110 #[.string s] w fun e w'=>e=.returned (optV none)∧Ext w w':=by
 have HC:=Hd (plain_no w s hs h)
 clear h
 go_enter Tryz.func110,Tryz.ntmps110
 go_wp2_with fail
 refine HC.out.mono ?_
 rintro e w1 ⟨rfl,hE⟩
 unfold optV
 have HE:=Hd hE
 clear hE
 go_wp2_with fail
 go_ret2
 exact⟨rfl,HE.out⟩
def hashA(s:ByteArray):Option ByteArray:=match cutN s with | some r=>hashB s r | none=>none
theorem hash_any(w:World)(s:ByteArray)(hs:s.size≤1000000000):Calls Tryz.prog 110 #[.string s] w fun e w'=>e=.returned (optV (hashA s))∧Ext w w':=by
 unfold hashA
 cases h:cutN s with
 | none=>exact hash_no w s hs h
 | some r=>exact hash_c w s r hs h
end
end Go.Proofs.YtpaacnhboilkkaaGreatDoor
