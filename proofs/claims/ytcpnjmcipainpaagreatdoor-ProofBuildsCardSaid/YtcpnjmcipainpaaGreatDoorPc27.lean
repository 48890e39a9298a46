/- Parts of the proof, one behind the other: RlpR. Each is under no condition but those that it states. -/
import Derived.Test.YtcpnjmcipainpaaGreatDoorPc26
import Derived.Test.YtcpnjmcipainpaaGreatDoorPc8
namespace Go.Proofs.YtcpnjmcipainpaaGreatDoor
set_option linter.unusedSimpArgs false
set_option linter.unusedVariables false
set_option maxRecDepth 100000
set_option maxHeartbeats 16000000
section
open Go Go.RowKit
attribute [local go_sem] Oper.semAt_some
theorem jkI(w:World)(s:ByteArray)(hs:s.size≤1000000000)(h:cutN s=none):Calls Tryz.prog 187 #[.string s] w fun e w'=>e=.returned (.tuple #[.bool false,.string ⟨#[]⟩,.string ⟨#[]⟩,.int .i64 2])∧Ext w w':=by
 have HC:=Hd (jrn w s hs h);clear h;go_enter Tryz.func187,Tryz.ntmps187;go_wp2_with fail
 refine HC.o.mono ?_;rintro e w1 ⟨v,rfl,hE,b,k,rfl,hB,_⟩;have HE:=Hd hE;have HB:=Hd hB;clear hE hB;go_wp2_with fail
 refine (show Calls Tryz.prog 107 #[.iface 324 (.pointer (some ⟨b,0,none⟩)),.iface 27 (.int .i64 2)] w1 fun e w'=>e=.returned (.bool true)∧w1=w' from jot w1 b k HB.o).mono ?_;rintro e w2 ⟨rfl,rfl⟩;go_wp2_with fail
 exact bodyPost_ret (v:=.tuple #[.bool false,.string ⟨#[]⟩,.string ⟨#[]⟩,.int .i64 2]) (by simp[results,Tryz.results187,go_sem]) rfl ⟨rfl,HE.o⟩
theorem joF(w:World)(s:ByteArray)(hs:s.size≤1000000000)(h:cutN s=none):Calls Tryz.prog 164 #[.string s] w fun e w'=>e=.returned (optV none)∧Ext w w':=by
 have HC:=Hd (jkI w s hs h);clear h;go_enter Tryz.func164,Tryz.ntmps164;go_wp2_with fail
 refine HC.o.mono ?_;rintro e w1 ⟨rfl,hE⟩;have HE:=Hd hE;clear hE;go_wp2_with fail
 go_ret2
 exact⟨rfl,HE.o⟩
theorem jp9(w:World)(s:ByteArray)(hs:s.size≤1000000000)(h:cutN s=none):Calls Tryz.prog 118 #[.string s] w fun e w'=>e=.returned (optV none)∧Ext w w':=by
 have HC:=Hd (joF w s hs h);clear h;go_enter Tryz.func118,Tryz.ntmps118;go_wp2_with fail
 refine HC.o.mono ?_;rintro e w1 ⟨rfl,hE⟩;unfold optV;have HE:=Hd hE;clear hE;go_wp2_with fail
 go_ret2
 exact⟨rfl,HE.o⟩
def jru(s:ByteArray):Option ByteArray:=match cutN s with | some r=>jfx s r | none=>none
theorem joq(w:World)(s:ByteArray)(hs:s.size≤1000000000):Calls Tryz.prog 118 #[.string s] w fun e w'=>e=.returned (optV (jru s))∧Ext w w':=by
 unfold jru;cases h:cutN s with
 | none=>exact jp9 w s hs h
 | some r=>exact jcT w s r hs h
end
end Go.Proofs.YtcpnjmcipainpaaGreatDoor
