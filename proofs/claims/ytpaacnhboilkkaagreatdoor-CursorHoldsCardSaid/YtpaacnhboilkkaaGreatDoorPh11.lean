/- Parts of the proof, one behind the other: RlpR, RlpS, RlpT, RlpU, RlpV, RlpW, RlpX, RlpY, RlpZ, RlpZa. Each is under no condition but those that it states. -/
import Derived.Test.YtpaacnhboilkkaaGreatDoorPh10
import Derived.Test.YtpaacnhboilkkaaGreatDoorPh9
import Derived.Test.YtpaacnhboilkkaaGreatDoorPh4
namespace Go.Proofs.YtpaacnhboilkkaaGreatDoor
set_option linter.unusedSimpArgs false
set_option linter.unusedVariables false
set_option maxRecDepth 100000
set_option maxHeartbeats 16000000
section
open Go Go.RowKit
attribute [local go_sem] Oper.semAt_some
theorem jth(w:World)(s:ByteArray)(hs:s.size≤1000000000)(h:cutN s=none):Calls Tryz.prog 174 #[.string s] w fun e w'=>e=.returned (.tuple #[.bool false,.string ⟨#[]⟩,.string ⟨#[]⟩,.int .i64 2])∧Ext w w':=by
 have HC:=Hd (jwi w s hs h);clear h;go_enter Tryz.func174,Tryz.ntmps174;go_wp2_with fail
 refine HC.o.mono ?_;rintro e w1 ⟨v,rfl,hE,b,k,rfl,hB,_⟩;have HE:=Hd hE;have HB:=Hd hB;clear hE hB;go_wp2_with fail
 refine (show Calls Tryz.prog 107 #[.iface 306 (.pointer (some ⟨b,0,none⟩)),.iface 27 (.int .i64 2)] w1 fun e w'=>e=.returned (.bool true)∧w1=w' from jsx w1 b k HB.o).mono ?_;rintro e w2 ⟨rfl,rfl⟩;go_wp2_with fail
 exact bodyPost_ret (v:=.tuple #[.bool false,.string ⟨#[]⟩,.string ⟨#[]⟩,.int .i64 2]) (by simp[results,Tryz.results174,go_sem]) rfl ⟨rfl,HE.o⟩
theorem jsZ(w:World)(s:ByteArray)(hs:s.size≤1000000000)(h:cutN s=none):Calls Tryz.prog 149 #[.string s] w fun e w'=>e=.returned (optV none)∧Ext w w':=by
 have HC:=Hd (jth w s hs h);clear h;go_enter Tryz.func149,Tryz.ntmps149;go_wp2_with fail
 refine HC.o.mono ?_;rintro e w1 ⟨rfl,hE⟩;have HE:=Hd hE;clear hE;go_wp2_with fail
 go_ret2
 exact⟨rfl,HE.o⟩
theorem juI(w:World)(s:ByteArray)(hs:s.size≤1000000000)(h:cutN s=none):Calls Tryz.prog 110 #[.string s] w fun e w'=>e=.returned (optV none)∧Ext w w':=by
 have HC:=Hd (jsZ w s hs h);clear h;go_enter Tryz.func110,Tryz.ntmps110;go_wp2_with fail
 refine HC.o.mono ?_;rintro e w1 ⟨rfl,hE⟩;unfold optV;have HE:=Hd hE;clear hE;go_wp2_with fail
 go_ret2
 exact⟨rfl,HE.o⟩
def ji7(s:ByteArray):Option ByteArray:=match cutN s with | some r=>jfv s r | none=>none
theorem jg8(w:World)(s:ByteArray)(hs:s.size≤1000000000):Calls Tryz.prog 110 #[.string s] w fun e w'=>e=.returned (optV (ji7 s))∧Ext w w':=by
 unfold ji7;cases h:cutN s with
 | none=>exact juI w s hs h
 | some r=>exact jeS w s r hs h
end
section
open Go Go.RowKit
end
section
open Go Go.RowKit
attribute [local go_sem] Oper.semAt_some
def ErrT(w:World):Prop:=w.cell? ⟨1,0,none⟩=some (.iface 255 (.agg #[.pointer (some ⟨3,163,none⟩)]))
theorem ErrT.ext{w w':World}(h:ErrT w)(k:Ext w w'):ErrT w':=jaa h k
end
end Go.Proofs.YtpaacnhboilkkaaGreatDoor
