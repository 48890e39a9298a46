/- Lemmas; each is under no condition but those that it states. -/
import Derived.Test.YtcpnjmcipainpaaGreatDoorPr31
import Derived.Test.YtcpnjmcipainpaaGreatDoorPr8
namespace Go.Proofs.YtcpnjmcipainpaaGreatDoor
set_option linter.unusedSimpArgs false
set_option linter.unusedVariables false
set_option maxRecDepth 100000
set_option maxHeartbeats 16000000
open Go Go.RowKit
section
attribute [local go_sem] Oper.semAt_some
theorem jnQ(w:World)(s:vB)(hs:s.size<=1000000000)(h:cutN s=none):vR 187 #[.string s] w (.tuple #[.bool false,.string ⟨#[]⟩,.string ⟨#[]⟩,.int .i64 2]):=by
 have HC:=Hd (jxa w s hs h);clear h;go_enter Tryz.func187,Tryz.ntmps187;go_wp2_with fail
 refine HC.o.mono ?_;rintro e w1 ⟨v,rfl,hE,b,k,rfl,hB,_⟩;have HE:=Hd hE;have HB:=Hd hB;clear hE hB;go_wp2_with fail
 refine (show vQ 107 #[.iface 324 (.pointer (some ⟨b,0,none⟩)),.iface 27 (.int .i64 2)] w1 fun e w'=>e=.returned (.bool true)/\w1=w' from js8 w1 b k HB.o).mono ?_;rintro e w2 ⟨rfl,rfl⟩;go_wp2_with fail
 exact bodyPost_ret (v:=.tuple #[.bool false,.string ⟨#[]⟩,.string ⟨#[]⟩,.int .i64 2]) (by simp[results,Tryz.results187,go_sem]) rfl ⟨rfl,HE.o⟩
theorem jtA(w:World)(s:vB)(hs:s.size<=1000000000)(h:cutN s=none):vR 164 #[.string s] w (optV none):=by
 have HC:=Hd (jnQ w s hs h);clear h;go_enter Tryz.func164,Tryz.ntmps164;go_wp2_with fail
 refine HC.o.mono ?_;rintro e w1 ⟨rfl,hE⟩;have HE:=Hd hE;clear hE;go_wp2_with fail
 go_ret2
 exact⟨rfl,HE.o⟩
theorem jvp(w:World)(s:vB)(hs:s.size<=1000000000)(h:cutN s=none):vR 118 #[.string s] w (optV none):=by
 have HC:=Hd (jtA w s hs h);clear h;go_enter Tryz.func118,Tryz.ntmps118;go_wp2_with fail
 refine HC.o.mono ?_;rintro e w1 ⟨rfl,hE⟩;unfold optV;have HE:=Hd hE;clear hE;go_wp2_with fail
 go_ret2
 exact⟨rfl,HE.o⟩
def jjA(s:vB):Option vB:=match cutN s with | some r=>jfZ s r | none=>none
theorem jff(w:World)(s:vB)(hs:s.size<=1000000000):vR 118 #[.string s] w (optV (jjA s)):=by
 unfold jjA;cases h:cutN s with
 | none=>exact jvp w s hs h
 | some r=>exact jd0 w s r hs h
end
end Go.Proofs.YtcpnjmcipainpaaGreatDoor
