/- Parts of the proof, one behind the other: GetA. Each is under no condition but those that it states. -/
import Derived.Test.YtcpnjmcipainpaaGreatDoorPc16
import Derived.Test.YtcpnjmcipainpaaGreatDoorPc27
namespace Go.Proofs.YtcpnjmcipainpaaGreatDoor
set_option linter.unusedSimpArgs false
set_option linter.unusedVariables false
set_option maxRecDepth 100000
set_option maxHeartbeats 16000000
section
open Go Go.RowKit
def RdNo(w:World)(e:Ending)(w':World):Prop:=∃ m:jac,m.refs.length=16∧e=.returned (.tuple #[m.V,.bool false])∧Ext w w'
def jpw(w:World)(e:Ending)(w':World):Prop:=e=.returned (.tuple #[jav.V,.int .i64 2])∧Ext w w'
theorem jiY(w:World)(s:ByteArray)(hs:s.size≤1000000000)(h:cutN s=none):Calls Tryz.prog 144 #[.string s] w (RdNo w):=by
 obtain⟨em,hem⟩:∃ em,em=jam ⟨#[]⟩:=⟨_,rfl⟩
 have hne:s≠em:=fun e=>by
  obtain⟨o,h1,_⟩:=jfZ ⟨#[]⟩ (by decide)
  rw[e,hem,h1]at h;cases h
 have hnl:=jcP hne;have HEM:=Hd hem;have HS:=Hd (fun w=>jkI w s hs h);have HZ:=Hd hs;clear hem hne h hs;go_enter Tryz.func144,Tryz.ntmps144;go_wp2_with (refine jai Tryz.allocNode rfl rfl ?_;intro W1 hB1 hE1)
 refine (jdj _ ⟨#[]⟩ (by decide)).mono ?_;rintro e w2 ⟨rfl,hE⟩;rw[←HEM.o];have HB2:=Hd (hB1.keeps hE (fun h=>h));have HE2:=Hd (hE1.trans hE);clear hB1 hE1 hE;go_wp2_with fail
 refine (HS.o w2).mono ?_;rintro e w3 ⟨rfl,hE⟩;have hB3:=HB2.o.keeps hE (fun h=>h);have HE3:=Hd (HE2.o.trans hE);clear hE HB2;go_wp2_with (refine jaf (vs:=jav.cells) rfl rfl rfl rfl hB3 rfl Tryz.szNode (jac.one _) ?_;intro W8 hB8 hE8)
 refine bodyPost_ret (jaj rfl rfl rfl (jao W8 _ jav rfl hB8)) rfl ?_
 exact⟨jav,rfl,rfl,HE3.o.trans' hE8 (fun x hx e=>by have e:x=w.heap.size:=e;omega)⟩
theorem jp7(w:World)(s:ByteArray)(h:∀ w,Calls Tryz.prog 144 #[.string s] w (RdNo w)):Calls Tryz.prog 97 #[.string s] w (jpw w):=by
 have HR:=Hd h;clear h;go_enter Tryz.func97,Tryz.ntmps97;go_wp2_with (refine jai Tryz.allocNode rfl rfl ?_;intro W1 hB1 hE1)
 refine (HR.o W1).mono ?_;rintro e w2 ⟨m,hm,rfl,hE⟩;have hB2:=hB1.keeps hE (fun h=>h);have HE2:=Hd (hE1.trans hE);have HL:=Hd (m.cells_len hm);have HM:=Hd hm;clear hB1 hE1 hE hm;unfold jac.V;go_wp2_with (first |(refine jai Tryz.allocNode rfl rfl ?_;intro W3 hB3 hE3;refine jaf (vs:=m.cells) rfl rfl rfl rfl hB3 (by rw[HL.o];rfl) (by rw[HL.o];exact Tryz.szNode) m.one ?_;intro W4 hB4 hE4;have hB24:=(hB2.keeps hE3 (fun h=>h)).keeps hE4 (by have:=hB2.lt;omega)) |(refine jaf (vs:=jav.cells) rfl rfl rfl rfl hB24 rfl Tryz.szNode (jac.one _) ?_;intro W8 hB8 hE8))
 refine bodyPost_ret (jaj rfl rfl rfl (jao W8 _ jav rfl hB8)) rfl ?_;have hX4:Ext w2 W4:=hE3.trans' hE4 (fun x hx e=>by have e:x=w2.heap.size:=e;omega)
 exact⟨rfl,(HE2.o.trans hX4).trans' hE8 (fun x hx e=>by have e:x=w.heap.size:=e;omega)⟩
theorem jrv(w:World)(s:ByteArray)(hs:s.size < 32)(h:∀ w,Calls Tryz.prog 97 #[.string s] w (jpw w)):Calls Tryz.prog 119 #[.string s] w fun e w'=>e=.returned (.tuple #[jav.V,.bool false])∧Ext w w':=by
 have HR:=Hd h;have c1:¬(32:Int)≤(s.size:Int):=by omega
 clear h;go_enter Tryz.func119,Tryz.ntmps119;go_wp2_with (refine jai Tryz.allocNode rfl rfl ?_;intro W1 hB1 hE1)
 refine (HR.o W1).mono ?_;rintro e w2 ⟨rfl,hE⟩;have hB2:=hB1.keeps hE (fun h=>h);have HE2:=Hd (hE1.trans hE);clear hB1 hE1 hE;unfold jac.V;go_wp2_with (first |(refine jai Tryz.allocNode rfl rfl ?_;intro W3 hB3 hE3;refine jaf (vs:=jav.cells) rfl rfl rfl rfl hB3 rfl Tryz.szNode jav.one ?_;intro W4 hB4 hE4;have q0:W4.cell? ⟨w2.heap.size,0,none⟩=some (.int .i64 0):=hB4.cellL (by rfl);have hB24:=(hB2.keeps hE3 (fun h=>h)).keeps hE4 (by have:=hB2.lt;omega)) |(refine jaf (vs:=jav.cells) rfl rfl rfl rfl hB24 rfl Tryz.szNode (jac.one _) ?_;intro W8 hB8 hE8))
 refine bodyPost_ret (jaj rfl rfl rfl (jao W8 _ jav rfl hB8)) rfl ?_;have hX4:Ext w2 W4:=hE3.trans' hE4 (fun x hx e=>by have e:x=w2.heap.size:=e;omega)
 exact⟨rfl,(HE2.o.trans hX4).trans' hE8 (fun x hx e=>by have e:x=w.heap.size:=e;omega)⟩
theorem jqa(w:World)(s:ByteArray)(hs:32≤s.size):Calls Tryz.prog 119 #[.string s] w fun e w'=>e=.returned (.tuple #[jav.V,.bool false])∧Ext w w':=by
 have c1:(32:Int)≤(s.size:Int):=by omega
 go_enter Tryz.func119,Tryz.ntmps119;go_wp2_with (first |(refine jai Tryz.allocNode rfl rfl ?_;intro W1 hB1 hE1) |(refine jaf (vs:=jav.cells) rfl rfl rfl rfl hB1 rfl Tryz.szNode (jac.one _) ?_;intro W8 hB8 hE8))
 refine bodyPost_ret (jaj rfl rfl rfl (jao W8 _ jav rfl hB8)) rfl ?_
 exact⟨rfl,hE1.trans' hE8 (fun x hx e=>by have e:x=w.heap.size:=e;omega)⟩
theorem jpT:cutN ⟨#[]⟩=none:=by decide +kernel
theorem jdP(w:World):Calls Tryz.prog 119 #[.string ⟨#[]⟩] w fun e w'=>e=.returned (.tuple #[jav.V,.bool false])∧Ext w w':=
 jrv w ⟨#[]⟩ (by decide) fun w=>jp7 w _ fun w=>jiY w _ (by decide) jpT
theorem jda(w:World):Calls Tryz.prog 118 #[.string ⟨#[]⟩] w fun e w'=>e=.returned (.tuple #[.string ⟨#[]⟩,.bool false])∧Ext w w':=joq w ⟨#[]⟩ (by decide)
end
end Go.Proofs.YtcpnjmcipainpaaGreatDoor
