/- Lemmas; each is under no condition but those that it states. -/
import Derived.Test.YtcpnjmcipainpaaGreatDoorPr16
import Derived.Test.YtcpnjmcipainpaaGreatDoorPr32
namespace Go.Proofs.YtcpnjmcipainpaaGreatDoor
set_option linter.unusedSimpArgs false
set_option linter.unusedVariables false
set_option maxRecDepth 100000
set_option maxHeartbeats 16000000
open Go Go.RowKit
def RdNo(w:World)(e:Ending)(w':World):Prop:=∃ m:jad,m.refs.length=16/\e=.returned (.tuple #[m.V,.bool false])/\Ext w w'
def jr9(w:World)(e:Ending)(w':World):Prop:=e=.returned (.tuple #[jar.V,.int .i64 2])/\Ext w w'
theorem jlu(w:World)(s:vB)(hs:s.size<=1000000000)(h:cutN s=none):vQ 144 #[.string s] w (RdNo w):=by
 obtain⟨em,hem⟩:=vE (jao ⟨#[]⟩)
 have hne:s≠em:=fun e=>by
  obtain⟨o,h1,_⟩:=jhx ⟨#[]⟩ vI
  rw[e,hem,h1]at h;cases h
 have hnl:=jeg hne;have HEM:=Hd hem;have HS:=Hd (fun w=>jnQ w s hs h);have HZ:=Hd hs;clear hem hne h hs;go_enter Tryz.func144,Tryz.ntmps144;go_wp2_with (refine jah Tryz.allocNode rfl rfl ?_;intro W1 hB1 hE1)
 refine vC (jee _ ⟨#[]⟩ vI) fun w2 hE=>?_;rw[<-HEM.o];have HB2:=Hd (hB1.keeps hE (fun h=>h));have HE2:=Hd (hE1.trans hE);clear hB1 hE1 hE;go_wp2_with fail
 refine vC (HS.o w2) fun w3 hE=>?_;have hB3:=HB2.o.keeps hE (fun h=>h);have HE3:=Hd (HE2.o.trans hE);clear hE HB2;go_wp2_with (refine jag (vs:=jar.cells) rfl rfl rfl rfl hB3 rfl Tryz.szNode (jad.one _) ?_;intro W8 hB8 hE8)
 refine bodyPost_ret (jax rfl rfl rfl (jap W8 _ jar rfl hB8)) rfl ?_
 exact⟨jar,rfl,rfl,HE3.o.trans' hE8 (fun x hx e=>by have e:x=w.heap.size:=e;omega)⟩
theorem jvl(w:World)(s:vB)(h:∀ w,vQ 144 #[.string s] w (RdNo w)):vQ 97 #[.string s] w (jr9 w):=by
 have HR:=Hd h;clear h;go_enter Tryz.func97,Tryz.ntmps97;go_wp2_with (refine jah Tryz.allocNode rfl rfl ?_;intro W1 hB1 hE1)
 refine (HR.o W1).mono ?_;rintro e w2 ⟨m,hm,rfl,hE⟩;have hB2:=hB1.keeps hE (fun h=>h);have HE2:=Hd (hE1.trans hE);have HL:=Hd (m.cells_len hm);have HM:=Hd hm;clear hB1 hE1 hE hm;unfold jad.V;go_wp2_with (first |(refine jah Tryz.allocNode rfl rfl ?_;intro W3 hB3 hE3;refine jag (vs:=m.cells) rfl rfl rfl rfl hB3 (by rw[HL.o];rfl) (by rw[HL.o];exact Tryz.szNode) m.one ?_;intro W4 hB4 hE4;have hB24:=(hB2.keeps hE3 (fun h=>h)).keeps hE4 (by have:=hB2.lt;omega)) |(refine jag (vs:=jar.cells) rfl rfl rfl rfl hB24 rfl Tryz.szNode (jad.one _) ?_;intro W8 hB8 hE8))
 refine bodyPost_ret (jax rfl rfl rfl (jap W8 _ jar rfl hB8)) rfl ?_;have hX4:Ext w2 W4:=hE3.trans' hE4 (fun x hx e=>by have e:x=w2.heap.size:=e;omega)
 exact⟨rfl,(HE2.o.trans hX4).trans' hE8 (fun x hx e=>by have e:x=w.heap.size:=e;omega)⟩
theorem jxp(w:World)(s:vB)(hs:s.size < 32)(h:∀ w,vQ 97 #[.string s] w (jr9 w)):vR 119 #[.string s] w (.tuple #[jar.V,.bool false]):=by
 have HR:=Hd h;have c1:¬(32:Int)<=(s.size:Int):=by omega
 clear h;go_enter Tryz.func119,Tryz.ntmps119;go_wp2_with (refine jah Tryz.allocNode rfl rfl ?_;intro W1 hB1 hE1)
 refine vC (HR.o W1) fun w2 hE=>?_;have hB2:=hB1.keeps hE (fun h=>h);have HE2:=Hd (hE1.trans hE);clear hB1 hE1 hE;unfold jad.V;go_wp2_with (first |(refine jah Tryz.allocNode rfl rfl ?_;intro W3 hB3 hE3;refine jag (vs:=jar.cells) rfl rfl rfl rfl hB3 rfl Tryz.szNode jar.one ?_;intro W4 hB4 hE4;have q0:W4.cell? ⟨w2.heap.size,0,none⟩=some (.int .i64 0):=hB4.cellL vF;have hB24:=(hB2.keeps hE3 (fun h=>h)).keeps hE4 (by have:=hB2.lt;omega)) |(refine jag (vs:=jar.cells) rfl rfl rfl rfl hB24 rfl Tryz.szNode (jad.one _) ?_;intro W8 hB8 hE8))
 refine bodyPost_ret (jax rfl rfl rfl (jap W8 _ jar rfl hB8)) rfl ?_;have hX4:Ext w2 W4:=hE3.trans' hE4 (fun x hx e=>by have e:x=w2.heap.size:=e;omega)
 exact⟨rfl,(HE2.o.trans hX4).trans' hE8 (fun x hx e=>by have e:x=w.heap.size:=e;omega)⟩
theorem ju8:cutN ⟨#[]⟩=none:=by decide +kernel
theorem jcn(w:World):vR 119 #[.string ⟨#[]⟩] w (.tuple #[jar.V,.bool false]):=
 jxp w ⟨#[]⟩ vI fun w=>jvl w _ fun w=>jlu w _ vI ju8
theorem jbY(w:World):vR 118 #[.string ⟨#[]⟩] w (.tuple #[.string ⟨#[]⟩,.bool false]):=jff w ⟨#[]⟩ vI
end Go.Proofs.YtcpnjmcipainpaaGreatDoor
