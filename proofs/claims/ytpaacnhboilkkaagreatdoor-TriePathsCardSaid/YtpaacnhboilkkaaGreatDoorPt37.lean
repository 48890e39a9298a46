/- Parts of the proof, one behind the other: GetA. Each is under no condition but those that it states. -/
import Derived.Test.YtpaacnhboilkkaaGreatDoorPt17
import Derived.Test.YtpaacnhboilkkaaGreatDoorPt36
namespace Go.Proofs.YtpaacnhboilkkaaGreatDoor
set_option linter.unusedSimpArgs false
set_option linter.unusedVariables false
set_option maxRecDepth 100000
set_option maxHeartbeats 16000000
section
open Go Go.RowKit
def RdNo(w:World)(e:Ending)(w':World):Prop:=∃ m:NodeT,m.refs.length=16∧e=.returned (.tuple #[m.V,.bool false])∧Ext w w'
def GetNo(w:World)(e:Ending)(w':World):Prop:=e=.returned (.tuple #[emptyN.V,.int .i64 2])∧Ext w w'
theorem read_nosplit(w:World)(s:ByteArray)(hs:s.size≤1000000000)(h:cutN s=none):Calls Tryz.prog 134 #[.string s] w (RdNo w):=by
 obtain⟨em,hem⟩:∃ em,em=textB ⟨#[]⟩:=⟨_,rfl⟩
 have hne:s≠em:=fun e=>by
  obtain⟨o,h1,_⟩:=cut_text0 ⟨#[]⟩ (by decide)
  rw[e,hem,h1]at h;cases h
 have hnl:=toList_ne hne
 have HEM:=Hd hem
 have HS:=Hd (fun w=>split_no w s hs h)
 have HZ:=Hd hs
 clear hem hne h hs
 go_enter Tryz.func134,Tryz.ntmps134
 go_wp2_with (refine wpList_new Tryz.allocNode rfl rfl ?_;intro W1 hB1 hE1)
 refine (text_c _ ⟨#[]⟩ (by decide)).mono ?_
 rintro e w2 ⟨rfl,hE⟩
 rw[←HEM.out]
 have HB2:=Hd (hB1.keeps hE (fun h=>h))
 have HE2:=Hd (hE1.trans hE)
 clear hB1 hE1 hE
 go_wp2_with fail
 refine (HS.out w2).mono ?_
 rintro e w3 ⟨rfl,hE⟩
 have hB3:=HB2.out.keeps hE (fun h=>h)
 have HE3:=Hd (HE2.out.trans hE)
 clear hE HB2
 go_wp2_with (refine wpList_fill (vs:=emptyN.cells) rfl rfl rfl rfl hB3 rfl Tryz.szNode (NodeT.one _) ?_;intro W8 hB8 hE8)
 refine bodyPost_ret (results_cell_tmp rfl rfl rfl (run_loadVar_api W8 _ emptyN rfl hB8)) rfl ?_
 exact⟨emptyN,rfl,rfl,HE3.out.trans' hE8 (fun x hx e=>by have e:x=w.heap.size:=e;omega)⟩
theorem get_rno(w:World)(s:ByteArray)(h:∀ w,Calls Tryz.prog 134 #[.string s] w (RdNo w)):Calls Tryz.prog 95 #[.string s] w (GetNo w):=by
 have HR:=Hd h
 clear h
 go_enter Tryz.func95,Tryz.ntmps95
 go_wp2_with (refine wpList_new Tryz.allocNode rfl rfl ?_;intro W1 hB1 hE1)
 refine (HR.out W1).mono ?_
 rintro e w2 ⟨m,hm,rfl,hE⟩
 have hB2:=hB1.keeps hE (fun h=>h)
 have HE2:=Hd (hE1.trans hE)
 have HL:=Hd (m.cells_len hm)
 have HM:=Hd hm
 clear hB1 hE1 hE hm
 unfold NodeT.V
 go_wp2_with (first |(refine wpList_new Tryz.allocNode rfl rfl ?_;intro W3 hB3 hE3;refine wpList_fill (vs:=m.cells) rfl rfl rfl rfl hB3 (by rw[HL.out];rfl) (by rw[HL.out];exact Tryz.szNode) m.one ?_;intro W4 hB4 hE4;have hB24:=(hB2.keeps hE3 (fun h=>h)).keeps hE4 (by have:=hB2.lt;omega)) |(refine wpList_fill (vs:=emptyN.cells) rfl rfl rfl rfl hB24 rfl Tryz.szNode (NodeT.one _) ?_;intro W8 hB8 hE8))
 refine bodyPost_ret (results_cell_tmp rfl rfl rfl (run_loadVar_api W8 _ emptyN rfl hB8)) rfl ?_
 have hX4:Ext w2 W4:=hE3.trans' hE4 (fun x hx e=>by have e:x=w2.heap.size:=e;omega)
 exact⟨rfl,(HE2.out.trans hX4).trans' hE8 (fun x hx e=>by have e:x=w.heap.size:=e;omega)⟩
theorem inl_no(w:World)(s:ByteArray)(hs:s.size < 32)(h:∀ w,Calls Tryz.prog 95 #[.string s] w (GetNo w)):Calls Tryz.prog 111 #[.string s] w fun e w'=>e=.returned (.tuple #[emptyN.V,.bool false])∧Ext w w':=by
 have HR:=Hd h
 have c1:¬(32:Int)≤(s.size:Int):=by omega
 clear h
 go_enter Tryz.func111,Tryz.ntmps111
 go_wp2_with (refine wpList_new Tryz.allocNode rfl rfl ?_;intro W1 hB1 hE1)
 refine (HR.out W1).mono ?_
 rintro e w2 ⟨rfl,hE⟩
 have hB2:=hB1.keeps hE (fun h=>h)
 have HE2:=Hd (hE1.trans hE)
 clear hB1 hE1 hE
 unfold NodeT.V
 go_wp2_with (first |(refine wpList_new Tryz.allocNode rfl rfl ?_;intro W3 hB3 hE3;refine wpList_fill (vs:=emptyN.cells) rfl rfl rfl rfl hB3 rfl Tryz.szNode emptyN.one ?_;intro W4 hB4 hE4;have q0:W4.cell? ⟨w2.heap.size,0,none⟩=some (.int .i64 0):=hB4.cellL (by rfl);have hB24:=(hB2.keeps hE3 (fun h=>h)).keeps hE4 (by have:=hB2.lt;omega)) |(refine wpList_fill (vs:=emptyN.cells) rfl rfl rfl rfl hB24 rfl Tryz.szNode (NodeT.one _) ?_;intro W8 hB8 hE8))
 refine bodyPost_ret (results_cell_tmp rfl rfl rfl (run_loadVar_api W8 _ emptyN rfl hB8)) rfl ?_
 have hX4:Ext w2 W4:=hE3.trans' hE4 (fun x hx e=>by have e:x=w2.heap.size:=e;omega)
 exact⟨rfl,(HE2.out.trans hX4).trans' hE8 (fun x hx e=>by have e:x=w.heap.size:=e;omega)⟩
theorem cut_nil:cutN ⟨#[]⟩=none:=by decide +kernel
theorem inl_empty(w:World):Calls Tryz.prog 111 #[.string ⟨#[]⟩] w fun e w'=>e=.returned (.tuple #[emptyN.V,.bool false])∧Ext w w':=
 inl_no w ⟨#[]⟩ (by decide) fun w=>get_rno w _ fun w=>read_nosplit w _ (by decide) cut_nil
theorem hash_empty(w:World):Calls Tryz.prog 110 #[.string ⟨#[]⟩] w fun e w'=>e=.returned (.tuple #[.string ⟨#[]⟩,.bool false])∧Ext w w':=hash_any w ⟨#[]⟩ (by decide)
end
end Go.Proofs.YtpaacnhboilkkaaGreatDoor
