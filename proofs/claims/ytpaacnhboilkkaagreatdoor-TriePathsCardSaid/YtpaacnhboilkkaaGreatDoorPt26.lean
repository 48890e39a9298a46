/- Parts of the proof, one behind the other: CanonV. Each is under no condition but those that it states. -/
import Derived.Test.YtpaacnhboilkkaaGreatDoorPt23
import Derived.Test.YtpaacnhboilkkaaGreatDoorPt25
namespace Go.Proofs.YtpaacnhboilkkaaGreatDoor
set_option linter.unusedSimpArgs false
set_option linter.unusedVariables false
set_option maxRecDepth 100000
set_option maxHeartbeats 16000000
section
open Go Go.RowKit
attribute [local go_sem] Oper.semAt_some
theorem keyB_map(s:List EntS):(s.map keyB).map Value.string=(s.map (·.1)).map encStr:=by
 rw[List.map_map,List.map_map];rfl
theorem collect_c(w:World)(bx bm ck:Nat)(es:List EntS)(hk:KyS bx bm ck es w)(hnd:(es.map (·.2.2)).Nodup)(hlt:∀ x∈es,x.2.2 < ck)(hlen:es.length≤1000000) :
  Calls Tryz.prog 131 #[.func (.func 132) #[] #[.pointer (some ⟨bx,0,none⟩)]] w fun e w'=>∃ u s,e=.returned u∧InvS es s∧KDone es s∧SRow w w' u s.length (s.map keyB):=by
 have HT:=Hd (appseq_c w bx bm ck es hk hnd hlt hlen)
 clear hk hnd hlt hlen
 go_enter Tryz.func131,Tryz.ntmps131
 go_wp2_with fail
 refine HT.out.mono ?_
 rintro e w1 ⟨u,s,rfl,h1,h2,h3⟩
 obtain⟨a,c,rfl⟩:=h3.sl
 have H:=Hd (And.intro h1 (And.intro h2 h3))
 clear h1 h2 h3 HT
 go_wp2_with fail
 go_ret
 exact⟨_,s,rfl,H.out⟩
theorem sorted_c(w:World)(bx bm ck:Nat)(es:List EntS)(hk:KyS bx bm ck es w)(hnd:(es.map (·.2.2)).Nodup)(hkn:(es.map (·.1)).Nodup)(hlt:∀ x∈es,x.2.2 < ck)(hlen:es.length≤1000000) :
  Calls Tryz.prog 86 #[.func (.func 132) #[] #[.pointer (some ⟨bx,0,none⟩)]] w fun e w'=>∃ u,e=.returned u∧SRow w w' u es.length (baL (sortS (es.map (·.1)))):=by
 have HT:=Hd (collect_c w bx bm ck es hk hnd hlt hlen)
 have HP:=Hd (fun s (h1:InvS es s) (h2:KDone es s)=>h1.perm h2 hnd hkn)
 have HL:=Hd hlen
 clear hk hnd hlt hlen hkn
 go_enter Tryz.func86,Tryz.ntmps86
 go_wp2_with fail
 refine HT.out.mono ?_
 rintro e w1 ⟨u,s,rfl,h1,h2,h3⟩
 obtain⟨a,c,rfl⟩:=h3.sl
 have hp:=HP.out s h1 h2
 have hsl:s.length=es.length:=by simpa using hp.length_eq
 have h3':ORow 9 1 w w1 (.slice a s.length c) s.length ((s.map (·.1)).map encStr):=by
  have h4:=h3
  unfold SRow at h4
  rw[keyB_map]at h4;exact h4
 have HS:=Hd (sort_s h3' (by have:=HL.out;omega))
 rw[sortS_perm hp]at HS
 rw[hsl]at HS ⊢
 clear h1 h2 h3 h3' HT HP hp hsl
 go_wp2_with fail
 refine HS.out.mono ?_
 rintro e w2 ⟨rfl,h4⟩
 have H:=Hd h4
 clear h4 HS
 go_wp2_with fail
 go_ret
 refine⟨_,rfl,?_⟩
 unfold SRow
 rw[baL_map];exact H.out
theorem mapkeys_c(w:World)(bm:Nat):Calls Tryz.prog 87 #[.map (some bm)] w fun e w'=>e=.returned (.func (.func 132) #[] #[.pointer (some ⟨w.heap.size,0,none⟩)])∧Blk w' w.heap.size (.cells #[.map (some bm)] 132)∧Ext w w':=by
 go_enter Tryz.func87,Tryz.ntmps87
 go_wp2_with fail
 go_ret
 exact⟨rfl,Blk.new w _,(ExtR w).alloc _⟩
end
end Go.Proofs.YtpaacnhboilkkaaGreatDoor
