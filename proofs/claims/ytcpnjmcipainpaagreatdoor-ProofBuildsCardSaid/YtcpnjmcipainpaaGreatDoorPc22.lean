/- Parts of the proof, one behind the other: SortS, StoreB. Each is under no condition but those that it states. -/
import Derived.Test.YtcpnjmcipainpaaGreatDoorPc20
import Derived.Test.YtcpnjmcipainpaaGreatDoorPc21
import Derived.Sort.OwnSorted
namespace Go.Proofs.YtcpnjmcipainpaaGreatDoor
set_option linter.unusedSimpArgs false
set_option linter.unusedVariables false
set_option maxRecDepth 100000
set_option maxHeartbeats 16000000
section
open Go Go.RowKit
attribute [local go_sem] Oper.semAt_some
theorem MapV.lenL{es:List EntK}{ck:Nat}{L:List Nd5}(h:MapV es ck (L.map kvN)):es.length=L.length:=by rw[h.len];simp
theorem jqH(w:World)(s bm:Nat)(room:Int)(L:List Nd5)(h:jbo w s bm room L)(h0:0≤room)(h1:room≤9223372036854775807)(hl:L.length≤1000000):Calls Tryz.prog 84 #[.pointer (some ⟨s,0,none⟩)] w fun e w'=>e=.returned (.int .i64 (room - L.length))∧Ext w w':=by
 have Q1:=Hd (h.st.cell (i:=1) (v:=.map (some bm)) (by rfl));have Q0:=Hd (h.st.cell (i:=0) (v:=.int .i64 room) (by rfl))
 obtain⟨es,ck,hm,hmv⟩:=h.mp.mp
 have HM:=Hd hm
 obtain⟨n,hn⟩:∃ n,n=L.length:=⟨_,rfl⟩
 have hel:es.length=n:=by rw[hmv.lenL,hn]
 have HEL:=Hd hel;rw[←hn]at hl ⊢;clear h hm hmv hel hn;go_enter Tryz.func84,Tryz.ntmps84;go_wp2_with fail
 refine jan [0,1,2,3,4,5,6,7,8,9,10] Ext ExtR ExtT (by kernel_rfl) (by kernel_rfl) (by kernel_rfl) ?_
 (refine jae _ rfl (by kernel_rfl) rfl rfl (fun K hK=>?_);go_big_quiet_op;refine hK _ ?_;clear hK K)
 refine jbA _ (.pointer (some ⟨s,0,none⟩)) rfl (by kernel_rfl) rfl (fun w1 _=>by kernel_rfl) ?_;simp only[Act.put,sA,sB,sC]
 (refine jae _ rfl (by kernel_rfl) rfl rfl (fun K hK=>?_);go_big_quiet_op;refine hK _ ?_;clear hK K)
 refine jak ⟨s,0,none⟩ _ rfl (by kernel_rfl) rfl rfl (fun w1 h1=>jaa Tryz.underlying3 rfl (jab Q0.o ((jas _).trans h1))) ?_;simp only[Act.put,sA,sB,sC]
 (refine jae _ rfl (by kernel_rfl) rfl rfl (fun K hK=>?_);go_big_quiet_op;refine hK _ ?_;clear hK K)
 refine jbA _ (.pointer (some ⟨s,0,none⟩)) rfl (by kernel_rfl) rfl (fun w1 _=>by kernel_rfl) ?_;simp only[Act.put,sA,sB,sC]
 (refine jae _ rfl (by kernel_rfl) rfl rfl (fun K hK=>?_);go_big_quiet_op;refine hK _ ?_;clear hK K)
 refine jak ⟨s,1,none⟩ _ rfl (by kernel_rfl) rfl rfl (fun w1 h1=>jaa Tryz.underlying115 rfl (jab Q1.o ((jas _).trans h1))) ?_;simp only[Act.put,sA,sB,sC];refine jbA _ (.int .i64 es.length) rfl (by kernel_rfl) rfl (fun w1 h1=>by
  have hx:=jjM Tryz.ES Tryz.uMapIt (HM.o.keeps ((jas _).trans h1) (fun h=>h)) 3;simp[execOp,Act.eval,resolve,invoke,builtin,hx,Sem.run_bind,Result.andThen,Sem.run_pure]) ?_
 simp only[Act.put,sA,sB,sC];rw[HEL.o];iterate 2 (refine jae _ rfl (by kernel_rfl) rfl rfl (fun K hK=>?_);go_big_quiet_op;refine hK _ ?_;clear hK K)
 refine jaJ (by kernel_rfl) (fun w3 he=>?_);have HE:=Hd ((jas _).trans he);clear he;go_wp2_with fail
 go_ret
 exact⟨rfl,HE.o⟩
theorem Tryz.makeMapIt(W:World):(Instr.makeMap 115 none).run Tryz.prog W=.ok (.map (some W.heap.size)) (W.alloc (.map #[] 0)):=by kernel_rfl
theorem jpp(w:World)(room:Int):Calls Tryz.prog 37 #[.int .i64 room] w fun e w'=>∃ s bm,e=.returned (.pointer (some ⟨s,0,none⟩))∧Ext w w'∧jbo w' s bm (max room 0) []∧w.heap.size≤bm∧w.heap.size≤s∧s≠bm:=by
 have hmm:=Tryz.makeMapIt;go_enter Tryz.func37,Tryz.ntmps37;go_wp2_with fail
 go_ret
 refine⟨_,_,rfl,((ExtR w).alloc _).alloc _,⟨?_,⟨[],0,?_,MapV.nil 0⟩,by simp,fun x hx=>by cases hx⟩,Nat.le_refl _,Nat.le_succ _,by omega⟩
 ·exact (by simpa using Blk.new (w.alloc (.map #[] 0)) (.cells #[.int .i64 (max room 0),.map (some w.heap.size)] 123))
 ·exact (Blk.new w (.map #[] 0)).alloc _
end
end Go.Proofs.YtcpnjmcipainpaaGreatDoor
