/- Parts of the proof, one behind the other: NodeF. Each is under no condition but those that it states. -/
import Derived.Test.YtcpnjmcipainpaaGreatDoorPb17
import Derived.Test.YtcpnjmcipainpaaGreatDoorPb5
namespace Go.Proofs.YtcpnjmcipainpaaGreatDoor
set_option linter.unusedSimpArgs false
set_option linter.unusedVariables false
set_option maxRecDepth 100000
set_option maxHeartbeats 16000000
section
open Go Go.RowKit
theorem jaA(b:ByteArray):(jam b).size≤b.size+9:=by
 unfold jam;split
 ·omega
 ·rw[ByteArray.size_append];have:=jcy 128 b.size;omega
theorem jhB(s:ByteArray):(jdn s).size=s.size / 2:=by
 show (jbL s.data.toList).length=_;rw[jcf];rfl
theorem jaY(p:ByteArray)(leaf:Bool):(putB p leaf).size≤p.size / 2+1:=by
 unfold putB;rw[jhB];show (jbv p leaf++p.data.toList).length / 2≤_;rw[List.length_append,show p.data.toList.length=p.size from rfl];unfold jbv oddB
 by_cases h:p.size % 2=1
 ·simp[h];omega
 ·have:(p.size % 2 == 1)=false:=by simpa using h
  rw[this];simp
theorem jaJ(x:ByteArray)(xs:List ByteArray):(catB (x :: xs)).size=x.size+(catB xs).size:=by
 show ((x :: xs).map (·.data.toList)).flatten.length=x.data.toList.length+(xs.map (·.data.toList)).flatten.length;rw[List.map_cons,List.flatten_cons,List.length_append]
theorem jbC:(catB []).size=0:=rfl
theorem jbZ(w:World)(xs:List ByteArray)(T:TypeId):RdS (w.alloc (.cells (xs.map Value.string).toArray T)) (.slice (some ⟨w.heap.size,0,none⟩) xs.length xs.length) xs:=
 .inr ⟨w.heap.size,0,xs.length,rfl,by simp,Nat.le_refl _,fun j x hx=>by rw[Nat.zero_add];exact (Blk.new w _).cellL (by rw[List.getElem?_map,hx];rfl)⟩
def jiO(n:jae):ByteArray:=jaR [jam (putB n.path true),jam n.value]
def extB(n:jae):ByteArray:=jaR [jam (putB n.path false),n.refs.getD 0 ⟨#[]⟩]
theorem Tryz.enterText:∀ args w,(callFunc 160 args).run Tryz.prog w=.ok (.enter 160 args) w:=fun _ _=>by kernel_rfl
theorem Tryz.enterList:∀ args w,(callFunc 233 args).run Tryz.prog w=.ok (.enter 233 args) w:=fun _ _=>by kernel_rfl
theorem jiP(w:World)(n:jae)(hps:n.path.size≤900000)(hvs:n.value.size≤100000)(hv:jaO n.path=true):Calls Tryz.prog 196 #[n.V] w fun e w'=>e=.returned (.string (jiO n))∧Ext w w':=by
 obtain⟨k,p,v,rs⟩:=n
 simp only at hps hvs hv;unfold jae.V;have e1:(jae.cells ⟨k,p,v,rs⟩)[1]?=some (.string p):=rfl;have e2:(jae.cells ⟨k,p,v,rs⟩)[2]?=some (.string v):=rfl;have hs1:=jaY p true;have hs2:=jaA (putB p true);have hs3:=jaA v;go_enter Tryz.func196,Tryz.ntmps196;go_wp2_with fail
 refine (joc _ p true hps hv).mono ?_;rintro e w1 ⟨rfl,hE⟩;have hB:=(Blk.new w _).keeps hE (fun h=>h);have hE1:=((ExtR w).alloc _).trans hE
 obtain⟨g,hg⟩:∃ g,g=w.heap.size:=⟨_,rfl⟩
 rw[←hg]at hB ⊢;have q2:=hB.cellL e2
 obtain⟨put,hput⟩:∃ put,put=putB p true:=⟨_,rfl⟩
 rw[←hput]at hs1 hs2 ⊢;have HL:=Hd (show jiO ⟨k,p,v,rs⟩=jaR [jam put,jam v] by unfold jiO;rw[hput]);have HE1:=Hd hE1;have Q2:=Hd q2;have hput1:put.size≤1000000000:=by omega
 have hc:(catB [jam put,jam v]).size≤1000000000:=by rw[jaJ,jaJ,jbC];omega
 have HC:=Hd hc;have HP:=Hd hput1;have HV:=Hd hvs;clear e1 e2 hs1 hs2 hs3 hB hg hput hE hE1 q2 hput1 hc hps hv hvs;go_wp2_with fail
 refine jad [0,2,1,3,4,5,6,7] Ext ExtR ExtT (by kernel_rfl) (by kernel_rfl) (by kernel_rfl) ?_;iterate 2 (refine jac _ rfl (by kernel_rfl) rfl rfl (fun K hK=>?_);go_big_quiet_op;refine hK _ ?_;clear hK K)
 refine jav _ 160 #[.string put] (.string (jam put)) rfl (by kernel_rfl) rfl (fun w1=>jan Tryz.enterText (by kernel_rfl)) (fun w1 h1=>jcP w1 put HP.o) ?_;simp only[Act.put,sA,sB,sC];refine jai ⟨g,2,none⟩ _ rfl (by kernel_rfl) rfl rfl (fun w2 h2=>jaa Tryz.uStr rfl (jab (by exact Q2.o) h2)) ?_;simp only[Act.put,sA,sB,sC];refine jav _ 160 #[.string v] (.string (jam v)) rfl (by kernel_rfl) rfl (fun w1=>jan Tryz.enterText (by kernel_rfl)) (fun w1 h1=>jcP w1 v (by have:=HV.o;omega)) ?_;simp only[Act.put,sA,sB,sC];refine jdP _ rfl (by kernel_rfl) rfl (fun w2 he K hK=>?_);have HE2:=Hd (HE1.o.trans ((jaj w1).trans he));have HR:=Hd (jbZ w2 [jam put,jam v] 9);clear he HE1 Q2 HV HP;go_simp;refine hK _ _ ((ExtR w2).alloc _) ?_;clear hK K;refine jav _ 233 _ (.string (jaR [jam put,jam v])) rfl (by kernel_rfl) rfl (fun w1=>jan Tryz.enterList (by kernel_rfl)) (fun w3 h3=>jjY w3 _ [jam put,jam v] (HR.o.ext (by exact h3)) HC.o (show 2≤1000000000 by decide)) ?_;simp only[Act.put,sA,sB,sC]
 (refine jac _ rfl (by kernel_rfl) rfl rfl (fun K hK=>?_);go_big_quiet_op;refine hK _ ?_;clear hK K)
 refine jas (by kernel_rfl) (fun w3 he=>?_);go_wp2_with fail
 go_ret
 exact⟨by rw[HL.o];rfl,(HE2.o.alloc _).trans he⟩
theorem jjP(w:World)(n:jae)(hps:n.path.size≤900000)(r:ByteArray)(hr:n.refs=r :: n.refs.tail)(hvs:r.size≤100000)(hv:jaO n.path=true):Calls Tryz.prog 197 #[n.V] w fun e w'=>e=.returned (.string (extB n))∧Ext w w':=by
 obtain⟨k,p,v,rs⟩:=n
 simp only at hps hvs hr hv;cases rs with
 | nil=>cases hr
 | cons r' rt =>
 simp only[List.tail_cons,List.cons.injEq,and_true]at hr;subst hr;unfold jae.V;have e1:(jae.cells ⟨k,p,v,r' :: rt⟩)[1]?=some (.string p):=rfl;have e2:(jae.cells ⟨k,p,v,r' :: rt⟩)[3]?=some (.string r'):=rfl;have hs1:=jaY p false;have hs2:=jaA (putB p false);go_enter Tryz.func197,Tryz.ntmps197;go_wp2_with fail
 refine (joc _ p false hps hv).mono ?_;rintro e w1 ⟨rfl,hE⟩;have hB:=(Blk.new w _).keeps hE (fun h=>h);have hE1:=((ExtR w).alloc _).trans hE
 obtain⟨g,hg⟩:∃ g,g=w.heap.size:=⟨_,rfl⟩
 rw[←hg]at hB ⊢;have q2:=hB.cellL e2
 obtain⟨put,hput⟩:∃ put,put=putB p false:=⟨_,rfl⟩
 rw[←hput]at hs1 hs2 ⊢;have HL:=Hd (show extB ⟨k,p,v,r' :: rt⟩=jaR [jam put,r'] by unfold extB;rw[hput];rfl);have HE1:=Hd hE1;have Q2:=Hd q2;have hput1:put.size≤1000000000:=by omega
 have hc:(catB [jam put,r']).size≤1000000000:=by rw[jaJ,jaJ,jbC];omega
 have HC:=Hd hc;have HP:=Hd hput1;have HV:=Hd hvs;clear e1 e2 hs1 hs2 hB hg hput hE hE1 q2 hput1 hc hps hv hvs;go_wp2_with fail
 refine jad [0,1,2,3,4,5,6,7] Ext ExtR ExtT (by kernel_rfl) (by kernel_rfl) (by kernel_rfl) ?_
 (refine jac _ rfl (by kernel_rfl) rfl rfl (fun K hK=>?_);go_big_quiet_op;refine hK _ ?_;clear hK K)
 refine jav _ 160 #[.string put] (.string (jam put)) rfl (by kernel_rfl) rfl (fun w1=>jan Tryz.enterText (by kernel_rfl)) (fun w1 h1=>jcP w1 put HP.o) ?_;simp only[Act.put,sA,sB,sC];iterate 2 (refine jac _ rfl (by kernel_rfl) rfl rfl (fun K hK=>?_);go_big_quiet_op;refine hK _ ?_;clear hK K)
 refine jai ⟨g,3,none⟩ _ rfl (by kernel_rfl) rfl rfl (fun w2 h2=>jaa Tryz.uStr rfl (jab (by exact Q2.o) h2)) ?_;simp only[Act.put,sA,sB,sC];refine jdP _ rfl (by kernel_rfl) rfl (fun w2 he K hK=>?_);have HE2:=Hd (HE1.o.trans ((jaj w1).trans he));have HR:=Hd (jbZ w2 [jam put,r'] 9);clear he HE1 Q2 HV HP;go_simp;refine hK _ _ ((ExtR w2).alloc _) ?_;clear hK K;refine jav _ 233 _ (.string (jaR [jam put,r'])) rfl (by kernel_rfl) rfl (fun w1=>jan Tryz.enterList (by kernel_rfl)) (fun w3 h3=>jjY w3 _ [jam put,r'] (HR.o.ext (by exact h3)) HC.o (show 2≤1000000000 by decide)) ?_;simp only[Act.put,sA,sB,sC]
 (refine jac _ rfl (by kernel_rfl) rfl rfl (fun K hK=>?_);go_big_quiet_op;refine hK _ ?_;clear hK K)
 refine jas (by kernel_rfl) (fun w3 he=>?_);go_wp2_with fail
 go_ret
 exact⟨by rw[HL.o];rfl,(HE2.o.alloc _).trans he⟩
end
end Go.Proofs.YtcpnjmcipainpaaGreatDoor
