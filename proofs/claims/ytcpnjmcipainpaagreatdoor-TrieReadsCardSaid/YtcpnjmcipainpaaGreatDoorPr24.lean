/- Lemmas; each is under no condition but those that it states. -/
import Derived.Test.YtcpnjmcipainpaaGreatDoorPr20
import Derived.Test.YtcpnjmcipainpaaGreatDoorPr23
import Derived.Sort.OwnSorted
namespace Go.Proofs.YtcpnjmcipainpaaGreatDoor
set_option linter.unusedSimpArgs false
set_option linter.unusedVariables false
set_option maxRecDepth 100000
set_option maxHeartbeats 16000000
open Go Go.RowKit
section
attribute [local go_sem] Oper.semAt_some
def jfL(l:List (List UInt8)):List (List UInt8):=l.mergeSort fun x y=>decide (x<=y)
def baL(l:List (List UInt8)):List vB:=l.map fun x=>⟨x.toArray⟩
theorem jgd(l:List (List UInt8)):(jfL l).length=l.length:=by simp[jfL]
theorem jo5{a b:List (List UInt8)}(h:a.Perm b):jfL a=jfL b:=by
 have tr:∀ a b c:List UInt8,decide (a<=b)=true->decide (b<=c)=true->decide (a<=c)=true:=fun a b c h1 h2=>by simp only[decide_eq_true_eq]at *;exact List.le_trans h1 h2
 have to:∀ a b:List UInt8,(decide (a<=b) || decide (b<=a))=true:=fun a b=>by simp only[Bool.or_eq_true,decide_eq_true_eq];exact List.le_total a b
 refine List.Perm.eq_of_pairwise (le:=fun x y=>decide (x<=y)=true) (fun x y _ _ h1 h2=>by simp only[decide_eq_true_eq]at h1 h2;exact List.le_antisymm h1 h2) (List.pairwise_mergeSort tr to a) (List.pairwise_mergeSort tr to b) ?_;exact (List.mergeSort_perm a _).trans (h.trans (List.mergeSort_perm b _).symm)
theorem juY(l:List (List UInt8)):(baL l).map Value.string=l.map encStr:=by
 unfold baL;rw[List.map_map];rfl
theorem jxY{w0 w:World}{v:Value}{n:Nat}{ks:List (List UInt8)}(h:ORow 9 1 w0 w v n (ks.map encStr))(hn:n<=1000000) :
  vQ 85 #[v] w fun e w'=>e=.returned (.tuple #[])/\ORow 9 1 w0 w' v n ((jfL ks).map encStr):=by
 have hl:ks.length=n:=by have:=h.len;simpa using this
 rcases h.own.2 with⟨e0,_⟩ |⟨g,cap,cur,e0,h3,h4,h5,h6,h7,h8⟩
 ·subst e0
  obtain⟨a,c,e⟩:=h.sl
  injection e with e1 e2 e3;subst e2
  have:ks=[]:=List.eq_nil_of_length_eq_zero hl
  subst this;refine (Tryz.slices_Sort_string_none none 0 w).mono ?_;rintro e w' ⟨rfl,rfl⟩
  exact⟨rfl,by simpa [jfL]using h⟩
 ·subst e0
  subst hl;refine (Tryz.slices_Sort_string g 0 cap ks w (holds_of_block h4 (by simpa using h8)) (Array.getElem?_eq_some_iff.1 h4).1 vO).mono ?_;rintro e w' ⟨rfl,q,os,rfl⟩
  refine⟨rfl,⟨_,_,rfl⟩,ownsRow_sorted (jgd ks) (Nat.zero_le _) h4 h5 h6 h7,?_,h.new⟩
  exact h.ext.trans' (jae.of_grown (F:=fun b=>b=g) (grownBy_sorted _) (fun r hr _=>by cases hr;rfl)) (fun x hx e=>by have:=h.new g rfl;omega)
end
end Go.Proofs.YtcpnjmcipainpaaGreatDoor
