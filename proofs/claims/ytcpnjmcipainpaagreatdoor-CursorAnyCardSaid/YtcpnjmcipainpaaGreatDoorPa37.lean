/- Parts of the proof, one behind the other: OpenE, OpenT. Each is under no condition but those that it states. -/
import Derived.Test.YtcpnjmcipainpaaGreatDoorPa17
import Derived.Test.YtcpnjmcipainpaaGreatDoorPa6
import Derived.WalkKit
import Derived.ProofKit
import Derived.OpenShut
import Derived.Lib.SmallJoins
import Derived.JoinedCond
import Derived.Deep.Slices
import Derived.Carry
namespace Go.Proofs.YtcpnjmcipainpaaGreatDoor
set_option linter.unusedSimpArgs false
set_option linter.unusedVariables false
set_option maxRecDepth 100000
set_option maxHeartbeats 16000000
section
open Go Go.ChangeShapes Go.WideShapes Go.ChangeAt Go.RowKit Go.Deep
theorem Tryz.ownK:ownKnob Tryz.prog.godebug=none:=by kernel_rfl
theorem Tryz.laidOutK:laidOutB Tryz.prog=true:=by kernel_rfl
theorem Tryz.cellsStr:Tryz.prog.cellsOf 9=1:=by kernel_rfl
theorem jdH:maxLen≤9223372036854775807:=by unfold maxLen;omega
section
variable {H:Type} {enc:TypeId × Value→H} {w:World} {base:Nat} {spare:Nat→Bool} {held:Bool}
theorem jpu{α:Type}(n:Nat)(d:α)(P:Nat→α→Prop)(h:∀ i,i < n→∃ x,P i x):∃ l:List α,l.length=n∧∀ i x,l[i]?=some x→P i x:=by
 induction n with
 | zero=>exact⟨[],rfl,fun i x hx=>by simp at hx⟩
 | succ n ih =>
  obtain⟨l,h1,h2⟩:=ih fun i hi=>h i (by omega)
  obtain⟨x,hx⟩:=h n (by omega)
  refine⟨l++[x],by simp[h1],fun i y hy=>?_⟩
  by_cases hi:i < n
  ·rw[List.getElem?_append_left (by omega)]at hy;exact h2 i y hy
  ·rw[List.getElem?_append_right (by omega)]at hy
   have:i - l.length=0:=by
    have:=(List.getElem?_eq_some_iff.1 hy).1
    simp at this;omega
   rw[this]at hy;simp at hy;subst hy;rw[show i=n by omega];exact hx
end
end
section
open Go Go.ChangeShapes Go.WideShapes Go.ChangeAt Go.RowKit Go.Deep
section
variable {H:Type} {enc:TypeId × Value→H} {w:World} {base:Nat} {spare:Nat→Bool} {held:Bool}
theorem jkp{v:Value}{d:DataW H}{p:List MemPlace}(hv:∃ a n c,v=.slice a n c)(h:DataW.Trod enc Tryz.prog w 0 spare held 34 v d p) :
  ∃ l:List ByteArray,RdS w v l∧l.length≤9223372036854775807∧∀ t∈l,t.size≤9223372036854775807:=by
 obtain⟨a0,n0,c0,rfl⟩:=hv
 obtain⟨fuel,hf⟩:=h
 rcases open_slice Tryz.underlying34 hf with⟨hcs,_⟩ |⟨a,len,cap,m,n,D,Pl,hcs,_,hl,hm,hmm,_,hi⟩
 ·simp only[Value.cells]at hcs
  have hcs':Value.slice a0 n0 c0=.slice none 0 0:=by simpa using hcs
  rw[hcs']
  exact⟨[],.inl ⟨none,0,rfl,rfl⟩,by simp,by simp⟩
 ·have hcs':Value.slice a0 n0 c0=.slice (some a) len cap:=by simpa [Value.cells]using hcs
  rw[hcs'];have hlm:len≤m:=by rw[hmm];split <;> omega
  obtain⟨l,hll,hlp⟩:=jpu len (⟨#[]⟩:ByteArray) (fun i x=>w.cell? ((a.add (i * 1)).add 0)=some (.string x)∧x.size≤9223372036854775807) (fun i hi'=>by
   obtain⟨cs',h1,h2⟩:=hi i (by omega)
   rw[Tryz.cellsStr]at h1
   obtain⟨_,hcl,hg⟩:=World.cells?_some h1
   obtain⟨x,q0,_,wz⟩:=DataW.trod_string Tryz.underlying9 h2
   subst q0
   exact⟨x,hg 0 (by omega),Nat.le_trans wz jdH⟩)
  have hsz:∀ t∈l,t.size≤9223372036854775807:=fun t ht=>by
   obtain⟨i,hi⟩:=List.getElem?_of_mem ht
   exact (hlp i t hi).2
  have hlen:l.length≤9223372036854775807:=by have:=jdH;omega
  refine⟨l,?_,hlen,hsz⟩
  by_cases h0:len=0
  ·subst h0
   exact .inl ⟨some a,cap,rfl,List.eq_nil_of_length_eq_zero hll⟩
  ·obtain⟨p0,hp0⟩:∃ p,l[0]?=some p:=⟨_,List.getElem?_eq_getElem (by omega)⟩
   have hspot:a.spot=none:=by simpa [Addr.add]using World.cell?_spot (hlp 0 p0 hp0).1
   obtain⟨b,o,sp⟩:=a
   dsimp only at hspot;subst hspot;refine .inr ⟨b,o,cap,by rw[hll],World.block_lt_of_cell? w _ (hlp 0 p0 hp0).1,by omega,fun j x hx=>?_⟩;have q1:=(hlp j x hx).1;rw[Go.Deep.add_add,Go.WideShapes.add_plain,Nat.mul_one]at q1;exact q1
end
end
end Go.Proofs.YtcpnjmcipainpaaGreatDoor
