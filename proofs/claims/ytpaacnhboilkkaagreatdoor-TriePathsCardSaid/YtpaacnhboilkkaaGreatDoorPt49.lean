/- Parts of the proof, one behind the other: OpenA. Each is under no condition but those that it states. -/
import Derived.Test.YtpaacnhboilkkaaGreatDoorPt27
import Derived.Test.YtpaacnhboilkkaaGreatDoorPt48
import Derived.WalkKit
import Derived.ProofKit
import Derived.OpenShut
import Derived.Lib.SmallJoins
import Derived.JoinedCond
import Derived.Deep.Slices
import Derived.Carry
namespace Go.Proofs.YtpaacnhboilkkaaGreatDoor
set_option linter.unusedSimpArgs false
set_option linter.unusedVariables false
set_option maxRecDepth 100000
set_option maxHeartbeats 16000000
section
open Go Go.ChangeShapes Go.WideShapes Go.ChangeAt Go.RowKit Go.Deep
theorem Tryz.cellsChg:Tryz.prog.cellsOf 66=3:=by kernel_rfl
section
variable {H:Type} {enc:TypeId × Value→H} {w:World} {base:Nat} {spare:Nat→Bool} {held:Bool}
theorem open_chg{n:Nat}{a:Addr}{cs:List Value}{x:DataW H × List MemPlace}(hc:w.cells? base a 3=some cs)(h:DataW.trod enc Tryz.prog w base spare held n 66 cs=some x) :
  ∃ p:Chg,w.cell? (a.add 0)=some (.string p.key)∧w.cell? (a.add 1)=some (.string p.value)∧w.cell? (a.add 2)=some (.bool p.gone)∧p.key.size≤9223372036854775807∧p.value.size≤9223372036854775807:=by
 obtain⟨_,hl,hg⟩:=World.cells?_some hc
 obtain⟨xs,m,_,_,_,hxl,hf⟩:=DataW.trod_struct Tryz.underlying66 h
 match cs,hl with
 | [c0,c1,c2],_ =>
  have f0:DataW.trod enc Tryz.prog w base spare held m 9 (([c0,c1,c2].drop 0).take (Tryz.prog.cellsOf 9))=xs[0]?:=hf 0 _ rfl
  have f1:DataW.trod enc Tryz.prog w base spare held m 9 (([c0,c1,c2].drop 1).take (Tryz.prog.cellsOf 9))=xs[1]?:=hf 1 _ rfl
  have f2:DataW.trod enc Tryz.prog w base spare held m 4 (([c0,c1,c2].drop 2).take (Tryz.prog.cellsOf 4))=xs[2]?:=hf 2 _ rfl
  rw[Tryz.cellsStr]at f0 f1
  rw[Tryz.cellsBool]at f2
  dsimp only[List.drop,List.take]at f0 f1 f2
  have hx:∀ i,i < 3→∃ y,xs[i]?=some y:=fun i hi=>⟨_,List.getElem?_eq_getElem (by rw[hxl];exact hi)⟩
  obtain⟨y0,e0⟩:=hx 0 (by omega)
  obtain⟨y1,e1⟩:=hx 1 (by omega)
  obtain⟨y2,e2⟩:=hx 2 (by omega)
  rw[e0]at f0
  rw[e1]at f1
  rw[e2]at f2
  obtain⟨r,q0,_,w0⟩:=DataW.trod_string Tryz.underlying9 f0
  obtain⟨s,q1,_,w1⟩:=DataW.trod_string Tryz.underlying9 f1
  obtain⟨b,q2,_⟩:=DataW.trod_bool Tryz.underlying4 f2
  simp only[List.cons.injEq,and_true]at q0 q1 q2
  subst q0 q1 q2
  exact⟨⟨r,s,b⟩,hg 0 (by omega),hg 1 (by omega),hg 2 (by omega),Nat.le_trans w0 maxLen_big,Nat.le_trans w1 maxLen_big⟩
theorem open_changes{v:Value}{d:DataW H}{p:List MemPlace}(hv:∃ a n c,v=.slice a n c)(h:DataW.Trod enc Tryz.prog w 0 spare held 41 v d p) :
  ∃ l:List Chg,RdC w v l∧l.length≤9223372036854775807∧∀ p∈l,p.key.size≤9223372036854775807∧p.value.size≤9223372036854775807:=by
 obtain⟨a0,n0,c0,rfl⟩:=hv
 obtain⟨fuel,hf⟩:=h
 rcases open_slice Tryz.underlying41 hf with⟨hcs,_⟩ |⟨a,len,cap,m,n,D,Pl,hcs,_,hl,hm,hmm,_,hi⟩
 ·simp only[Value.cells]at hcs
  have hcs':Value.slice a0 n0 c0=.slice none 0 0:=by simpa using hcs
  rw[hcs']
  exact⟨[],.inl ⟨none,0,rfl,rfl⟩,by simp,by simp⟩
 ·have hcs':Value.slice a0 n0 c0=.slice (some a) len cap:=by simpa [Value.cells]using hcs
  rw[hcs']
  have hlm:len≤m:=by rw[hmm];split <;> omega
  obtain⟨l,hll,hlp⟩:=list_of len (⟨⟨#[]⟩,⟨#[]⟩,false⟩:Chg) (fun i p=>w.cell? ((a.add (i * 3)).add 0)=some (.string p.key)∧w.cell? ((a.add (i * 3)).add 1)=some (.string p.value)∧w.cell? ((a.add (i * 3)).add 2)=some (.bool p.gone)∧p.key.size≤9223372036854775807∧p.value.size≤9223372036854775807) (fun i hi'=>by
   obtain⟨cs',h1,h2⟩:=hi i (by omega)
   rw[Tryz.cellsChg]at h1
   exact open_chg h1 h2)
  have hsz:∀ p∈l,p.key.size≤9223372036854775807∧p.value.size≤9223372036854775807:=fun p hp=>by
   obtain⟨i,hi⟩:=List.getElem?_of_mem hp
   exact (hlp i p hi).2.2.2
  have hlen:l.length≤9223372036854775807:=by have:=maxLen_big;omega
  refine⟨l,?_,hlen,hsz⟩
  by_cases h0:len=0
  ·subst h0
   exact .inl ⟨some a,cap,rfl,List.eq_nil_of_length_eq_zero hll⟩
  ·obtain⟨p0,hp0⟩:∃ p,l[0]?=some p:=⟨_,List.getElem?_eq_getElem (by omega)⟩
   have hspot:a.spot=none:=by simpa [Addr.add]using World.cell?_spot (hlp 0 p0 hp0).1
   obtain⟨b,o,sp⟩:=a
   dsimp only at hspot
   subst hspot
   refine .inr ⟨b,o,cap,by rw[hll],World.block_lt_of_cell? w _ (hlp 0 p0 hp0).1,by omega,fun j x hx=>?_⟩
   obtain⟨q1,q2,q3,_⟩:=hlp j x hx
   rw[Go.Deep.add_add,Go.WideShapes.add_plain]at q1 q2 q3
   exact⟨q1,q2,q3⟩
end
end
end Go.Proofs.YtpaacnhboilkkaaGreatDoor
