/- Lemmas; each is under no condition but those that it states. -/
import Derived.Test.YtcpnjmcipainpaaGreatDoorPr17
import Derived.Lib.SmallJoins
namespace Go.Proofs.YtcpnjmcipainpaaGreatDoor
set_option linter.unusedSimpArgs false
set_option linter.unusedVariables false
set_option maxRecDepth 100000
set_option maxHeartbeats 16000000
section
open Go Go.ChangeShapes Go.WideShapes Go.ChangeAt Go.RowKit Go.Deep
theorem Tryz.ownK:ownKnob Tryz.prog.godebug=none:=by kernel_rfl
theorem Tryz.laidOutK:laidOutB Tryz.prog=true:=by kernel_rfl
theorem Tryz.cellsEnt:Tryz.prog.cellsOf 95=2:=by kernel_rfl
theorem Tryz.cellsStr:Tryz.prog.cellsOf 9=1:=by kernel_rfl
theorem jfg:maxLen<=9223372036854775807:=by unfold maxLen;omega
section
variable {H:Type} {enc:TypeId × Value->H} {w:World} {base:Nat} {spare:Nat->Bool} {held:Bool}
theorem jtu{n:Nat}{a:Addr}{cs:List Value}{x:DataW H × List MemPlace}(hc:w.cells? base a 2=some cs)(h:DataW.trod enc Tryz.prog w base spare held n 95 cs=some x) :
  ∃ p:Pair,w.cell? (a.add 0)=some (.string p.1)/\w.cell? (a.add 1)=some (.string p.2)/\p.1.size<=9223372036854775807/\p.2.size<=9223372036854775807:=by
 obtain⟨_,hl,hg⟩:=World.cells?_some hc
 obtain⟨xs,m,_,_,_,hxl,hf⟩:=DataW.trod_struct Tryz.underlying95 h
 match cs,hl with
 | [c0,c1],_ =>
  have f0:DataW.trod enc Tryz.prog w base spare held m 9 (([c0,c1].drop 0).take (Tryz.prog.cellsOf 9))=xs[0]?:=hf 0 _ rfl;have f1:DataW.trod enc Tryz.prog w base spare held m 9 (([c0,c1].drop 1).take (Tryz.prog.cellsOf 9))=xs[1]?:=hf 1 _ rfl;rw[Tryz.cellsStr]at f0 f1;dsimp only[List.drop,List.take]at f0 f1;have hx:∀ i,i < 2->∃ y,xs[i]?=some y:=fun i hi=>⟨_,List.getElem?_eq_getElem (by rw[hxl];exact hi)⟩
  obtain⟨y0,e0⟩:=hx 0 vO
  obtain⟨y1,e1⟩:=hx 1 vO
  rw[e0]at f0;rw[e1]at f1
  obtain⟨r,q0,_,w0⟩:=DataW.trod_string Tryz.underlying9 f0
  obtain⟨s,q1,_,w1⟩:=DataW.trod_string Tryz.underlying9 f1
  simp only[List.cons.injEq,and_true]at q0 q1;subst q0 q1
  exact⟨(r,s),hg 0 vO,hg 1 vO,Nat.le_trans w0 jfg,Nat.le_trans w1 jfg⟩
theorem jvz{α:Type}(n:Nat)(d:α)(P:Nat->α->Prop)(h:∀ i,i < n->∃ x,P i x):∃ l:List α,l.length=n/\∀ i x,l[i]?=some x->P i x:=by
 induction n with
 | zero=>exact⟨[],rfl,fun i x hx=>by simp at hx⟩
 | succ n ih =>
  obtain⟨l,h1,h2⟩:=ih fun i hi=>h i vO
  obtain⟨x,hx⟩:=h n vO
  refine⟨l++[x],by simp[h1],fun i y hy=>?_⟩
  by_cases hi:i < n
  ·rw[List.getElem?_append_left vO]at hy;exact h2 i y hy
  ·rw[List.getElem?_append_right vO]at hy
   have:i - l.length=0:=by
    have:=(List.getElem?_eq_some_iff.1 hy).1
    simp at this;omega
   rw[this]at hy;simp at hy;subst hy;rw[show i=n by omega];exact hx
theorem jld{v:Value}{d:DataW H}{p:List MemPlace}(hv:∃ a n c,v=.slice a n c)(h:DataW.Trod enc Tryz.prog w 0 spare held 22 v d p) :
  ∃ l:List Pair,RdP w v l/\l.length<=9223372036854775807/\∀ p∈l,p.1.size<=9223372036854775807/\p.2.size<=9223372036854775807:=by
 obtain⟨a0,n0,c0,rfl⟩:=hv
 obtain⟨fuel,hf⟩:=h
 rcases open_slice Tryz.underlying22 hf with⟨hcs,_⟩ |⟨a,len,cap,m,n,D,Pl,hcs,_,hl,hm,hmm,_,hi⟩
 ·simp only[Value.cells]at hcs
  have hcs':Value.slice a0 n0 c0=.slice none 0 0:=by simpa using hcs
  rw[hcs']
  exact⟨[],.inl ⟨none,0,rfl,rfl⟩,by simp,by simp⟩
 ·have hcs':Value.slice a0 n0 c0=.slice (some a) len cap:=by simpa [Value.cells]using hcs
  rw[hcs'];have hlm:len<=m:=by rw[hmm];split <;> omega
  obtain⟨l,hll,hlp⟩:=jvz len pd (fun i p=>w.cell? ((a.add (i * 2)).add 0)=some (.string p.1)/\w.cell? ((a.add (i * 2)).add 1)=some (.string p.2)/\p.1.size<=9223372036854775807/\p.2.size<=9223372036854775807) (fun i hi'=>by
   obtain⟨cs',h1,h2⟩:=hi i vO
   rw[Tryz.cellsEnt]at h1;exact jtu h1 h2)
  have hsz:∀ p∈l,p.1.size<=9223372036854775807/\p.2.size<=9223372036854775807:=fun p hp=>by
   obtain⟨i,hi⟩:=List.getElem?_of_mem hp
   exact (hlp i p hi).2.2
  have hlen:l.length<=9223372036854775807:=by have:=jfg;omega
  refine⟨l,?_,hlen,hsz⟩
  by_cases h0:len=0
  ·subst h0
   exact .inl ⟨some a,cap,rfl,List.eq_nil_of_length_eq_zero hll⟩
  ·obtain⟨p0,hp0⟩:∃ p,l[0]?=some p:=⟨_,List.getElem?_eq_getElem vO⟩
   have hspot:a.spot=none:=by simpa [Addr.add]using World.cell?_spot (hlp 0 p0 hp0).1
   obtain⟨b,o,sp⟩:=a
   dsimp only at hspot;subst hspot;refine .inr ⟨b,o,cap,by rw[hll],World.block_lt_of_cell? w _ (hlp 0 p0 hp0).1,by omega,fun j x hx=>?_⟩
   obtain⟨q1,q2,_⟩:=hlp j x hx
   rw[Go.Deep.add_add,Go.WideShapes.add_plain]at q1 q2
   exact⟨q1,q2⟩
end
end
end Go.Proofs.YtcpnjmcipainpaaGreatDoor
