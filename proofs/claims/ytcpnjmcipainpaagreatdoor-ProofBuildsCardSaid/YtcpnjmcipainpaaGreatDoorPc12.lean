/- Parts of the proof, one behind the other: Iter. Each is under no condition but those that it states. -/
import Derived.Test.YtcpnjmcipainpaaGreatDoorPc1
import Derived.Sort.QuietIn
namespace Go.Proofs.YtcpnjmcipainpaaGreatDoor
set_option linter.unusedSimpArgs false
set_option linter.unusedVariables false
set_option maxRecDepth 100000
set_option maxHeartbeats 16000000
section
open Go Go.RowKit
structure Supp(C:BSet→World→Prop):Prop where
 lt:∀ D W,C D W→∀ b,D b→b < W.heap.size
 st:∀ D W W',C D W→W.heap.size≤W'.heap.size→(∀ b,D b→W'.heap[b]?=W.heap[b]?)→C D W'
theorem Supp.keeps{C:BSet→World→Prop}(h:Supp C){D F:BSet}{W W':World}(hc:C D W)(k:jag F W W')(hd:∀ b,D b→¬ F b):C D W':=
 h.st D W W' hc k.size fun b hb=>k.block b (h.lt D W hc b hb) (hd b hb)
def jlM(P:Program)(l:Nat)(args:Array Value)(D:BSet)(W:World)(Ct Cf:BSet→World→Prop):Prop:=
 YieldAt Fence.wide 0 P l args W fun e W'=>∃ D':BSet,jag D W W'∧(∀ b,D' b→D b∨W.heap.size≤b) ∧
  ((e=.returned (.bool true)∧Ct D' W')∨(e=.returned (.bool false)∧Cf D' W'))
def jhm(W:World)(M D O:BSet)(N:Nat)(C Cx SE:Nat→BSet→World→Prop)(e:Ending)(W':World):Prop:=
 (∃ v,e=.returned v)∧∃ D' O':BSet,jag (fun b=>D b∨M b) W W'∧(∀ b,D' b→D b∨W.heap.size≤b)∧(∀ b,O' b→O b∨W.heap.size≤b)∧(∀ b,D' b→¬ O' b) ∧
  ((C N D' W'∧SE N O' W')∨∃ k,k≤N∧0 < k∧Cx k D' W'∧SE k O' W')
def jq9(D:BSet)(W:World)(Ct:BSet→World→Prop)(Cj:Code→BSet→World→Prop):Exit→Act→World→Prop
 | .normal,_,W'=>∃ D':BSet,jag D W W'∧(∀ b,D' b→D b∨W.heap.size≤b)∧Ct D' W'
 | .ret,_,W'=>∃ D':BSet,jag D W W'∧(∀ b,D' b→D b∨W.heap.size≤b)∧Cj .ret D' W'
 | .exit i,_,W'=>∃ D':BSet,jag D W W'∧(∀ b,D' b→D b∨W.heap.size≤b)∧Cj (.exit i) D' W'
 | _,_,_=>False
def jhH(ops:Array Oper):Bool:=ops.toList.all fun o=>match o.op with | .defer _=>false | _=>true
theorem jle(p q:Tmp)(x y:Value)(t:List Value):(#[p,q].zip #[x,y]).foldl (fun t (p,v)=>t.setIfInBounds p v) t.toArray=((t.set p x).set q y).toArray:=by simp
theorem jsy(p:Tmp)(x:Value)(t:List Value):(#[p].zip #[x]).foldl (fun t (p,v)=>t.setIfInBounds p v) t.toArray=(t.set p x).toArray:=by simp
end
end Go.Proofs.YtcpnjmcipainpaaGreatDoor
