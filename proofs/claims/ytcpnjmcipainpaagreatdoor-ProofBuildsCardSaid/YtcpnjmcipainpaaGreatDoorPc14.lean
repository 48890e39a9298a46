/- Parts of the proof, one behind the other: NodeC. Each is under no condition but those that it states. -/
import Derived.Test.YtcpnjmcipainpaaGreatDoorPc11
import Derived.Test.YtcpnjmcipainpaaGreatDoorPc13
namespace Go.Proofs.YtcpnjmcipainpaaGreatDoor
set_option linter.unusedSimpArgs false
set_option linter.unusedVariables false
set_option maxRecDepth 100000
set_option maxHeartbeats 16000000
section
open Go Go.RowKit
theorem jhX{P:Program}{T e:TypeId}{n:Nat}(hu:P.underlying T=some (.array n e))(hs:(P.info? e).map (·.size)=some 1)(hag:∀ w,(isAgg e).run P w=.ok false w)(cs:List Value)(k:Nat)(hk:k < n)(x:Value)(hx:cs[k]?=some x)(w:World) :
  (Instr.index T (.agg cs.toArray) (.int .i64 (k:Int))).run P w=.ok x w:=by
 obtain⟨i,hi,hz⟩:=Option.map_eq_some_iff.1 hs
 have hsz:(sizeOf e).run P w=.ok 1 w:=by simp[sizeOf,typeInfo,hi,hz]
 have h1:(0:Int)≤(k:Int)∧(k:Int) < (n:Int):=by omega
 simp only[Instr.index,asIntOf,Sem.run_bind,Sem.run_pure,Result.andThen,run_underlying hu];rw[if_pos h1];simp only[Sem.run_bind,hsz,Result.andThen];simp[part,Sem.run_bind,hag,Result.andThen,hx,Sem.run_pure]
def jar:Nat→List ByteArray→List (Nat × ByteArray)
 | _,[]=>[]
 | i,r :: rs=>if r.size=0 then jar (i+1) rs else (i,r) :: jar (i+1) rs
def jac.refsL(n:jac):List (Nat × ByteArray):=jar 0 n.refs
theorem jcM:∀ (a b:List ByteArray) (i:Nat),jar i (a++b)=jar i a++jar (i+a.length) b
 | [],b,i=>by simp[jar]
 | x :: a,b,i=>by
  have h:=jcM a b (i+1);simp only[List.cons_append,jar,List.length_cons];rw[h,show i+1+a.length=i+(a.length+1) by omega];split <;> simp
end
end Go.Proofs.YtcpnjmcipainpaaGreatDoor
