/- Lemmas; each is under no condition but those that it states. -/
import Derived.Test.YtcpnjmcipainpaaGreatDoorPr11
import Derived.Test.YtcpnjmcipainpaaGreatDoorPr13
namespace Go.Proofs.YtcpnjmcipainpaaGreatDoor
set_option linter.unusedSimpArgs false
set_option linter.unusedVariables false
set_option maxRecDepth 100000
set_option maxHeartbeats 16000000
open Go Go.RowKit
theorem jew{P:Program}{T e:TypeId}{n:Nat}(hu:P.underlying T=some (.array n e))(hs:(P.info? e).map (·.size)=some 1)(hag:∀ w,(isAgg e).run P w=.ok false w)(cs:List Value)(k:Nat)(hk:k < n)(x:Value)(hx:cs[k]?=some x)(w:World) :
  (Instr.index T (.agg cs.toArray) (.int .i64 (k:Int))).run P w=.ok x w:=by
 obtain⟨i,hi,hz⟩:=Option.map_eq_some_iff.1 hs
 have hsz:(sizeOf e).run P w=.ok 1 w:=by simp[sizeOf,typeInfo,hi,hz]
 have h1:(0:Int)<=(k:Int)/\(k:Int) < (n:Int):=by omega
 simp only[Instr.index,asIntOf,Sem.run_bind,Sem.run_pure,Result.andThen,run_underlying hu];rw[if_pos h1];simp only[Sem.run_bind,hsz,Result.andThen];simp[part,Sem.run_bind,hag,Result.andThen,hx,Sem.run_pure]
def jas:Nat->List vB->List (Nat × vB)
 | _,[]=>[]
 | i,r :: rs=>if r.size=0 then jas (i+1) rs else (i,r) :: jas (i+1) rs
def jad.refsL(n:jad):List (Nat × vB):=jas 0 n.refs
theorem jdA:∀ (a b:List vB) (i:Nat),jas i (a++b)=jas i a++jas (i+a.length) b
 | [],b,i=>by simp[jas]
 | x :: a,b,i=>by
  have h:=jdA a b (i+1);simp only[List.cons_append,jas,List.length_cons];rw[h,show i+1+a.length=i+(a.length+1) by omega];split <;> simp
end Go.Proofs.YtcpnjmcipainpaaGreatDoor
