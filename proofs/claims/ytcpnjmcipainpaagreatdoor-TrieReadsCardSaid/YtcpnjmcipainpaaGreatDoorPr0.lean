/- Short names for what comes again and again. -/
import Derived.Test.YtcpnjmcipainpaaGreatDoorProg
import Derived.WalkKit
namespace Go.Proofs.YtcpnjmcipainpaaGreatDoor
open Go
abbrev vB:=ByteArray
theorem vE{α:Sort _}(a:α):∃ x,x=a:=⟨a,rfl⟩
theorem vC{P:Program}{f:FuncId}{a:Array Value}{w:World}{v:Value}{R:World→Prop}{Q:Ending→World→Prop}(h:Calls P f a w fun e w'=>e=.returned v∧R w')(k:∀ w',R w'→Q (.returned v) w'):Calls P f a w Q:=h.mono fun e w' h=>by obtain⟨rfl,h⟩:=h;exact k w' h
theorem vX (f:FuncId)(h:∀ args w,(callFunc f args).run Tryz.prog w=.ok (.enter f args) w:=by exact fun _ _=>by kernel_rfl):∀ args w,(callFunc f args).run Tryz.prog w=.ok (.enter f args) w:=h
def vQ:=@Calls Tryz.prog
theorem vO{p:Prop}(h:p:=by omega):p:=h
theorem vY{p:Prop}(h:p:=by kernel_rfl):p:=h
theorem vF{p:Prop}(h:p:=by rfl):p:=h
theorem vI{p:Prop}(h:p:=by decide):p:=h
end Go.Proofs.YtcpnjmcipainpaaGreatDoor
