/- Lemmas; each is under no condition but those that it states. -/
import Derived.Test.YtegloohdmjadoaaGreatDoorPu36
import Derived.Test.YtegloohdmjadoaaGreatDoorCards
import Derived.Test.YtegloohdmjadoaaGreatDoorTie
import Derived.Deep.DeepHandedRow
import Derived.Lay
namespace Go.Proofs.YtegloohdmjadoaaGreatDoor
set_option linter.unusedSimpArgs false
set_option linter.unusedVariables false
set_option maxRecDepth 100000
set_option maxHeartbeats 16000000
section
open Go Go.ChangeShapes Go.WideShapes Go.ChangeAt Go.RowKit Go.Deep
theorem Tryz.cellsChg:Tryz.prog.cellsOf 55=3:=vY
section
variable {H:Type} {enc:TypeId × vV->H} {w:vW} {base:Nat} {spare:Nat->Bool} {held:Bool}
theorem ju5{n:Nat}{a:Addr}{cs:List vV}{x:DataW H × List MemPlace}(hc:w.cells? base a 3=some cs)(h:DataW.trod enc Tryz.prog w base spare held n 55 cs=some x) :
  ∃ p:Chg,w.cell? (a.add 0)=some (.string p.key)/\w.cell? (a.add 1)=some (.string p.value)/\w.cell? (a.add 2)=some (.bool p.gone)/\p.key.size<=9223372036854775807/\p.value.size<=9223372036854775807:=by
 obtain⟨_,hl,E⟩:=World.cells?_some hc
 obtain⟨xs,m,_,_,_,J,K⟩:=DataW.trod_struct Tryz.underlying55 h
 match cs,hl with
 | [c0,c1,c2],_ =>
  have e:DataW.trod enc Tryz.prog w base spare held m 9 (([c0,c1,c2].drop 0).take (Tryz.prog.cellsOf 9))=xs[0]?:=K 0 _ rfl;have o:DataW.trod enc Tryz.prog w base spare held m 9 (([c0,c1,c2].drop 1).take (Tryz.prog.cellsOf 9))=xs[1]?:=K 1 _ rfl;have A:DataW.trod enc Tryz.prog w base spare held m 4 (([c0,c1,c2].drop 2).take (Tryz.prog.cellsOf 4))=xs[2]?:=K 2 _ rfl;rw[Tryz.cellsStr]at e o;rw[Tryz.cellsBool]at A;dsimp only[List.drop,List.take]at e o A;have O:∀ i,i < 3->∃ y,xs[i]?=some y:=fun i hi=>⟨_,bA (by rw[J];exact hi)⟩
  obtain⟨y0,e0⟩:=O 0 vO
  obtain⟨y1,e1⟩:=O 1 vO
  obtain⟨y2,e2⟩:=O 2 vO
  rw[e0]at e;rw[e1]at o;rw[e2]at A
  obtain⟨r,Q,_,w0⟩:=DataW.trod_string Tryz.underlying9 e
  obtain⟨s,X,_,w1⟩:=DataW.trod_string Tryz.underlying9 o
  obtain⟨b,Z,_⟩:=DataW.trod_bool Tryz.underlying4 A
  simp only[List.cons.injEq,and_true]at Q X Z;subst Q X Z
  exact⟨⟨r,s,b⟩,E 0 vO,E 1 vO,E 2 vO,bG w0 jdB,bG w1 jdB⟩
theorem jl8{v:vV}{d:DataW H}{p:List MemPlace}(hv:∃ a n c,v=.slice a n c)(h:DataW.Trod enc Tryz.prog w 0 spare held 23 v d p) :
  ∃ l:List Chg,RdC w v l/\l.length<=9223372036854775807/\∀ p∈l,p.key.size<=9223372036854775807/\p.value.size<=9223372036854775807:=by
 obtain⟨Z,n0,c0,rfl⟩:=hv
 obtain⟨a1,hf⟩:=h
 rcases open_slice Tryz.underlying23 hf with⟨hcs,_⟩ |⟨a,len,cap,m,n,D,Pl,hcs,_,hl,hm,hmm,_,Q⟩
 ·simp only[Value.cells]at hcs
  have e:Value.slice Z n0 c0=.slice none 0 0:=by simpa using hcs
  rw[e]
  exact⟨[],.inl ⟨none,0,rfl,rfl⟩,by simp,by simp⟩
 ·have e:Value.slice Z n0 c0=.slice (some a) len cap:=by simpa [Value.cells]using hcs
  rw[e];have a2:len<=m:=by rw[hmm];split <;> omega
  obtain⟨l,J,E⟩:=jr9 len (⟨⟨#[]⟩,⟨#[]⟩,false⟩:Chg) (fun i p=>w.cell? ((a.add (i * 3)).add 0)=some (.string p.key)/\w.cell? ((a.add (i * 3)).add 1)=some (.string p.value)/\w.cell? ((a.add (i * 3)).add 2)=some (.bool p.gone)/\p.key.size<=9223372036854775807/\p.value.size<=9223372036854775807) (fun i a3=>by
   obtain⟨a4,h1,h2⟩:=Q i vO
   rw[Tryz.cellsChg]at h1;exact ju5 h1 h2)
  have X:∀ p∈l,p.key.size<=9223372036854775807/\p.value.size<=9223372036854775807:=fun p hp=>by
   obtain⟨i,Q⟩:=gK hp
   exact (E i p Q).2.2.2
  have K:l.length<=9223372036854775807:=by have:=jdB;omega
  refine⟨l,?_,K,X⟩
  by_cases h0:len=0
  ·subst h0
   exact .inl ⟨some a,cap,rfl,bD J⟩
  ·obtain⟨p0,O⟩:∃ p,l[0]?=some p:=⟨_,bA vO⟩
   have A:a.spot=none:=by simpa [Addr.add]using World.cell?_spot (E 0 p0 O).1
   obtain⟨b,o,sp⟩:=a
   dsimp only at A;subst A;refine .inr ⟨b,o,cap,by rw[J],fE w _ (E 0 p0 O).1,by omega,fun j x hx=>?_⟩
   obtain⟨q1,q2,q3,_⟩:=E j x hx
   rw[Go.Deep.add_add,Go.WideShapes.add_plain]at q1 q2 q3
   exact⟨q1,q2,q3⟩
end
end
section
open Go Go.RowKit
def jrv:List Int:=jeU.map fun x=>(x.toNat:Int)
theorem jrw:(Rows.laid_guilloche_sha_cubes:DataW Unit)=Lib.tabData .u32 jrv:=vY
theorem Tryz.gCubes:Tryz.prog.globalNamed "guilloche/sha.cubes"=some 0:=vY
theorem Tryz.gCubesType:(Tryz.prog.globals[0]?).map (·.type)=some 184:=vY
theorem Tryz.uCubes:Tryz.prog.underlying 184=some (.array 64 145):=vY
theorem Tryz.cellsU32:Tryz.prog.cellsOf 145=1:=vY
theorem Tryz.cellsCubes:Tryz.prog.cellsOf 184=64:=vY
theorem jue{W:vW}(h:laidMetH Tryz.prog [("errors.errorType",Rows.laid_errors_errorType),("guilloche/sha.cubes",Rows.laid_guilloche_sha_cubes)] W):jbW W:=by
 have e:laidMet Tryz.prog [("guilloche/sha.cubes",Rows.laid_guilloche_sha_cubes)] W:=(laidMetH_iff.1 h).1;rw[jrw]at e;have m:=Lib.tabIs_of_head Tryz.gCubes Tryz.gCubesType Tryz.uCubes Tryz.uU32 Tryz.cellsU32 Tryz.cellsCubes e;intro i o
 have:=m.cell Tryz.gCubes i (by unfold jrv;rw[bU];exact o)
 rw[this];unfold jrv wv;simp only[bC,bV];cases jeU[i]? <;> rfl
theorem Tryz.gErr:Tryz.prog.globalNamed "errors.errorType"=some 1:=vY
theorem Tryz.rtypeCut:(Tryz.prog.cutTypes.find? (·.1 == "internal/reflectlite.rtype")).map (·.2)=some 250:=vY
theorem Tryz.errRow:(List.range Tryz.prog.types.size).all (fun t => !(Tryz.prog.rowNamed t [101,114,114,111,114]) || t == 211)=true:=vY
theorem Tryz.errHandle:typeHandle Tryz.prog 211=.pointer (some ⟨3,211,none⟩):=vY
theorem jy7{W:vW}(h:laidMetH Tryz.prog [("errors.errorType",Rows.laid_errors_errorType),("guilloche/sha.cubes",Rows.laid_guilloche_sha_cubes)] W):ErrT W:=by
 have A:=(laidMetH_iff.1 h).2 ("errors.errorType",Rows.laid_errors_errorType) (by simp[Rows.laid_errors_errorType,DataW.handleName?]);have E:∃ e u ty,(Rows.laid_errors_errorType:DataW Unit).handleName?=some e/\(Tryz.prog.cutTypes.find? (·.1 == "internal/reflectlite.rtype")).map (·.2)=some u/\ty < Tryz.prog.types.size/\Tryz.prog.rowNamed ty e=true/\W.var? Tryz.prog "errors.errorType"=some #[.iface u (.agg #[typeHandle Tryz.prog ty])]:=A
 obtain⟨e,u,ty,H,J,K,O,m⟩:=E
 obtain rfl:u=250:=bN (J.symm.trans Tryz.rtypeCut);obtain rfl:e=[101,114,114,111,114]:=(bN (show some [101,114,114,111,114]=some e from H)).symm;have o:=fG.1 Tryz.errRow ty (dZ.2 K);rw[O]at o;obtain rfl:ty=211:=by simpa using o
 rw[Tryz.errHandle]at m
 have:=World.var?_cell Tryz.gErr m 0
 exact this
end
section
open Go Go.ChangeShapes Go.WideShapes Go.ChangeAt Go.RowKit
def jvz:Obj->Obj
 | .cells _ t frozen=>.cells (jeU.map wv).toArray t frozen
 | o=>o
def jzO:Obj->Obj
 | .cells _ t frozen=>.cells #[.iface 250 (.agg #[.pointer (some ⟨3,211,none⟩)])] t frozen
 | o=>o
noncomputable def laidWorld(os:Os):vW:=
 { World.holding Tryz.prog os ⟨#[],#[],[]⟩with heap:=((World.holding Tryz.prog os ⟨#[],#[],[]⟩).heap.modify 0 jvz).modify 1 jzO }
theorem juQ(os:Os)(args:Array vV):laidMetH Tryz.prog [("errors.errorType",Rows.laid_errors_errorType),("guilloche/sha.cubes",Rows.laid_guilloche_sha_cubes)] ((laidWorld os).forCall (fun _ _=>0) ⟨#[],args,[]⟩).memory:=
 laidMetH_of_parts (laidMet_of_run' 8 vY vY) vY
end
section
open Go Go.ChangeShapes Go.WideShapes Go.ChangeAt Go.RowKit Go.ChangeMaps
theorem jqs:laidOutB Tryz.pinned.checked.prog=true:=vY
theorem jmz:mapsRowed Tryz.pinned.checked.prog=true:=vY
theorem jvB:(Tryz.pinned.checked.prog.stops == [])=true:=vY
theorem jmB:(Tryz.pinned.checked.prog.stopKnobs == [])=true:=vY
theorem jmA:(Rows.trieUpdatesRow.plainKeys == Tryz.pinned.checked.prog.plainKeys)=true:=vY
theorem jk0:Tryz.pinned.checked.prog.stopsHeard=true:=vY
theorem jnK:Tryz.pinned.checked.prog.mayEnter=true:=vY
theorem jti:(Rows.trieUpdatesRow.lifted == Tryz.pinned.checked.prog.liftsFinal)=true:=vY
theorem jxT:(Tryz.pinned.checked.prog.make == some Rows.trieUpdatesRow.make)=true:=vY
theorem jxS:Tryz.pinned.checked.prog.mainIs=some (true, "b2a57d2038684a1b3720665185be4d34046a0bd340e37fc10f2d824a2c6bf016".toList):=vY
theorem jvA:true=Tryz.pinned.checked.prog.looks []:=vY
end
end Go.Proofs.YtegloohdmjadoaaGreatDoor
