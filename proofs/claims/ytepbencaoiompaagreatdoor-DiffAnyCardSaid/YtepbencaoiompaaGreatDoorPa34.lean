/- Lemmas; each is under no condition but those that it states. -/
import Derived.Test.YtepbencaoiompaaGreatDoorPa33
import Derived.Test.YtepbencaoiompaaGreatDoorCards
import Derived.Test.YtepbencaoiompaaGreatDoorTie
import Derived.Deep.DeepHandedRow
import Derived.Lay
namespace Go.Proofs.YtepbencaoiompaaGreatDoor
set_option linter.unusedSimpArgs false
set_option linter.unusedVariables false
set_option maxRecDepth 100000
set_option maxHeartbeats 16000000
section
open Go Go.ChangeShapes Go.WideShapes Go.ChangeAt Go.RowKit Go.Deep
theorem Tryz.cellsChg:Tryz.prog.cellsOf 50=3:=vY
section
variable {H:Type} {enc:TypeId × vV->H} {w:vW} {base:Nat} {spare:Nat->Bool} {held:Bool}
theorem jwf{n:Nat}{a:Addr}{cs:List vV}{x:DataW H × List MemPlace}(hc:w.cells? base a 3=some cs)(h:DataW.trod enc Tryz.prog w base spare held n 50 cs=some x) :
  ∃ p:Chg,w.cell? (a.add 0)=some (.string p.key)/\w.cell? (a.add 1)=some (.string p.value)/\w.cell? (a.add 2)=some (.bool p.gone)/\p.key.size<=9223372036854775807/\p.value.size<=9223372036854775807:=by
 obtain⟨_,X,z⟩:=World.cells?_some hc
 obtain⟨xs,m,_,_,_,A,E⟩:=DataW.trod_struct Tryz.underlying50 h
 match cs,X with
 | [c0,c1,c2],_ =>
  have e:DataW.trod enc Tryz.prog w base spare held m 9 (([c0,c1,c2].drop 0).take (Tryz.prog.cellsOf 9))=xs[0]?:=E 0 _ rfl;have o:DataW.trod enc Tryz.prog w base spare held m 9 (([c0,c1,c2].drop 1).take (Tryz.prog.cellsOf 9))=xs[1]?:=E 1 _ rfl;have q:DataW.trod enc Tryz.prog w base spare held m 4 (([c0,c1,c2].drop 2).take (Tryz.prog.cellsOf 4))=xs[2]?:=E 2 _ rfl;rw[Tryz.cellsStr]at e o;rw[Tryz.cellsBool]at q;dsimp only[List.drop,List.take]at e o q;have J:∀ i,i < 3->∃ y,xs[i]?=some y:=fun i Z=>⟨_,bA (by rw[A];exact Z)⟩
  obtain⟨y0,e0⟩:=J 0 vO
  obtain⟨y1,e1⟩:=J 1 vO
  obtain⟨y2,e2⟩:=J 2 vO
  rw[e0]at e;rw[e1]at o;rw[e2]at q
  obtain⟨r,K,_,w0⟩:=DataW.trod_string Tryz.underlying9 e
  obtain⟨s,O,_,w1⟩:=DataW.trod_string Tryz.underlying9 o
  obtain⟨b,Q,_⟩:=DataW.trod_bool Tryz.underlying4 q
  simp only[List.cons.injEq,and_true]at K O Q;subst K O Q
  exact⟨⟨r,s,b⟩,z 0 vO,z 1 vO,z 2 vO,bH w0 jcW,bH w1 jcW⟩
theorem jhQ{v:vV}{d:DataW H}{p:List MemPlace}(hv:∃ a n c,v=.slice a n c)(h:DataW.Trod enc Tryz.prog w 0 spare held 23 v d p) :
  ∃ l:List Chg,RdC w v l/\l.length<=9223372036854775807/\∀ p∈l,p.key.size<=9223372036854775807/\p.value.size<=9223372036854775807:=by
 obtain⟨Q,X,Z,rfl⟩:=hv
 obtain⟨a1,hf⟩:=h
 rcases open_slice Tryz.underlying23 hf with⟨hcs,_⟩ |⟨a,len,cap,m,n,D,Pl,hcs,_,hl,hm,hmm,_,K⟩
 ·simp only[Value.cells]at hcs
  have e:Value.slice Q X Z=.slice none 0 0:=by simpa using hcs
  rw[e]
  exact⟨[],.inl ⟨none,0,rfl,rfl⟩,by simp,by simp⟩
 ·have e:Value.slice Q X Z=.slice (some a) len cap:=by simpa [Value.cells]using hcs
  rw[e];have a2:len<=m:=by rw[hmm];split <;> omega
  obtain⟨l,A,z⟩:=js9 len (⟨⟨#[]⟩,⟨#[]⟩,false⟩:Chg) (fun i p=>w.cell? ((a.add (i * 3)).add 0)=some (.string p.key)/\w.cell? ((a.add (i * 3)).add 1)=some (.string p.value)/\w.cell? ((a.add (i * 3)).add 2)=some (.bool p.gone)/\p.key.size<=9223372036854775807/\p.value.size<=9223372036854775807) (fun i a3=>by
   obtain⟨a4,h1,h2⟩:=K i vO
   rw[Tryz.cellsChg]at h1;exact jwf h1 h2)
  have O:∀ p∈l,p.key.size<=9223372036854775807/\p.value.size<=9223372036854775807:=fun p hp=>by
   obtain⟨i,K⟩:=gL hp
   exact (z i p K).2.2.2
  have E:l.length<=9223372036854775807:=by have:=jcW;omega
  refine⟨l,?_,E,O⟩
  by_cases h0:len=0
  ·subst h0
   exact .inl ⟨some a,cap,rfl,bG A⟩
  ·obtain⟨p0,J⟩:∃ p,l[0]?=some p:=⟨_,bA vO⟩
   have q:a.spot=none:=by simpa [Addr.add]using World.cell?_spot (z 0 p0 J).1
   obtain⟨b,o,sp⟩:=a
   dsimp only at q;subst q;refine .inr ⟨b,o,cap,by rw[A],fG w _ (z 0 p0 J).1,by omega,fun j x hx=>?_⟩
   obtain⟨q1,q2,q3,_⟩:=z j x hx
   rw[Go.Deep.add_add,Go.WideShapes.add_plain]at q1 q2 q3
   exact⟨q1,q2,q3⟩
end
end
section
open Go Go.ChangeShapes Go.WideShapes Go.ChangeAt Go.RowKit Go.Deep
section
variable {H:Type} {enc:TypeId × vV->H} {w:vW} {base:Nat} {spare:Nat->Bool} {held:Bool}
theorem jka{v:vV}{d:DataW H}{p:List MemPlace}(hv:∃ a n c,v=.slice a n c)(h:DataW.Trod enc Tryz.prog w 0 spare held 22 v d p) :
  ∃ l:vM,RdS w v l/\l.length<=9223372036854775807/\∀ t∈l,t.size<=9223372036854775807:=by
 obtain⟨Q,X,Z,rfl⟩:=hv
 obtain⟨a1,hf⟩:=h
 rcases open_slice Tryz.underlying22 hf with⟨hcs,_⟩ |⟨a,len,cap,m,n,D,Pl,hcs,_,hl,hm,hmm,_,K⟩
 ·simp only[Value.cells]at hcs
  have e:Value.slice Q X Z=.slice none 0 0:=by simpa using hcs
  rw[e]
  exact⟨[],.inl ⟨none,0,rfl,rfl⟩,by simp,by simp⟩
 ·have e:Value.slice Q X Z=.slice (some a) len cap:=by simpa [Value.cells]using hcs
  rw[e];have a2:len<=m:=by rw[hmm];split <;> omega
  obtain⟨l,A,z⟩:=js9 len (⟨#[]⟩:vB) (fun i x=>w.cell? ((a.add (i * 1)).add 0)=some (.string x)/\x.size<=9223372036854775807) (fun i a3=>by
   obtain⟨a4,h1,h2⟩:=K i vO
   rw[Tryz.cellsStr]at h1
   obtain⟨_,a5,hg⟩:=World.cells?_some h1
   obtain⟨x,q0,_,wz⟩:=DataW.trod_string Tryz.underlying9 h2
   subst q0
   exact⟨x,hg 0 vO,bH wz jcW⟩)
  have O:∀ t∈l,t.size<=9223372036854775807:=fun t ht=>by
   obtain⟨i,K⟩:=gL ht
   exact (z i t K).2
  have E:l.length<=9223372036854775807:=by have:=jcW;omega
  refine⟨l,?_,E,O⟩
  by_cases h0:len=0
  ·subst h0
   exact .inl ⟨some a,cap,rfl,bG A⟩
  ·obtain⟨p0,J⟩:∃ p,l[0]?=some p:=⟨_,bA vO⟩
   have q:a.spot=none:=by simpa [Addr.add]using World.cell?_spot (z 0 p0 J).1
   obtain⟨b,o,sp⟩:=a
   dsimp only at q;subst q;refine .inr ⟨b,o,cap,by rw[A],fG w _ (z 0 p0 J).1,by omega,fun j x hx=>?_⟩;have q1:=(z j x hx).1;rw[Go.Deep.add_add,Go.WideShapes.add_plain,iX]at q1;exact q1
end
end
section
open Go Go.RowKit
def jsi:List Int:=jit.map fun x=>(x.toNat:Int)
theorem jsj:(Rows.laid_guilloche_sha_cubes:DataW Unit)=Lib.tabData .u32 jsi:=vY
theorem Tryz.gCubes:Tryz.prog.globalNamed "guilloche/sha.cubes"=some 0:=vY
theorem Tryz.gCubesType:(Tryz.prog.globals[0]?).map (·.type)=some 199:=vY
theorem Tryz.uCubes:Tryz.prog.underlying 199=some (.array 64 151):=vY
theorem Tryz.cellsU32:Tryz.prog.cellsOf 151=1:=vY
theorem Tryz.cellsCubes:Tryz.prog.cellsOf 199=64:=vY
theorem jo1{W:vW}(h:laidMetH Tryz.prog [("errors.errorType",Rows.laid_errors_errorType),("guilloche/sha.cubes",Rows.laid_guilloche_sha_cubes)] W):jbN W:=by
 have e:laidMet Tryz.prog [("guilloche/sha.cubes",Rows.laid_guilloche_sha_cubes)] W:=(laidMetH_iff.1 h).1;rw[jsj]at e;have o:=Lib.tabIs_of_head Tryz.gCubes Tryz.gCubesType Tryz.uCubes Tryz.uU32 Tryz.cellsU32 Tryz.cellsCubes e;intro i q
 have:=o.cell Tryz.gCubes i (by unfold jsi;rw[cB];exact q)
 rw[this];unfold jsi wv;simp only[bE,cA];cases jit[i]? <;> rfl
theorem Tryz.gErr:Tryz.prog.globalNamed "errors.errorType"=some 1:=vY
theorem Tryz.rtypeCut:(Tryz.prog.cutTypes.find? (·.1 == "internal/reflectlite.rtype")).map (·.2)=some 161:=vY
theorem Tryz.errRow:(List.range Tryz.prog.types.size).all (fun t => !(Tryz.prog.rowNamed t [101,114,114,111,114]) || t == 89)=true:=vY
theorem Tryz.errHandle:typeHandle Tryz.prog 89=.pointer (some ⟨3,89,none⟩):=vY
theorem jxl{W:vW}(h:laidMetH Tryz.prog [("errors.errorType",Rows.laid_errors_errorType),("guilloche/sha.cubes",Rows.laid_guilloche_sha_cubes)] W):ErrT W:=by
 have z:=(laidMetH_iff.1 h).2 ("errors.errorType",Rows.laid_errors_errorType) (by simp[Rows.laid_errors_errorType,DataW.handleName?]);have A:∃ e u ty,(Rows.laid_errors_errorType:DataW Unit).handleName?=some e/\(Tryz.prog.cutTypes.find? (·.1 == "internal/reflectlite.rtype")).map (·.2)=some u/\ty < Tryz.prog.types.size/\Tryz.prog.rowNamed ty e=true/\W.var? Tryz.prog "errors.errorType"=some #[.iface u (.agg #[typeHandle Tryz.prog ty])]:=z
 obtain⟨e,u,ty,E,H,J,K,o⟩:=A
 obtain rfl:u=161:=bQ (H.symm.trans Tryz.rtypeCut);obtain rfl:e=[101,114,114,111,114]:=(bQ (show some [101,114,114,111,114]=some e from E)).symm;have q:=dN.1 Tryz.errRow ty (dR.2 J);rw[K]at q;obtain rfl:ty=89:=by simpa using q
 rw[Tryz.errHandle]at o
 have:=World.var?_cell Tryz.gErr o 0
 exact this
end
section
open Go Go.ChangeShapes Go.WideShapes Go.ChangeAt Go.RowKit
def jwI:Obj->Obj
 | .cells _ t frozen=>.cells (jit.map wv).toArray t frozen
 | o=>o
def jAY:Obj->Obj
 | .cells _ t frozen=>.cells #[.iface 161 (.agg #[.pointer (some ⟨3,89,none⟩)])] t frozen
 | o=>o
noncomputable def laidWorld(os:Os):vW:=
 { World.holding Tryz.prog os ⟨#[],#[],[]⟩with heap:=((World.holding Tryz.prog os ⟨#[],#[],[]⟩).heap.modify 0 jwI).modify 1 jAY }
theorem jpu(os:Os)(args:Array vV):laidMetH Tryz.prog [("errors.errorType",Rows.laid_errors_errorType),("guilloche/sha.cubes",Rows.laid_guilloche_sha_cubes)] ((laidWorld os).forCall (fun _ _=>0) ⟨#[],args,[]⟩).memory:=
 laidMetH_of_parts (laidMet_of_run' 8 vY vY) vY
end
section
open Go Go.RowKit
attribute [local go_sem] Oper.semAt_some
theorem jmg(W:vW)(sv:vV)(r q)(n:jad)(hn:n.refs.length=16)(hr:r.size<=1000)(hq:cutN r=some q)(hh:jfm r q=none)(hi:∀ w,vR 52 #[.string r] w (.tuple #[n.V,.bool true])) :
  vR 66 #[sv,.string r] W (.tuple #[n.V,.nilIface]):=by
 have HQ:=Hd hq;have HH:=Hd hh;have HI:=Hd hi;have HN:=Hd hn;have Q:=Hd (n.cells_len hn);clear hq hh hi hn;go_enter Tryz.func66,Tryz.ntmps66;go_wp2_with (refine jah Tryz.allocNode rfl rfl ?_;intro W1 E H)
 refine vC (jdE W1 r q vO HQ.o) fun w2 A=>?_;rw[HH.o];unfold optV;have X:=Hd (E.keeps A (fun h=>h));have Z:=Hd (H.trans A);clear A E H;go_wp2_with fail
 refine vC (HI.o w2) fun w3 A=>?_;have z:=X.o.keeps A (fun h=>h);have a0:=Hd (Z.o.trans A);clear A;unfold jad.V;go_wp2_with (first |(refine jah Tryz.allocNode rfl rfl ?_;intro W5 a1 J;refine jae (vs:=n.cells) rfl rfl rfl rfl a1 (by rw[Q.o];rfl) (by rw[Q.o];exact Tryz.szNode) n.one ?_;intro W6 a2 K;have O:=(z.keeps J (fun h=>h)).keeps K (by have:=z.lt;omega)) |(refine jaf 99 (.tmp 8) rfl rfl _ _ rfl (jas _ _ n HN.o a2) ?_) |(refine jae (vs:=n.cells) rfl rfl rfl rfl O (by rw[Q.o];rfl) (by rw[Q.o];exact Tryz.szNode) n.one ?_;intro W8 a3 a4))
 refine bodyPost_ret (jaj rfl rfl rfl (jai W8 _ n HN.o a3)) rfl ?_;have a5:Ext w3 W6:=J.trans' K (fun x hx e=>by have e:x=w3.heap.size:=e;omega)
 exact⟨rfl,(a0.o.trans a5).trans' a4 (fun x hx e=>by have e:x=W.heap.size:=e;omega)⟩
theorem jqJ(W:vW)(s bm:Nat)(room:Int)(S:vT)(hs:jax W s bm room S)(x t k:vB)(q)(f:Nat)(n:jad)(hg:jbd (InlD f) n)(ht:t=jaR n)
  (hx:x.size<=1000) (hq:cutN x=some q) (hh:jfm x q=some k) (y:Nd5) (hy:atL S k.data.toList=some y) (hyt:y.2.2.text=t) :
  vR 66 #[.pointer (some ⟨s,0,none⟩),.string x] W (.tuple #[n.V,.nilIface]):=by
 have HS:=Hd hs;have HQ:=Hd hq;have HH:=Hd hh;have HT:=Hd ht;have HG:=Hd hg;have hn:=(hg.one (inlP f)).refs;have HN:=Hd hn;have HL:=Hd (n.cells_len hn);have E:=fun w (h:jax w s bm room S)=>jdF w s bm room S k h;rw[hy]at E;have J:(some y).map (fun z:Nd5=>z.2.2.text)=some t:=by rw[<-hyt];rfl
 simp only[J]at E;have a3:=Hd E;clear hs hq hh ht hg hn hy hyt E J;go_enter Tryz.func66,Tryz.ntmps66;go_wp2_with (refine jah Tryz.allocNode rfl rfl ?_;intro W1 K O)
 refine vC (jdE W1 x q vO HQ.o) fun w2 A=>?_;rw[HH.o];unfold optV;have Q:=Hd (K.keeps A (fun h=>h));have X:=Hd (O.trans A);clear A K O;go_wp2_with fail
 refine vC (a3.o w2 (HS.o.ext X.o)) fun w3 A=>?_;unfold optV;have Z:=Hd (Q.o.keeps A (fun h=>h));have a4:=Hd (X.o.trans A);clear A Q;go_wp2_with fail
 rw[HT.o];refine vC (jf3 (inlP f) w3 n HG.o) fun w4 A=>?_;rw[<-HT.o];have H:=Z.o.keeps A (fun h=>h);have a5:=Hd (a4.o.trans A);clear A Z;unfold jad.V;go_wp2_with (first |(refine jah Tryz.allocNode rfl rfl ?_;intro W5 a6 a1;refine jae (vs:=n.cells) rfl rfl rfl rfl a6 (by rw[HL.o];rfl) (by rw[HL.o];exact Tryz.szNode) n.one ?_;intro W6 a7 a2;have a0:=(H.keeps a1 (fun h=>h)).keeps a2 (by have:=H.lt;omega)) |(refine jaf 99 (.tmp 11) rfl rfl _ _ rfl (jas _ _ n HN.o a7) ?_) |(refine jae (vs:=n.cells) rfl rfl rfl rfl a0 (by rw[HL.o];rfl) (by rw[HL.o];exact Tryz.szNode) n.one ?_;intro W8 a8 a9))
 refine bodyPost_ret (jaj rfl rfl rfl (jai W8 _ n HN.o a8)) rfl ?_;have b0:Ext w4 W6:=a1.trans' a2 (fun x hx e=>by have e:x=w4.heap.size:=e;omega)
 exact⟨rfl,(a5.o.trans b0).trans' a9 (fun x hx e=>by have e:x=W.heap.size:=e;omega)⟩
theorem jnV(W:vW)(s bm:Nat)(room:Int)(S:vT)(hs:jax W s bm room S)(x k:vB)(q)(hx:x.size<=1000)(hq:cutN x=some q)(hh:jfm x q=some k)(hy:atL S k.data.toList=none) :
  vR 66 #[.pointer (some ⟨s,0,none⟩),.string x] W (.tuple #[jak.V,jgX]):=by
 have HS:=Hd hs;have HQ:=Hd hq;have HH:=Hd hh;have z:=fun w (h:jax w s bm room S)=>jdF w s bm room S k h;rw[hy]at z;have O:=Hd z;clear hs hq hh hy z;go_enter Tryz.func66,Tryz.ntmps66;go_wp2_with (refine jah Tryz.allocNode rfl rfl ?_;intro W1 E H)
 refine vC (jdE W1 x q vO HQ.o) fun w2 A=>?_;rw[HH.o];unfold optV;have J:=Hd (E.keeps A (fun h=>h));have K:=Hd (H.trans A);clear A E H;go_wp2_with fail
 refine vC (O.o w2 (HS.o.ext K.o)) fun w3 A=>?_;rw[show optV ((none:Option Nd5).map (·.2.2.text))=.tuple #[.string ⟨#[]⟩,.bool false]from rfl];have Q:=J.o.keeps A (fun h=>h);have X:=Hd (K.o.trans A);clear A J;go_wp2_with (refine jae (vs:=jak.cells) rfl rfl rfl rfl Q rfl Tryz.szNode jak.one ?_;intro W8 Z a0)
 refine bodyPost_ret (jaj rfl rfl rfl (jai W8 _ jak rfl Z)) rfl ?_
 exact⟨rfl,X.o.trans' a0 (fun x hx e=>by have e:x=W.heap.size:=e;omega)⟩
theorem jo6(W:vW)(s bm:Nat)(room:Int)(S:vT)(hs:jax W s bm room S){r:vB}{n:jad}(hr:jgs S r (some n)) :
  vR 66 #[.pointer (some ⟨s,0,none⟩),.string r] W (.tuple #[n.V,.nilIface]):=by
 rcases hr with⟨d,m,hI,hm⟩ |⟨k,e,o,⟨_,h3⟩ |⟨y,m,h3,z,hm⟩⟩
 ·obtain rfl:=bQ hm
  obtain⟨q,e,o⟩:=(inlP d).nohash _ _ hI
  exact jmg W _ _ q n ((inlP d).refs _ _ hI) (by have:=(inlP d).small _ _ hI;omega) e o ((inlP d).inl _ _ hI)
 ·cases h3
 ·obtain rfl:=bQ hm
  obtain⟨q,A,E⟩:=jdr k e
  obtain⟨z,g,H⟩:=z
  rw[o];refine jqJ W s bm room S hs _ y.2.2.text k q g n H z ?_ A E y h3 rfl
  have:=jaZ k
  omega
theorem jmf(W:vW)(s bm:Nat)(room:Int)(S:vT)(hs:jax W s bm room S){r:vB}(hr:jgs S r none) :
  vR 66 #[.pointer (some ⟨s,0,none⟩),.string r] W (.tuple #[jak.V,jgX]):=by
 rcases hr with⟨d,m,hI,hm⟩ |⟨k,h1,h2,⟨h3,_⟩ |⟨y,m,h3,h4,hm⟩⟩
 ·cases hm
 ·obtain⟨q,e,o⟩:=jdr k h1
  rw[h2];refine jnV W s bm room S hs _ k q ?_ e o h3
  have:=jaZ k
  omega
 ·cases hm
end
end Go.Proofs.YtepbencaoiompaaGreatDoor
