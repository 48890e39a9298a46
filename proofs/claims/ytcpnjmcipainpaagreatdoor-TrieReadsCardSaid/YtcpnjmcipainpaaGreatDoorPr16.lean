/- Lemmas; each is under no condition but those that it states. -/
import Derived.Test.YtcpnjmcipainpaaGreatDoorPr15
import Derived.RangeFuncCalls
namespace Go.Proofs.YtcpnjmcipainpaaGreatDoor
set_option linter.unusedSimpArgs false
set_option linter.unusedVariables false
set_option maxRecDepth 100000
set_option maxHeartbeats 16000000
section
open Go Go.RowKit
attribute [local go_sem] Oper.semAt_some
theorem Tryz.allocNode:∀ w,(Instr.alloc 144 true (.tuple #[])).run Tryz.prog w=.ok (.pointer (some ⟨w.heap.size,0,none⟩)) (w.alloc (.cells jar.cells.toArray 144)):=fun w=>by kernel_rfl
theorem jad.one(n:jad):∀ v∈n.cells,v.oneCell'=true:=by
 intro v hv;simp only[jad.cells,List.mem_cons,List.mem_map]at hv;rcases hv with rfl | rfl | rfl |⟨_,_,rfl⟩ <;> rfl
def jeJ(r:vB):Prop:=∃ h:vB,h.size=32/\r=jao h
theorem jeJ.size{r:vB}(h:jeJ r):r.size=33:=by
 obtain⟨h,h1,rfl⟩:=h
 unfold jao;rw[if_neg vO,ByteArray.size_append,h1];rfl
theorem jeJ.known{r:vB}(hh:jeJ r):r.size<=1000000000/\∃ h q,cutN r=some q/\jfZ r q=some h:=by
 have hs:=hh.size
 obtain⟨h,h1,h2⟩:=hh
 obtain⟨q,h3,h4⟩:=jf1 h h1
 exact⟨by omega,h,q,by rw[h2];exact h3,by rw[h2];exact h4⟩
structure InlP(I:vB->jad->Prop):Prop where
 refs:∀ r m,I r m->m.refs.length=16
 small:∀ r m,I r m->r.size < 32
 pos:∀ r m,I r m->r.size≠0
 list:∀ r m,I r m->∃ xs,r=ja4 xs/\(catB xs).size<=1048576
 nohash:∀ r m,I r m->∃ q,cutN r=some q/\jfZ r q=none
 inl:∀ r m,I r m->∀ w,vR 119 #[.string r] w (.tuple #[m.V,.bool true])
section
variable {I:vB->jad->Prop} (HI:InlP I)
def MayP(I:vB->jad->Prop)(r:vB):Prop:=jeJ r\/∃ m,I r m
include HI
theorem jyM(w:World)(r:vB)(hr:MayP I r):vR 231 #[.string r] w (.bool true):=by
 rcases hr with hh |⟨m,hm⟩
 ·obtain⟨hs,h,q,h3,h4⟩:=hh.known
  have H3:=Hd h3;have H4:=Hd h4;clear h3 h4 hh;go_enter Tryz.func231,Tryz.ntmps231;go_wp2_with fail
  refine vC (jd0 w r q vO H3.o) fun w1 hE=>?_;rw[H4.o];have HE:=Hd hE;clear hE;unfold optV;simp only;go_wp2_with fail
  go_ret
  exact⟨rfl,HE.o⟩
 ·have hs:=HI.small r m hm
  obtain⟨q,h3,h4⟩:=HI.nohash r m hm
  have HC:=Hd (HI.inl r m hm);have HRL:=Hd (HI.refs r m hm);have H3:=Hd h3;have H4:=Hd h4;clear h3 h4;go_enter Tryz.func231,Tryz.ntmps231;go_wp2_with fail
  refine vC (jd0 w r q vO H3.o) fun w1 hE=>?_;rw[H4.o];have HE:=Hd hE;clear hE;unfold optV;simp only;go_wp2_with fail
  refine vC (HC.o w1) fun w2 hE2=>?_;have HE2:=Hd (HE.o.trans hE2);clear hE2;unfold jad.V;go_wp2_with (refine jah Tryz.allocNode rfl rfl ?_;intro W3 hB hE3;refine jag (vs:=m.cells) rfl rfl rfl rfl hB (by rw[m.cells_len HRL.o];rfl) (by rw[m.cells_len HRL.o];exact Tryz.szNode) m.one ?_;intro W4 hB4 hE4)
  have hE5:Ext w2 W4:=hE3.trans' hE4 (fun x hx e=>by have e:x=w2.heap.size:=e;omega);go_ret
  exact⟨rfl,HE2.o.trans hE5⟩
theorem jyH(w:World)(n:jad)(r:vB)(hr:n.refs.length=16)(hp:n.pathOk 1=true)(h0:n.value=⟨#[]⟩)(hb:n.behindN=1)(h3:n.refs[0]?=some r)(hm:jeJ r\/∃ m,I r m/\m.kind=3):vR 193 #[n.V] w (.bool true):=by
 have hps:n.path.size<=1000000:=by
  simp only[jad.pathOk,Bool.and_eq_true,decide_eq_true_eq]at hp;omega
 have hld:=je2 w n hr;have e2:n.cells[2]?=some (.string ⟨#[]⟩):=by rw[<-h0];rfl
 have e3:n.cells[3]?=some (.string r):=by
  show (n.refs.map Value.string)[0]?=_;rw[List.getElem?_map,h3];rfl
 have HP:=Hd hp;have HB:=Hd hb;have E3:=Hd e3;clear hp hb h0 h3 e3;unfold jad.V at hld ⊢;go_enter Tryz.func193,Tryz.ntmps193;go_wp2_with (refine jaf 208 (.tmp 1) rfl rfl _ _ rfl hld ?_)
 refine vC (jq5 _ n hr 1 hps) fun w1 hE=>?_;rw[HP.o];have B1:=(Blk.new w (.cells n.cells.toArray 208)).keeps hE (fun h=>h);have q2:=B1.cellL e2;have hld1:=jbU w1 _ n hr B1;have HE1:=Hd (((ExtR w).alloc _).trans hE);have HB1:=Hd B1;unfold jad.V at hld1;clear hld hE B1;go_wp2_with (refine jaf 208 (.tmp 1) rfl rfl _ _ rfl hld1 ?_)
 refine vC (jmV _ n hr) fun w2 hE=>?_;rw[HB.o];have B2:=HB1.o.keeps hE (fun h=>h);have HE2:=Hd (HE1.o.trans hE);have q3:=B2.cellL E3.o;have HB2:=Hd B2;clear hld1 hE q2 B2 HB1 HE1;rcases hm with hh |⟨m,hm,hk⟩
 ·obtain⟨hs,h,q,h3,h4⟩:=hh.known
  have H3:=Hd h3;have H4:=Hd h4;clear h3 h4 hh;go_wp2_with fail
  refine vC (jd0 w2 r q hs H3.o) fun w3 hE=>?_;rw[H4.o];have HE:=Hd (HE2.o.trans hE);clear hE;unfold optV;simp only;go_wp2_with fail
  go_ret
  exact⟨rfl,HE.o⟩
 ·have hs:=HI.small r m hm
  obtain⟨q,h3,h4⟩:=HI.nohash r m hm
  have HC:=Hd (HI.inl r m hm);have HRL:=Hd (HI.refs r m hm);have H3:=Hd h3;have H4:=Hd h4;have HK:=Hd hk;clear h3 h4 hk;go_wp2_with fail
  refine vC (jd0 w2 r q vO H3.o) fun w3 hE=>?_;rw[H4.o];have B3:=HB2.o.keeps hE (fun h=>h);have HE:=Hd (HE2.o.trans hE);have q3':=B3.cellL E3.o;clear hE q3 B3;unfold optV;simp only;go_wp2_with fail
  refine vC (HC.o w3) fun w4 hE2=>?_;have HE2:=Hd (HE.o.trans hE2);clear hE2 q3';unfold jad.V;go_wp2_with (refine jah Tryz.allocNode rfl rfl ?_;intro W3 hB hE3;refine jag (vs:=m.cells) rfl rfl rfl rfl hB (by rw[m.cells_len HRL.o];rfl) (by rw[m.cells_len HRL.o];exact Tryz.szNode) m.one ?_;intro W4 hB4 hE4;have q0:W4.cell? ⟨w4.heap.size,0,none⟩=some (.int .i64 3):=hB4.cellL (by show some (Value.int .i64 (m.kind:Int))=_;rw[HK.o];rfl))
  have hE5:Ext w4 W4:=hE3.trans' hE4 (fun x hx e=>by have e:x=w4.heap.size:=e;omega);have HE5:=Hd (HE2.o.trans hE5);go_ret
  exact⟨rfl,HE5.o⟩
structure BraC(w:World)(gn gr gf gi:Nat)(n:jad)(c:Nat)(k:Nat)(W:World):Prop where
 ext:Ext w W
 res:Blk W gr (.cells #[.bool false] 4)
 node:Blk W gn (.cells n.cells.toArray 208)
 full:Blk W gf (.cells #[.int .i64 ((c+k:Nat):Int)] 3)
 it:Blk W gi (.cells n.cells.toArray 208)
theorem jsw(w:World)(n:jad)(hr:n.refs.length=16)(hp:n.path=⟨#[]⟩)(h8:n.value.size<=80)(hm:∀ r∈n.refs,r.size≠0->MayP I r)(h2:2<=min n.value.size 1+n.refsL.length):vR 194 #[n.V] w (.bool true):=by
 have e1:n.cells[1]?=some (.string ⟨#[]⟩):=by rw[<-hp];rfl
 have e2:n.cells[2]?=some (.string n.value):=rfl;have c1:¬(80:Int) < (n.value.size:Int):=by omega
 obtain⟨c,hc⟩:=vE (min n.value.size 1)
 have hci:min (n.value.size:Int) 1=(c:Int):=by omega
 rw[<-hc]at h2;have HC:=Hd hci;have H2:=Hd h2;clear hp hc hci h2;refine (callsIn_wide (n:=0)).1 ?_;refine callsIn_of_wp_marks Tryz.func194 rfl trivial ?_ rfl;simp only[Tryz.ntmps194,List.size_toArray,List.length_cons,List.length_nil,Nat.reduceAdd,Nat.reduceSub,Array.replicate_succ,Array.replicate_zero,List.push_toArray,List.append_toArray,List.nil_append,List.cons_append]
 obtain⟨W0,hW0⟩:=vE (((w.alloc (.cells n.cells.toArray 208)).alloc (.cells #[.bool false] 4)).alloc (.cells #[.int .i64 (min (n.value.size:Int) 1)] 3))
 have B0:Blk W0 w.heap.size (.cells n.cells.toArray 208):=by rw[hW0];exact ((Blk.new w _).alloc _).alloc _
 have B1:Blk W0 (w.heap.size+1) (.cells #[.bool false] 4):=by
  rw[hW0];have:=(Blk.new (w.alloc (.cells n.cells.toArray 208)) (.cells #[.bool false] 4)).alloc (.cells #[.int .i64 (min (n.value.size:Int) 1)] 3);rwa [World.size_alloc]at this
 have B2:Blk W0 (w.heap.size+1+1) (.cells #[.int .i64 (c:Int)] 3):=by
  rw[hW0, <-HC.o];have:=Blk.new ((w.alloc (.cells n.cells.toArray 208)).alloc (.cells #[.bool false] 4)) (.cells #[.int .i64 (min (n.value.size:Int) 1)] 3);rwa [World.size_alloc,World.size_alloc]at this
 have E0:Ext w W0:=by rw[hW0];exact (((ExtR w).alloc _).alloc _).alloc _
 have hs0:W0.heap.size=w.heap.size+3:=by rw[hW0];simp
 have hld:=jbU W0 _ n hr B0;rw[hW0]at hld;have HW0:=Hd hW0;have HE0:=Hd E0;have HB0:=Hd B0;have HB1:=Hd B1;have HB2:=Hd B2;have HS0:=Hd hs0;clear hW0 E0 B0 B1 B2 hs0;unfold jad.V at hld ⊢;gi_wp2_with (refine jbk rfl 208 (.tmp 1) rfl _ _ rfl hld ?_)
 refine⟨trivial,rfl,CallsIn.mono (callsIn_wide.2 (jnJ _ n)) ?_⟩
 rintro e w1 ⟨rfl,hbn,hE⟩;rw[<-HW0.o]at hbn hE ⊢;rw[HS0.o]at hbn ⊢;have hC0:BraC w w.heap.size (w.heap.size+1) (w.heap.size+1+1) (w.heap.size+3) n c 0 w1:=⟨HE0.o.trans hE,HB1.o.keeps hE (fun h=>h),HB0.o.keeps hE (fun h=>h),HB2.o.keeps hE (fun h=>h),hbn⟩;have hl1:=hbn.lt;have HC0:=Hd hC0;have hcc:c<=1:=by have:=HC.o;omega
 clear hbn hE hld hC0 HW0 HE0 HB0 HB1 HB2 HS0;gi_wp2_with fail
 refine jei (N:=n.refsL.length) (gf:=215) (lb:=#[.pointer (some ⟨w.heap.size+3,0,none⟩)]) rfl (vX 215) (jj1 (w.heap.size+3) n hr)
  (fun k=>rfl) (BraC w w.heap.size (w.heap.size+1) (w.heap.size+1+1) (w.heap.size+3) n c) (fun _ _ _=>False) (fun k W W' h e=>⟨h.ext.trans e,h.res.keeps e (fun h=>h),h.node.keeps e (fun h=>h),h.full.keeps e (fun h=>h),h.it.keeps e (fun h=>h)⟩) (fun _ _ _ _ h _=>h) (fun k W h=>h.it)
  (fun k W o h=>⟨h.ext.putObj (.inr vO) _,h.res.put_other vO _,h.node.put_other vO _,h.full.put_other vO _,h.it.put_other vO _⟩)
  (fun k W o h=>⟨h.ext.putObj (.inr vO) _,h.res.put_other vO _,h.node.put_other vO _,h.full.put_other vO _,h.it.put_other vO _⟩) (fun _ _ _ _ h=>h)
  HC0.o (fun k=>{ tmps:=#[.agg n.cells.toArray,.pointer (some ⟨w.heap.size,0,none⟩),.pointer (some ⟨w.heap.size+1,0,none⟩),.pointer (some ⟨w.heap.size+1+1,0,none⟩),undef,.string (n.rr k),.pointer (some ⟨w.heap.size,1,none⟩),.string ⟨#[]⟩,.bool false,.bool false,.pointer (some ⟨w.heap.size,2,none⟩),.string n.value,.int .i64 n.value.size,.bool false,.bool false,.pointer (some ⟨w.heap.size,2,none⟩),.string n.value,.int .i64 n.value.size,.int .i64 (min (n.value.size:Int) 1),.agg n.cells.toArray,.func (.func 215) #[] #[.pointer (some ⟨w.heap.size+3,0,none⟩)],.int .i64 (n.ri k:Nat),.string (n.rr k),undef,undef,undef,undef,undef,undef,undef],defers:=[] })
  ?hassign ?hbody ?hdone ?hstop
 case hassign =>
  intro l j W K hK;rw[jtQ,jqc];simp only[List.set_cons_zero,List.set_cons_succ];gi_wp2;exact hK
 case hbody =>
  intro l k W hk h hlt;have q:=h.full.cell (i:=0) (v:=.int .i64 ((c+k:Nat):Int)) vF;have f:W.frozen? ⟨w.heap.size+1+1,0,none⟩=false:=h.full.frozen;have hri:=jtL n hr hk;have hmay:=hm _ (List.mem_of_getElem? hri.2.1) hri.2.2;have hk16:k < 16:=Nat.lt_of_lt_of_le hk (by
   have:∀ (l:List vB) (i:Nat),(jas i l).length<=l.length:=by
    intro l;induction l with
    | nil=>intro i;simp[jas]
    | cons x r ih=>intro i;unfold jas;split <;> simp <;> have:=ih (i+1) <;> omega
   have:=this n.refs 0
   rw[hr]at this;exact this)
  have H:=Hd h;have HM:=Hd hmay;clear h hri hmay;clear q f;gi_wp2_with fail
  refine⟨trivial,rfl,CallsIn.mono (CallsIn.inRound l (callsIn_wide.2 (jyM HI W _ HM.o))) ?_⟩
  rintro e w5 ⟨rfl,hE⟩;have q:=(H.o.full.keeps hE (fun h=>h)).cell (i:=0) (v:=.int .i64 ((c+k:Nat):Int)) vF;have f:w5.frozen? ⟨w.heap.size+1+1,0,none⟩=false:=(H.o.full.keeps hE (fun h=>h)).frozen;have HE:=Hd hE;clear hE;gi_wp2;rw[show (c:Int)+(k:Int)+1=((c+(k+1):Nat):Int) by omega];have K5:jae (fun b=>b=w.heap.size+1+1) w5 (w5.setCell ⟨w.heap.size+1+1,0,none⟩ (.int .i64 ((c+(k+1):Nat):Int))):=jae.oneSet w5 ⟨w.heap.size+1+1,0,none⟩ _;have K6:jae (fun b=>b=w.heap.size+1+1) W (w5.setCell ⟨w.heap.size+1+1,0,none⟩ (.int .i64 ((c+(k+1):Nat):Int))):=(HE.o.mono (fun _ _ h=>h.elim)).trans K5
  refine⟨K6.mono (fun x hx e=>?_),?_⟩
  ·have e:x=_:=e;show x≠_/\x≠_;omega
  ·exact⟨H.o.ext.trans' K6 (fun x hx e=>by omega),H.o.res.keeps K6 vO,H.o.node.keeps K6 vO,((H.o.full.keeps HE.o (fun h=>h)).set_same (i:=0) _),H.o.it.keeps K6 vO⟩
 case hdone =>
  intro W h hd;have q:=h.full.cell (i:=0) (v:=.int .i64 ((c+n.refsL.length:Nat):Int)) vF;have q2:=h.res.cell (i:=0) (v:=.bool false) vF;have f2:W.frozen? ⟨w.heap.size+1,0,none⟩=false:=h.res.frozen;have c5:(2:Int)<=(c:Int)+(n.refsL.length:Int):=by have:=H2.o;omega
  have H:=Hd h;have HD:=Hd hd;clear h hd;gi_wp2;have B2:=(H.o.res.set_same (i:=0) (.bool true));have BD:=HD.o.set_other (p:=⟨w.heap.size+1,0,none⟩) (by show w1.heap.size≠w.heap.size+1;omega) (.bool true);have hX:Ext w ((W.setCell ⟨w.heap.size+1,0,none⟩ (.bool true)).putObj w1.heap.size (.deferred none)):=(H.o.ext.setCell (.inr (by show w.heap.size<=w.heap.size+1;omega)) _).putObj (.inr vO) _
  obtain⟨W3,hW3⟩:=vE (W.setCell ⟨w.heap.size+1,0,none⟩ (.bool true))
  rw[<-hW3]at B2 BD hX ⊢;have c2:(W3.putObj w1.heap.size (.deferred none)).cell? ⟨w.heap.size+1,0,none⟩=some (.bool true):=(B2.put_other vO _).cell (i:=0) (by simp)
  refine⟨by simp,.inl ⟨_,_,rfl,run_takeDeferred BD,?_⟩⟩
  exact⟨.bool true,by simp[results,Tryz.results194,go_sem,c2],rfl,hX⟩
 case hstop=>intro c k W _ _ h;exact h.elim
end
end
section
open Go Go.RowKit
theorem jou{P:Program}{a:Act}{w:World}{d:Option Tmp}{f:FuncId}{x:Operand}{lb:Array Value}{args:Array Operand}{ats:Array TypeId}{ty:TypeId}{pos:String}{af:Array Edge}{g:Option (Nat × Bool)}{vs:Array Value}(hx:a.eval x=.func (.func f) #[] lb)(eg:∀ args w,(callFunc f args).run P w=.ok (.enter f args) w)(hv:args.map a.eval=vs) :
  (execOp a.eval ⟨d,.call { callee:=.value x,args:=args,argTypes:=ats },ty,pos,af,g⟩).run P w=.ok (.enter f (vs++lb)) w:=by
 subst hv;simp[execOp,resolve,hx,Deferred.ofValue,invoke,Sem.run_bind,Result.andThen,Sem.run_pure,eg]
theorem jhG{P:Program}{a:Act}{w:World}{d:Option Tmp}{f:FuncId}{x y:Operand}{ats:Array TypeId}{ty:TypeId}{pos:String}{af:Array Edge}{g:Option (Nat × Bool)}{v:Value}(hx:a.eval x=.func (.func f) #[] #[])(eg:∀ args w,(callFunc f args).run P w=.ok (.enter f args) w)(hv:a.eval y=v) :
  (execOp a.eval ⟨d,.call { callee:=.value x,args:=#[y],argTypes:=ats },ty,pos,af,g⟩).run P w=.ok (.enter f #[v]) w:=by
 have:=jou (P:=P) (w:=w) (d:=d) (ats:=ats) (ty:=ty) (pos:=pos) (af:=af) (g:=g) (args:=#[y]) hx eg rfl
 simpa [hv]using this
theorem Tryz.allocTabV:∀ w,(Instr.alloc 261 true (.tuple #[])).run Tryz.prog w=.ok (.pointer (some ⟨w.heap.size,0,none⟩)) (w.alloc (.cells [Value.nilFunc,.nilFunc,.nilFunc,.nilFunc].toArray 261)):=fun w=>by kernel_rfl
theorem Tryz.szTabV:(Tryz.prog.info? 261).map (·.size)=some 4:=by kernel_rfl
theorem Tryz.allocTabT:∀ w,(Instr.alloc 263 true (.tuple #[])).run Tryz.prog w=.ok (.pointer (some ⟨w.heap.size,0,none⟩)) (w.alloc (.cells [Value.nilFunc,.nilFunc,.nilFunc,.nilFunc].toArray 263)):=fun w=>by kernel_rfl
theorem Tryz.szTabT:(Tryz.prog.info? 263).map (·.size)=some 4:=by kernel_rfl
theorem Tryz.uKind:Tryz.prog.underlying 141=some (.int .i64):=by kernel_rfl
theorem Tryz.aggV(w:World):(isAgg 260).run Tryz.prog w=.ok false w:=by kernel_rfl
theorem Tryz.aggT(w:World):(isAgg 262).run Tryz.prog w=.ok false w:=by kernel_rfl
theorem jaz{P:Program}{t:TypeId}(h:∀ w,(isAgg t).run P w=.ok false w){w:World}{a:Addr}{v:Value}(hc:w.cell? a=some v):(Instr.loadAt t (.pointer (some a))).run P w=.ok v w:=by
 simp[Instr.loadAt,Instr.sureAddr,loadVar,Sem.run_bind,h w,Result.andThen,hc]
def fnV(f:FuncId):Value:=.func (.func f) #[] #[]
theorem jki(w:World)(n:jad)(hr:n.refs.length=16)(hk:n.kind<=3)(f:FuncId)(hf:[fnV 191,fnV 192,fnV 193,fnV 194][n.kind]?=some (fnV f))
  (eg:∀ args w,(callFunc f args).run Tryz.prog w=.ok (.enter f args) w) (hc:∀ w,vR f #[n.V] w (.bool true)) :
  vR 145 #[n.V] w (.bool true):=by
 have e0:n.cells[0]?=some (.int .i64 (n.kind:Int)):=rfl;have c0:¬(n.kind:Int) < 0:=by omega
 have c1:¬(3:Int) < (n.kind:Int):=by omega
 have c2:(n.kind:Int) < 4:=by omega
 have HF:=Hd hf;have HC:=Hd hc;have HR:=Hd hr;clear hf hc hr;unfold jad.V;go_enter Tryz.func145,Tryz.ntmps145;go_wp2_with (refine jah Tryz.allocTabV rfl rfl ?_;intro W1 hB1 hE1;refine jag (vs:=[fnV 191,fnV 192,fnV 193,fnV 194]) rfl rfl rfl rfl hB1 rfl Tryz.szTabV (by simp[fnV,Value.oneCell']) ?_;intro W2 hB2 hE2;have q0:W2.cell? ⟨w.heap.size,0,none⟩=some (.int .i64 (n.kind:Int)):=(((Blk.new w (.cells n.cells.toArray 144)).keeps hE1 (fun h=>h)).keeps hE2 (by rw[World.size_alloc];omega)).cellL e0)
 have qt:W2.cell? ⟨w.heap.size+1,n.kind,none⟩=some (fnV f):=by
  have:=hB2.cellL HF.o
  rwa [World.size_alloc]at this
 have hbn:=((Blk.new w (.cells n.cells.toArray 144)).keeps hE1 (fun h=>h)).keeps hE2 (by rw[World.size_alloc];omega);have QT:=Hd qt;have Q0:=Hd q0;have HBN:=Hd hbn;have HE:=Hd ((((ExtR w).alloc (.cells n.cells.toArray 144)).trans hE1).trans' hE2 (fun x hx e=>by have e:x=(w.alloc (.cells n.cells.toArray 144)).heap.size:=e;rw[World.size_alloc]at e;omega));clear hB1 hE1 hB2 hE2 q0 qt hbn;refine jai [0,1,2,3,4,5,6] Ext ExtR ExtT vY vY vY ?_
 refine vK ?_
 refine qKL ⟨w.heap.size,0,none⟩ _ rfl (fun w2 h2=>jab Tryz.uKind rfl (jaa (by exact Q0.o) h2)) ?_;refine vS ?_
 refine vK ?_
 refine qKL ⟨w.heap.size+1,n.kind,none⟩ _ rfl (fun w2 h2=>jaz Tryz.aggV (jaa (by exact QT.o) h2)) ?_;refine vS ?_;refine qKL ⟨w.heap.size,0,none⟩ _ rfl (fun w2 h2=>jan w2 _ n HR.o (HBN.o.keeps ((jaj W2).trans h2) (fun h=>h))) ?_;refine vS ?_;refine qKC _ f #[n.V] (.bool true) rfl (fun w1=>jhG rfl eg rfl) (fun w1 h1=>HC.o w1) ?_;refine vS ?_
 refine vK ?_
 refine qKE (fun w3 he=>?_);go_wp2_with fail
 go_ret
 exact⟨rfl,HE.o.trans ((jaj W2).trans he)⟩
theorem jnX(w:World)(n:jad)(hr:n.refs.length=16)(hk:n.kind<=3)(S:vB)(f:FuncId)(hf:[fnV 195,fnV 196,fnV 197,fnV 198][n.kind]?=some (fnV f))
  (eg:∀ args w,(callFunc f args).run Tryz.prog w=.ok (.enter f args) w) (hc:∀ w,vR f #[n.V] w (.string S)) :
  vR 146 #[n.V] w (.string S):=by
 have e0:n.cells[0]?=some (.int .i64 (n.kind:Int)):=rfl;have c2:(n.kind:Int) < 4:=by omega
 have HF:=Hd hf;have HC:=Hd hc;have HR:=Hd hr;clear hf hc hr;unfold jad.V;go_enter Tryz.func146,Tryz.ntmps146;go_wp2_with (refine jah Tryz.allocTabT rfl rfl ?_;intro W1 hB1 hE1;refine jag (vs:=[fnV 195,fnV 196,fnV 197,fnV 198]) rfl rfl rfl rfl hB1 rfl Tryz.szTabT (by simp[fnV,Value.oneCell']) ?_;intro W2 hB2 hE2)
 have q0:W2.cell? ⟨w.heap.size,0,none⟩=some (.int .i64 (n.kind:Int)):=(((Blk.new w (.cells n.cells.toArray 208)).keeps hE1 (fun h=>h)).keeps hE2 (by rw[World.size_alloc];omega)).cellL e0;have qt:W2.cell? ⟨w.heap.size+1,n.kind,none⟩=some (fnV f):=by
  have:=hB2.cellL HF.o
  rwa [World.size_alloc]at this
 have hbn:=((Blk.new w (.cells n.cells.toArray 208)).keeps hE1 (fun h=>h)).keeps hE2 (by rw[World.size_alloc];omega);have QT:=Hd qt;have Q0:=Hd q0;have HBN:=Hd hbn;have HE:=Hd ((((ExtR w).alloc (.cells n.cells.toArray 208)).trans hE1).trans' hE2 (fun x hx e=>by have e:x=(w.alloc (.cells n.cells.toArray 208)).heap.size:=e;rw[World.size_alloc]at e;omega));clear hB1 hE1 hB2 hE2 q0 qt hbn;simp only[Act.put,List.setIfInBounds_toArray,List.set_cons_zero,List.set_cons_succ,World.size_alloc];refine jai [0,1,2,3,4,5,6] Ext ExtR ExtT vY vY vY ?_
 refine vK ?_
 refine qKL ⟨w.heap.size,0,none⟩ _ rfl (fun w2 h2=>jab Tryz.uKind rfl (jaa (by exact Q0.o) h2)) ?_;refine vS ?_
 refine vK ?_
 refine qKL ⟨w.heap.size+1,n.kind,none⟩ _ rfl (fun w2 h2=>jaz Tryz.aggT (jaa (by exact QT.o) h2)) ?_;refine vS ?_;refine qKL ⟨w.heap.size,0,none⟩ _ rfl (fun w2 h2=>jbU w2 _ n HR.o (HBN.o.keeps ((jaj W2).trans h2) (fun h=>h))) ?_;refine vS ?_;refine qKC _ f #[n.V] (.string S) rfl (fun w1=>jhG rfl eg rfl) (fun w1 h1=>HC.o w1) ?_;refine vS ?_
 refine vK ?_
 refine qKE (fun w3 he=>?_);go_wp2_with fail
 go_ret
 exact⟨rfl,HE.o.trans ((jaj W2).trans he)⟩
structure jn7(n:jad):Prop where
 refs:n.refs.length=16
 kind:n.kind<=3
 path:n.path.size<=12
 value:n.value.size<=80
 valid:jat n.path=true
 each:∀ r∈n.refs,r.size<=33
def jaN(n:jad):vB:=if n.kind=0 then jao ⟨#[]⟩else if n.kind=1 then jk2 n else if n.kind=2 then extB n else jdN n
theorem jkA(n:jad)(h:jn7 n):∀ x∈jbH n,x.size<=89:=by
 have key:∀ (l:List (Nat × vB)) (m:List vB),(∀ x∈l,x.2.size<=89)->(∀ x∈m,x.size<=89)->∀ x∈l.foldl (fun l x=>l.set x.1 x.2) m,x.size<=89:=by
  intro l;induction l with
  | nil=>intro m _ h2;exact h2
  | cons y r ih =>
   intro m h1 h2;rw[List.foldl_cons];refine ih _ (fun x hx=>h1 x (List.mem_cons_of_mem _ hx)) (fun x hx=>?_);rcases List.mem_or_eq_of_mem_set hx with hx | rfl
   ·exact h2 x hx
   ·exact h1 y (List.mem_cons_self ..)
 intro x hx;unfold jbH at hx;rcases List.mem_or_eq_of_mem_set hx with hx | rfl
 ·refine key _ _ (fun y hy=>?_) (fun y hy=>?_) x hx
  ·have h1:=(je0 n.refs 0 y (List.mem_of_mem_take hy)).2.2.1
   have:=h.each y.2 (List.mem_of_getElem? h1)
   omega
  ·rw[List.eq_of_mem_replicate hy]
   have:=jaK ⟨#[]⟩
   have h0:(⟨#[]⟩:vB).size=0:=rfl;omega
 ·have:=jaK n.value
  have:=h.value
  omega
theorem jpN(c:Nat):∀ (l:List vB),(∀ x∈l,x.size<=c)->(catB l).size<=c * l.length
 | [],_=>by rw[jcu];omega
 | x :: r,h=>by
  rw[ja1];have h1:=h x (List.mem_cons_self ..);have h2:=jpN c r (fun y hy=>h y (List.mem_cons_of_mem _ hy));rw[List.length_cons,Nat.mul_add];omega
theorem jc3(n:jad)(h:jn7 n):(catB (jbH n)).size<=1513:=by
 have:=jpN 89 _ (jkA n h)
 have hl:(jbH n).length=17:=by unfold jbH;rw[List.length_set,jhp]
 rw[hl]at this;omega
theorem jq6(w:World)(n:jad)(h:jn7 n):vR 146 #[n.V] w (.string (jaN n)):=by
 have hk:=h.kind;have h1:=h.path;have h2:=h.value
 by_cases k0:n.kind=0
 ·have e:jaN n=jao ⟨#[]⟩:=by unfold jaN;rw[if_pos k0]
  rw[e];exact jnX w n h.refs hk _ 195 (by rw[k0];rfl) (vX 195) (fun w=>joN w n)
 ·by_cases k1:n.kind=1
  ·have e:jaN n=jk2 n:=by unfold jaN;rw[if_neg k0,if_pos k1]
   rw[e];exact jnX w n h.refs hk _ 196 (by rw[k1];rfl) (vX 196) (fun w=>joG w n vO vO h.valid)
  ·by_cases k2:n.kind=2
   ·have e:jaN n=extB n:=by unfold jaN;rw[if_neg k0,if_neg k1,if_pos k2]
    rw[e]
    obtain⟨r,rt,hrr⟩:∃ r rt,n.refs=r :: rt:=by
     cases hx:n.refs with
     | nil=>have:=h.refs;rw[hx]at this;cases this
     | cons r rt=>exact⟨r,rt,rfl⟩
    have hrs:=h.each r (by rw[hrr];exact List.mem_cons_self ..);exact jnX w n h.refs hk _ 197 (by rw[k2];rfl) (vX 197) (fun w=>jp9 w n vO r (by rw[hrr];rfl) vO h.valid)
   ·have k3:n.kind=3:=by omega
    have e:jaN n=jdN n:=by unfold jaN;rw[if_neg k0,if_neg k1,if_neg k2]
    rw[e];exact jnX w n h.refs hk _ 198 (by rw[k3];rfl) (vX 198) (fun w=>jkB w n h.refs vO (by have:=jc3 n h;omega))
theorem jvk(w:World)(s:vB)(hs:s.size<=1000000)(leaf:Bool)(x:vB)(hx:ja5 s=x)(h2:2<=x.size)(h0:x[0].toNat=if leaf then 3 else 1) :
  vR 228 #[.string s] w (.tuple #[.string (x.extract 1 x.size),.bool leaf,.bool true]):=by
 go_enter Tryz.func228,Tryz.ntmps228;go_wp2_with fail
 refine vC (ji0 w s hs) fun w1 hE=>?_;rw[hx];have HE:=Hd hE;clear hE hx hs;have hne:=ja8 (s:=x) vO;have c0:(0:Int) < (x.size:Int):=by omega
 have c1:(1:Int)<=(x.size:Int):=by omega
 cases leaf with
 | true =>
  have hq:(x[0].toNat:Int)=3:=by simp at h0;omega
  clear h0;go_wp2_with fail
  exact bodyPost_ret (v:=.tuple #[.string (x.extract 1 x.size),.bool true,.bool true]) vY rfl ⟨rfl,HE.o⟩
 | false =>
  have hq:(x[0].toNat:Int)=1:=by simp at h0;omega
  clear h0;go_wp2_with fail
  exact bodyPost_ret (v:=.tuple #[.string (x.extract 1 x.size),.bool false,.bool true]) vY rfl ⟨rfl,HE.o⟩
theorem jsZ(w:World)(s:vB)(hs:s.size<=1000000)(leaf:Bool)(x:vB)(hx:ja5 s=x)(h2:2<=x.size)(h0:x[0].toNat=if leaf then 2 else 0)(h1:x[1].toNat=0) :
  vR 228 #[.string s] w (.tuple #[.string (x.extract 2 x.size),.bool leaf,.bool true]):=by
 go_enter Tryz.func228,Tryz.ntmps228;go_wp2_with fail
 refine vC (ji0 w s hs) fun w1 hE=>?_;rw[hx];have HE:=Hd hE;clear hE hx hs;have hne:=ja8 (s:=x) vO;have c0:(0:Int) < (x.size:Int):=by omega
 have c1:(1:Int) < (x.size:Int):=by omega
 have c2:(2:Int)<=(x.size:Int):=by omega
 have hq1:(x[1].toNat:Int)=0:=by omega
 clear h1;cases leaf with
 | true =>
  have hq:(x[0].toNat:Int)=2:=by simp at h0;omega
  clear h0;go_wp2_with fail
  exact bodyPost_ret (v:=.tuple #[.string (x.extract 2 x.size),.bool true,.bool true]) vY rfl ⟨rfl,HE.o⟩
 | false =>
  have hq:(x[0].toNat:Int)=0:=by simp at h0;omega
  clear h0;go_wp2_with fail
  exact bodyPost_ret (v:=.tuple #[.string (x.extract 2 x.size),.bool false,.bool true]) vY rfl ⟨rfl,HE.o⟩
end
section
open Go Go.RowKit
def jam(k:Nat):List vB:=List.replicate k ⟨#[]⟩
inductive jbx (I:vB->jad->Prop):jad->Prop
 | none:jbx I jar
 | leaf (p v:vB):(⟨1,p,v,jam 16⟩:jad).pathOk 0=true->0 < v.size->v.size<=80->jbx I ⟨1,p,v,jam 16⟩
 | ext (p r:vB):(⟨2,p,⟨#[]⟩,r :: jam 15⟩:jad).pathOk 1=true->r.size≠0->(jeJ r\/∃ m,I r m/\m.kind=3)->jbx I ⟨2,p,⟨#[]⟩,r :: jam 15⟩
 | branch (v:vB) (rs:List vB):rs.length=16->v.size<=80->(∀ r∈rs,r.size≠0->MayP I r)->2<=min v.size 1+(jas 0 rs).length->jbx I ⟨3,⟨#[]⟩,v,rs⟩
theorem jbJ{n:jad}{k:Nat}(h:n.pathOk k=true):k<=n.path.size/\n.path.size<=12/\jat n.path=true:=by
 simp only[jad.pathOk,Bool.and_eq_true,decide_eq_true_eq]at h;exact⟨h.1.1,h.1.2,h.2⟩
theorem jdB:∀ (k i:Nat),jas i (jam k)=[]
 | 0,_=>rfl
 | k+1,i=>by
  unfold jam;rw[List.replicate_succ];unfold jas;rw[if_pos (show (⟨#[]⟩:vB).size=0 from rfl)];exact jdB k (i+1)
section
variable {I:vB->jad->Prop} (HI:InlP I)
include HI
theorem MayP.size{r:vB}(h:MayP I r):r.size<=33:=by
 rcases h with h |⟨m,h⟩
 ·rw[h.size];omega
 ·have:=HI.small r m h;omega
theorem jbx.one{n:jad}(h:jbx I n):jn7 n:=by
 have hz:(⟨#[]⟩:vB).size=0:=rfl;cases h with
 | none=>exact⟨rfl,by decide,by decide,by decide,rfl,fun r hr=>by rw[List.eq_of_mem_replicate hr];decide⟩
 | leaf p v h1 h2 h3 =>
  obtain⟨a,b,c⟩:=jbJ h1
  exact⟨by simp[jam],by simp,b,h3,c,fun r hr=>by rw[List.eq_of_mem_replicate hr];decide⟩
 | ext p r h1 h2 h3 =>
  obtain⟨a,b,c⟩:=jbJ h1
  refine⟨by simp[jam],by simp,b,by show (⟨#[]⟩:vB).size<=80;omega,c,fun x hx=>?_⟩
  rcases List.mem_cons.1 hx with rfl | hx
  ·exact MayP.size HI (h3.imp id (fun ⟨m,h,_⟩=>⟨m,h⟩))
  ·rw[List.eq_of_mem_replicate hx];decide
 | branch v rs h1 h2 h3 h4 =>
  refine⟨h1,by simp,by show (⟨#[]⟩:vB).size<=12;omega,h2,rfl,fun r hr=>?_⟩
  by_cases h0:r.size=0
  ·omega
  ·exact MayP.size HI (h3 r hr h0)
theorem jkh(w:World)(n:jad)(h:jbx I n):vR 145 #[n.V] w (.bool true):=by
 have h1:=h.one HI;cases h with
 | none=>exact jki w jar h1.refs h1.kind 191 rfl (vX 191) (fun w=>jxA w)
 | leaf p v h2 h3 h4=>exact jki w _ h1.refs h1.kind 192 rfl (vX 192) (fun w=>jxw w _ h1.refs h2 h3 h4 (by unfold jad.behindN jad.refsL;rw[jdB];rfl))
 | ext p r h2 h3 h4=>exact jki w _ h1.refs h1.kind 193 rfl (vX 193) (fun w=>jyH HI w _ r h1.refs h2 rfl (by
   have e:jas 0 (r :: jam 15)=[(0,r)]:=by unfold jas;rw[if_neg h3,jdB]
   unfold jad.behindN;have e2:jad.refsL ⟨2,p,⟨#[]⟩,r :: jam 15⟩=[(0,r)]:=e;rw[e2];show jad.ri _ 0+1=1;unfold jad.ri;rw[e2];rfl) rfl h4)
 | branch v rs h2 h3 h4 h5=>exact jki w _ h1.refs h1.kind 194 rfl (vX 194) (fun w=>jsw HI w _ h1.refs rfl h3 h4 h5)
theorem jiY(w:World)(n:jad)(h:jbx I n):vR 129 #[n.V] w (.tuple #[.string (jaN n),.int .i64 0]):=by
 have h1:=h.one HI;have hld:=jan (w.alloc (.cells n.cells.toArray 144)) _ n h1.refs (Blk.new w _);have H:=Hd h;have H1:=Hd h1;clear h h1;unfold jad.V at hld ⊢;go_enter Tryz.func129,Tryz.ntmps129;go_wp2_with (refine jaf 144 (.tmp 1) rfl rfl _ _ rfl hld ?_)
 refine vC (jkh HI _ n H.o) fun w1 hE=>?_;have B1:=(Blk.new w (.cells n.cells.toArray 144)).keeps hE (fun h=>h);have hld1:=jan w1 _ n H1.o.refs B1;have HE1:=Hd (((ExtR w).alloc _).trans hE);unfold jad.V at hld1;clear hld hE B1;go_wp2_with (refine jaf 144 (.tmp 1) rfl rfl _ _ rfl hld1 ?_)
 refine vC (jq6 w1 n H1.o) fun w2 hE=>?_;have HE2:=Hd (HE1.o.trans hE);clear hld1 hE;go_wp2_with fail
 go_ret2
 exact⟨rfl,HE2.o⟩
end
theorem ji1:∀ (l:List UInt8),l.length % 2=0->(∀ b∈l,b<=15)->jcp (jck l)=l
 | [],_,_=>rfl
 | [x],h,_=>by simp at h
 | x :: y :: r,h,hb=>by
  have hx:=hb x (List.mem_cons_self ..);have hy:=hb y (List.mem_cons_of_mem _ (List.mem_cons_self ..));have ih:=ji1 r (by simp at h;omega) (fun b hb'=>hb b (List.mem_cons_of_mem _ (List.mem_cons_of_mem _ hb')));show jcp ((x <<< 4 ||| y) :: jck r)=_;unfold jcp at ih ⊢;rw[List.flatMap_cons,ih];have hx':x.toNat<=15:=UInt8.le_iff_toNat_le.1 hx;have hy':y.toNat<=15:=UInt8.le_iff_toNat_le.1 hy
  have:∀ a b:Fin 16,((UInt8.ofNat a.1 <<< 4 ||| UInt8.ofNat b.1) >>> 4=UInt8.ofNat a.1)/\((UInt8.ofNat a.1 <<< 4 ||| UInt8.ofNat b.1) &&& 15=UInt8.ofNat b.1):=by decide
  have h3:=this ⟨x.toNat,by omega⟩ ⟨y.toNat,by omega⟩;simp only[UInt8.ofNat_toNat]at h3;rw[h3.1,h3.2];rfl
theorem jf8(p:vB)(leaf:Bool)(hv:jat p=true):ja5 (putB p leaf)=⟨(jb7 p leaf++p.data.toList).toArray⟩:=by
 unfold ja5 putB jbr;rw[ji1]
 ·show (jb7 p leaf++p.data.toList).length % 2=0
  rw[List.length_append,show p.data.toList.length=p.size from rfl];unfold jb7 oddB
  by_cases h:p.size % 2=1
  ·simp[h];omega
  ·have:(p.size % 2 == 1)=false:=by simpa using h
   rw[this];simp;omega
 ·intro b hb
  have hb:b∈jb7 p leaf++p.data.toList:=hb;rcases List.mem_append.1 hb with hb | hb
  ·unfold jb7 jdO oddB at hb
   rcases List.mem_cons.1 hb with rfl | hb
   ·cases leaf <;> cases (p.size % 2 == 1) <;> decide
   ·split at hb
    ·cases hb
    ·rw[List.mem_singleton.1 hb];decide
  ·exact of_decide_eq_true (List.all_eq_true.1 hv b hb)
theorem jnj(w:World)(p:vB)(leaf:Bool)(hs:p.size<=900000)(hv:jat p=true):vR 228 #[.string (putB p leaf)] w (.tuple #[.string p,.bool leaf,.bool true]):=by
 have hp:=jf8 p leaf hv;have hsz:=jbi p leaf;have e1:∀ a:UInt8,(⟨(a :: p.data.toList).toArray⟩:vB).extract 1 (⟨(a :: p.data.toList).toArray⟩:vB).size=p:=fun a=>by
  have:=jhH ⟨#[a]⟩ p
  have h2:(⟨#[a]⟩:vB)++p=⟨(a :: p.data.toList).toArray⟩:=by rw[jsl (_++p),ByteArray.data_append,Array.toList_append];rfl
  rw[h2]at this;exact this
 have e2:∀ a b:UInt8,(⟨(a :: b :: p.data.toList).toArray⟩:vB).extract 2 (⟨(a :: b :: p.data.toList).toArray⟩:vB).size=p:=fun a b=>by
  have:=jhH ⟨#[a,b]⟩ p
  have h2:(⟨#[a,b]⟩:vB)++p=⟨(a :: b :: p.data.toList).toArray⟩:=by rw[jsl (_++p),ByteArray.data_append,Array.toList_append];rfl
  rw[h2]at this;exact this
 by_cases ho:p.size % 2=1
 ·have hod:oddB p=true:=by unfold oddB;simpa using ho
  have hf:jb7 p leaf=[jdO leaf true]:=by unfold jb7;rw[hod];rfl
  rw[hf]at hp
  have:=jvk w (putB p leaf) vO leaf ⟨(jdO leaf true :: p.data.toList).toArray⟩ hp (by show 2<=p.data.toList.length+1;have:p.data.toList.length=p.size:=rfl;omega) (by cases leaf <;> rfl)
  rw[e1]at this;exact this
 ·have hod:oddB p=false:=by unfold oddB;simpa using ho
  have hf:jb7 p leaf=[jdO leaf false,0]:=by unfold jb7;rw[hod];rfl
  rw[hf]at hp
  have:=jsZ w (putB p leaf) vO leaf ⟨(jdO leaf false :: 0 :: p.data.toList).toArray⟩ hp (by show 2<=p.data.toList.length+2;omega) (by cases leaf <;> rfl) rfl
  rw[e2]at this;exact this
end
section
open Go Go.RowKit
theorem jax{P:Program}{fn:Func}{t u:Tmp}{ty:TypeId}(h:fn.results=#[.cell t ty,.tmp u]){tmps:Array Value}{a:Addr}(ha:tmps.getD t undef=.pointer (some a)){w:World}{v x:Value}(hx:tmps.getD u undef=x)(hl:(loadVar ty a).run P w=.ok v w) :
  (results fn tmps).run P w=.ok (.tuple #[v,x]) w:=by
 have ha':tmps[t]?.getD undef=.pointer (some a):=by simpa using ha
 have hx':tmps[u]?.getD undef=x:=by simpa using hx
 simp[results,h,ha',hx',asAddr,Sem.run_bind,Result.andThen,hl]
theorem jap(W:World)(b:Nat)(n:jad)(hr:n.refs.length=16)(hB:Blk W b (.cells n.cells.toArray 144)):(loadVar 144 ⟨b,0,none⟩).run Tryz.prog W=.ok n.V W:=by
 have:=jan W b n hr hB
 simpa [Instr.loadAt,Instr.sureAddr,Sem.run_bind,Result.andThen]using this
def jb4(k:Int)(p v:vB)(r:vB):List Value:=[.int .i64 k,.string p,.string v,.string r,.string ⟨#[]⟩,.string ⟨#[]⟩,.string ⟨#[]⟩,.string ⟨#[]⟩,.string ⟨#[]⟩,.string ⟨#[]⟩,.string ⟨#[]⟩,.string ⟨#[]⟩,.string ⟨#[]⟩,.string ⟨#[]⟩,.string ⟨#[]⟩,.string ⟨#[]⟩,.string ⟨#[]⟩,.string ⟨#[]⟩,.string ⟨#[]⟩]
theorem jb5(k:Int)(p v r:vB):∀ x∈jb4 k p v r,x.oneCell'=true:=by simp[jb4,Value.oneCell']
theorem joS(w:World)(p v:vB)(hp:p.size<=900000)(hv:v.size<=100000)(hok:jat p=true):vR 189 #[.string (jao (putB p true)),.string (jao v)] w (.tuple #[(⟨1,p,v,jam 16⟩:jad).V,.bool true]):=by
 obtain⟨q,h1,h2⟩:=jd8 (putB p true) (by have:=jbi p true;omega)
 obtain⟨q',h3,h4⟩:=jd8 v vO
 have z1:(jao (putB p true)).size<=1000000000:=by have:=jbi p true;have:=jaK (putB p true);omega
 have z2:(jao v).size<=1000000000:=by have:=jaK v;omega
 have H1:=Hd h1;have H2:=Hd h2;have H3:=Hd h3;have H4:=Hd h4;clear h1 h2 h3 h4;go_enter Tryz.func189,Tryz.ntmps189;go_wp2_with (refine jah Tryz.allocNode rfl rfl ?_;intro W1 hB1 hE1)
 refine vC (jh4 _ _ q z1 H1.o) fun w2 hE=>?_;rw[H2.o];have hB2:=hB1.keeps hE (fun h=>h);have HE2:=Hd (hE1.trans hE);have HB2:=Hd hB2;clear hB1 hE1 hE hB2;unfold optV;simp only;go_wp2_with fail
 refine vC (jnj _ p true hp hok) fun w3 hE=>?_;have HE3:=Hd (HE2.o.trans hE);have HB3:=Hd (HB2.o.keeps hE (fun h=>h));clear hE HE2 HB2;go_wp2_with fail
 refine vC (jh4 _ _ q' z2 H3.o) fun w4 hE=>?_;rw[H4.o];have HE4:=Hd (HE3.o.trans hE);have hB4:=HB3.o.keeps hE (fun h=>h);clear hE HE3 HB3;unfold optV;simp only;go_wp2_with (refine jag (vs:=jb4 1 p v ⟨#[]⟩) rfl rfl rfl rfl hB4 rfl Tryz.szNode (jb5 _ _ _ _) ?_;intro W5 hB5 hE5)
 refine bodyPost_ret (jax rfl rfl rfl (jap W5 _ ⟨1,p,v,jam 16⟩ rfl hB5)) rfl ?_
 exact⟨rfl,HE4.o.trans' hE5 (fun x hx e=>by have e:x=w.heap.size:=e;omega)⟩
theorem jrq(w:World)(p r:vB)(hp:p.size<=900000)(hok:jat p=true):vR 189 #[.string (jao (putB p false)),.string r] w (.tuple #[(⟨2,p,⟨#[]⟩,r :: jam 15⟩:jad).V,.bool true]):=by
 obtain⟨q,h1,h2⟩:=jd8 (putB p false) (by have:=jbi p false;omega)
 have z1:(jao (putB p false)).size<=1000000000:=by have:=jbi p false;have:=jaK (putB p false);omega
 have H1:=Hd h1;have H2:=Hd h2;clear h1 h2;go_enter Tryz.func189,Tryz.ntmps189;go_wp2_with (refine jah Tryz.allocNode rfl rfl ?_;intro W1 hB1 hE1)
 refine vC (jh4 _ _ q z1 H1.o) fun w2 hE=>?_;rw[H2.o];have hB2:=hB1.keeps hE (fun h=>h);have HE2:=Hd (hE1.trans hE);have HB2:=Hd hB2;clear hB1 hE1 hE hB2;unfold optV;simp only;go_wp2_with fail
 refine vC (jnj _ p false hp hok) fun w3 hE=>?_;have HE3:=Hd (HE2.o.trans hE);have HB3:=Hd (HB2.o.keeps hE (fun h=>h));clear hE HE2 HB2;go_wp2_with (first |(refine jah Tryz.allocNode rfl rfl ?_;intro W5 hB5 hE5;refine jag (vs:=jb4 2 p ⟨#[]⟩ ⟨#[]⟩) rfl rfl rfl rfl hB5 rfl Tryz.szNode (jb5 _ _ _ _) ?_;intro W6 hB6 hE6;have q3:W6.cell? ⟨w3.heap.size,3,none⟩=some (.string ⟨#[]⟩):=hB6.cell (i:=3) vF;have f3:W6.frozen? ⟨w3.heap.size,3,none⟩=false:=hB6.frozen;have HB7:=Hd (hB6.set_same (i:=3) (.string r))) |(refine jaf 144 (.tmp 10) rfl rfl _ _ rfl (jan _ _ ⟨2,p,⟨#[]⟩,r :: jam 15⟩ rfl HB7.o) ?_;refine jag (vs:=jad.cells ⟨2,p,⟨#[]⟩,r :: jam 15⟩) rfl rfl rfl rfl (((HB3.o.keeps hE5 (fun h=>h)).keeps hE6 (by have:=HB3.o.lt;omega)).set_other (p:=⟨w3.heap.size,3,none⟩) (by have:=HB3.o.lt;show w.heap.size≠w3.heap.size;omega) (.string r)) rfl Tryz.szNode (jad.one _) ?_;intro W8 hB8 hE8))
 refine bodyPost_ret (jax rfl rfl rfl (jap W8 _ ⟨2,p,⟨#[]⟩,r :: jam 15⟩ rfl hB8)) rfl ?_;have k1:Ext w3 (W6.setCell ⟨w3.heap.size,3,none⟩ (.string r)):=(hE5.trans' hE6 (fun x hx e=>by have e:x=w3.heap.size:=e;omega)).setCell (.inr (Nat.le_refl _)) _
 exact⟨rfl,(HE3.o.trans k1).trans' hE8 (fun x hx e=>by have e:x=w.heap.size:=e;omega)⟩
def ja0(rs:List vB)(v:vB):List vB:=rs.map (fun r=>if r.size=0 then jao ⟨#[]⟩else r)++[jao v]
def brN(rs:List vB)(k:Nat):jad:=⟨3,⟨#[]⟩,⟨#[]⟩,rs.take k++jam (16 - k)⟩
theorem jpG{rs:List vB}(h:rs.length=16){k:Nat}(hk:k<=16):(brN rs k).refs.length=16:=by simp[brN,jam,h];omega
theorem jpH{rs:List vB}(h:rs.length=16){k:Nat}(hk:k < 16)(r:vB)(hr:rs[k]?=some r):(brN rs k).cells.set (3+k) (.string r)=(brN rs (k+1)).cells:=by
 have e1:(rs.take k++jam (16 - k)).set k r=rs.take (k+1)++jam (16 - (k+1)):=by
  rw[List.set_append_right _ _ (by simp[h];omega)]
  have:k - (rs.take k).length=0:=by simp[h];omega
  rw[this,show 16 - k=(16 - (k+1))+1 by omega];unfold jam;rw[List.replicate_succ,List.set_cons_zero,List.take_add_one,hr];simp
 unfold jad.cells brN;simp only;rw[show 3+k=k+1+1+1 by omega,List.set_cons_succ,List.set_cons_succ,List.set_cons_succ, <-e1,List.map_set]
theorem jsv{rs:List vB}(h:rs.length=16){k:Nat}(hk:k < 16)(r:vB)(hr:rs[k]?=some r)(h0:r.size=0):brN rs (k+1)=brN rs k:=by
 have hre:r=⟨#[]⟩:=by
  obtain⟨⟨l⟩⟩:=r
  cases l with
  | nil=>rfl
  | cons x y=>exact absurd h0 (Nat.succ_ne_zero _)
 unfold brN;rw[List.take_add_one,hr,hre,show 16 - k=(16 - (k+1))+1 by omega];unfold jam;rw[List.replicate_succ];simp
def jwp(w:World)(g2 g4:Nat)(rs:List vB)(i:Value)(wr:World):Prop:=∃ k:Nat,k<=16/\i=.int .i64 k/\Ext w wr/\Blk wr g2 (.cells jar.cells.toArray 144)/\Blk wr g4 (.cells (brN rs k).cells.toArray 144)
theorem jls(w:World)(a:Value)(rs:List vB)(v:vB)(hr:rs.length=16)(hv:v.size<=100000)(hne:∀ r∈rs,r.size≠0->r≠jao ⟨#[]⟩)(ha:RdS w a (ja0 rs v)):vR 190 #[a] w (.tuple #[(⟨3,⟨#[]⟩,v,rs⟩:jad).V,.bool true]):=by
 have hxl:(ja0 rs v).length=17:=by simp[ja0,hr]
 rcases ha with⟨_,_,_,h0⟩ |⟨b,o,c,rfl,hb,hc,hcell⟩
 ·rw[h0]at hxl;cases hxl
 rw[hxl]at hc ⊢;have hit:∀ (k:Nat) r,rs[k]?=some r->w.cell? ⟨b,o+k,none⟩=some (.string (if r.size=0 then jao ⟨#[]⟩else r)):=fun k r hk=>hcell k _ (by
  unfold ja0;rw[List.getElem?_append_left (by rw[List.length_map];exact (List.getElem?_eq_some_iff.1 hk).1),List.getElem?_map,hk];rfl)
 have hiv:w.cell? ⟨b,o+16,none⟩=some (.string (jao v)):=hcell 16 _ (by
  unfold ja0;rw[List.getElem?_append_right (by rw[List.length_map];omega),List.length_map,hr];rfl)
 obtain⟨q,h1,h2⟩:=jd8 v vO
 have z1:(jao v).size<=1000000000:=by have:=jaK v;omega
 have HIT:=Hd hit;have HIV:=Hd hiv;have H1:=Hd h1;have H2:=Hd h2;have HR:=Hd hr;have HNE:=Hd hne;clear hit hiv h1 h2 hxl hcell hr hne;go_enter Tryz.func190,Tryz.ntmps190;go_wp2_with (first |(refine jah Tryz.allocNode rfl rfl ?_;intro W3 hB3 hE3;refine jag (vs:=jb4 3 ⟨#[]⟩ ⟨#[]⟩ ⟨#[]⟩) rfl rfl rfl rfl hB3 rfl Tryz.szNode (jb5 _ _ _ _) ?_;intro W4 hB4 hE4) |(refine jah Tryz.allocNode rfl rfl ?_;intro W1 hB1 hE1))
 have h4:Ext w W4:=(hE1.trans hE3).trans' hE4 (fun x hx e=>by have e:x=W1.heap.size:=e;have:=hE1.size;omega);have h5:=(hB1.keeps hE3 (fun h=>h)).keeps hE4 (by have:=hB1.lt;omega)
 obtain⟨g4,hg4⟩:∃ g,g=W1.heap.size:=⟨_,rfl⟩
 obtain⟨g2,hg2⟩:∃ g,g=w.heap.size:=⟨_,rfl⟩
 have n24:g2 < g4:=by have:=hB1.lt;omega
 have n2:w.heap.size<=g2:=by omega
 rw[<-hg4]at hB4 ⊢;rw[<-hg2]at h5 ⊢;have HE4:=Hd h4;have HB4:=Hd hB4;have H5:=Hd h5;clear hg4 hg2 h4 h5 hB4 hE1 hB1 hB3 hE3 hE4;go_loopw [9] (fun i wr=>jwp w g2 g4 rs i wr) (fun i _=>16 - (intOf i).toNat)
 case atStart=>exact⟨0,by omega,rfl,HE4.o,H5.o,HB4.o⟩
 case round =>
  obtain⟨k,hk,rfl,hE,hB2,hB4⟩:=hrel
  have HE:=Hd hE;have HB2:=Hd hB2;have HB4:=Hd hB4;clear hE hB2 hB4
  by_cases hlt:k < 16
  ·obtain⟨r,hri⟩:∃ r,rs[k]?=some r:=⟨_,List.getElem?_eq_getElem (by have:=HR.o;omega)⟩
   have qx:=jaa (HIT.o k r hri) HE.o;have b1:(k:Int) < 17:=by omega
   have hmem:r∈rs:=List.mem_of_getElem? hri
   obtain⟨em,hem⟩:=vE (jao ⟨#[]⟩)
   rw[<-hem]at qx;have HEM:=Hd hem;have HRI:=Hd hri;clear hem hri
   by_cases h0:r.size=0
   ·rw[if_pos h0]at qx
    have QX:=Hd qx;clear qx;go_wp2_with fail
    refine jai [0,1,2,3,4,5] Ext ExtR ExtT vY vY vY ?_;iterate 3 refine vK ?_
    refine qKL ⟨b,o+k,none⟩ _ rfl (fun w2 h2=>jab Tryz.uStr rfl (jaa (by exact QX.o) h2)) ?_;refine vS ?_;refine qKC _ 160 #[.string ⟨#[]⟩] (.string em) rfl (fun w1=>jay (vX 160) vY) (fun w1 h1=>by rw[HEM.o];exact jee w1 ⟨#[]⟩ vI) ?_;refine vS ?_
    refine vK ?_
    refine qKE (fun w3 he=>?_);have hX:=(jaj wr).trans he;have HE3:=Hd (HE.o.trans hX);have HB3:=Hd (HB2.o.keeps hX (fun h=>h));have HB5:=Hd (HB4.o.keeps hX (fun h=>h));clear he hX;go_wp2_with fail
    go_roundw
    case rel=>exact⟨k+1,by omega,by go_num,HE3.o,HB3.o,by rw[jsv HR.o hlt r HRI.o h0];exact HB5.o⟩
    case measure=>simp[intOf];omega
   ·rw[if_neg h0]at qx
    have hq:(r.toList == em.toList)=false:=by
     rw[beq_eq_false_iff_ne,ByteArray.toList_eq,ByteArray.toList_eq];intro e;exact HNE.o r hmem h0 (by rw[<-HEM.o];exact ByteArray.ext (Array.ext' e))
    have QX:=Hd qx;clear qx;go_wp2_with fail
    refine jai [0,1,2,3,4,5] Ext ExtR ExtT vY vY vY ?_;iterate 3 refine vK ?_
    refine qKL ⟨b,o+k,none⟩ _ rfl (fun w2 h2=>jab Tryz.uStr rfl (jaa (by exact QX.o) h2)) ?_;refine vS ?_;refine qKC _ 160 #[.string ⟨#[]⟩] (.string em) rfl (fun w1=>jay (vX 160) vY) (fun w1 h1=>by rw[HEM.o];exact jee w1 ⟨#[]⟩ vI) ?_;refine vS ?_
    refine vK ?_
    refine qKE (fun w3 he=>?_);have hX:=(jaj wr).trans he;have HE3:=Hd (HE.o.trans hX);have HB3:=Hd (HB2.o.keeps hX (fun h=>h));have HB5:=Hd (HB4.o.keeps hX (fun h=>h));have qx:=jaa QX.o hX
    obtain⟨old,q4⟩:∃ v,w3.cell? ⟨g4,3+k,none⟩=some v:=⟨_,HB5.o.cellL (List.getElem?_eq_getElem (by rw[jad.cells_len _ (jpG HR.o hk)];omega))⟩
    have f4:w3.frozen? ⟨g4,3+k,none⟩=false:=HB5.o.frozen;have b2:(k:Int) < 16:=by omega
    clear he hX;go_wp2_with fail
    go_roundw
    case rel =>
     refine⟨k+1,by omega,by go_num,HE3.o.setCell (.inr (by show w.heap.size<=g4;omega)) _,HB3.o.set_other (p:=⟨g4,3+k,none⟩) (by show g2≠g4;omega) _,?_⟩
     have:=HB5.o.set_same (i:=3+k) (.string r)
     rw[show (brN rs k).cells.toArray.setIfInBounds (3+k) (.string r)=((brN rs k).cells.set (3+k) (.string r)).toArray by simp,jpH HR.o hlt r HRI.o]at this;exact this
    case measure=>simp[intOf];omega
  ·have hk16:k=16:=by omega
   subst hk16;have qx:=jaa HIV.o HE.o;go_wp2_with fail
   refine vC (jh4 _ _ q z1 H1.o) fun w4 hE=>?_;rw[H2.o];have hb4:=HB4.o.keeps hE (fun h=>h);have q4:w4.cell? ⟨g4,2,none⟩=some (.string ⟨#[]⟩):=hb4.cellL vF;have f4:w4.frozen? ⟨g4,2,none⟩=false:=hb4.frozen;have HB5:=Hd (hb4.set_same (i:=2) (.string v));have hb2:=(HB2.o.keeps hE (fun h=>h)).set_other (p:=⟨g4,2,none⟩) (by show g2≠g4;omega) (.string v);have HB6:=Hd hb2;have HE4:=Hd (HE.o.trans hE);have e16:brN rs 16=⟨3,⟨#[]⟩,⟨#[]⟩,rs⟩:=by unfold brN jam;rw[List.take_of_length_le (by have:=HR.o;omega)];simp
   rw[e16]at HB5;have ec:(jad.cells ⟨3,⟨#[]⟩,⟨#[]⟩,rs⟩).toArray.setIfInBounds 2 (.string v)=(jad.cells ⟨3,⟨#[]⟩,v,rs⟩).toArray:=by simp[jad.cells]
   rw[ec]at HB5;clear hE hb4 hb2 qx ec e16;unfold optV;simp only;go_wp2_with (first |(refine jaf 144 (.tmp 4) rfl rfl _ _ rfl (jan _ _ ⟨3,⟨#[]⟩,v,rs⟩ HR.o HB5.o) ?_) |(refine jag (vs:=jad.cells ⟨3,⟨#[]⟩,v,rs⟩) rfl rfl rfl rfl HB6.o (by rw[jad.cells_len ⟨3,⟨#[]⟩,v,rs⟩ HR.o];rfl) (by rw[jad.cells_len ⟨3,⟨#[]⟩,v,rs⟩ HR.o];exact Tryz.szNode) (jad.one _) ?_;intro W8 hB8 hE8))
   refine bodyPost_ret (jax rfl rfl rfl (jap W8 _ ⟨3,⟨#[]⟩,v,rs⟩ HR.o hB8)) rfl ?_
   exact⟨rfl,(HE4.o.setCell (.inr (by show w.heap.size<=g4;omega)) _).trans' hE8 (fun x hx e=>by have e:x=g2:=e;omega)⟩
theorem jeu(xs:List vB)(hn:(catB xs).size<=1048576):ja4 xs≠jao ⟨#[]⟩:=by
 intro e
 obtain⟨o,h1,_⟩:=jeP xs hn
 obtain⟨o',h2,_⟩:=jhx ⟨#[]⟩ vI
 rw[e,h2]at h1;cases h1
theorem jeg{a b:vB}(h:a≠b):(a.toList == b.toList)=false:=by
 rw[beq_eq_false_iff_ne,ByteArray.toList_eq,ByteArray.toList_eq];exact fun e=>h (ByteArray.ext (Array.ext' e))
theorem jhJ(s:vB):s.extract s.size s.size=⟨#[]⟩:=by
 apply ByteArray.ext;apply Array.ext';simp
theorem jcE(xs:List vB):(ja4 xs).size<=(catB xs).size+9:=by
 unfold ja4;rw[ByteArray.size_append];have:=jd2 192 (catB xs).size;omega
theorem joU(w:World):vR 144 #[.string (jao ⟨#[]⟩)] w (.tuple #[jar.V,.bool true]):=by
 obtain⟨em,hem⟩:=vE (jao ⟨#[]⟩)
 rw[<-hem];have HEM:=Hd hem;clear hem;go_enter Tryz.func144,Tryz.ntmps144;go_wp2_with (refine jah Tryz.allocNode rfl rfl ?_;intro W1 hB1 hE1)
 refine vC (jee _ ⟨#[]⟩ vI) fun w2 hE=>?_;rw[<-HEM.o];have hB2:=hB1.keeps hE (fun h=>h);have HE2:=Hd (hE1.trans hE);clear hB1 hE1 hE;go_wp2_with (refine jag (vs:=jar.cells) rfl rfl rfl rfl hB2 rfl Tryz.szNode (jad.one _) ?_;intro W8 hB8 hE8)
 refine bodyPost_ret (jax rfl rfl rfl (jap W8 _ jar rfl hB8)) rfl ?_
 exact⟨rfl,HE2.o.trans' hE8 (fun x hx e=>by have e:x=w.heap.size:=e;omega)⟩
theorem jkl{P:Program}{o:Oper}{a:Act}{w:World}{K:Act->World->Prop}{Q:Exit->Act->World->Prop}{T T2:TypeId}{x y:Operand}{b:Nat}{old vs:List Value}(ho:o.op=.store T x y)(hx:a.eval x=.pointer (some ⟨b,0,none⟩))(hy:a.eval y=.agg vs.toArray)
  (hB:Blk w b (.cells old.toArray T2)) (hl:old.length=vs.length) (hi:(P.info? T).map (·.size)=some vs.length) (h1:∀ v∈vs,v.oneCell'=true)
  (h:∀ W,Blk W b (.cells vs.toArray T2)->jae (fun z=>z=b) w W->K (a.put o.dst undef) W):o.wp P a w K Q:=by
 refine wp_store_mid T x y ho b 0 vs.toArray hx hy (by have:=jkc hB;rw[hl]at this;simpa using this) (by simpa using hi) (all_oneCell_toArray h1) (h _ ?_ (jae.oneSetCells b vs 0 w))
 have:=Blk.setCells vs 0 w old hB vO
 rw[List.drop_of_length_le vO]at this;simpa using this
theorem jlt(w:World)(x y:vB)(n:jad)(hr:n.refs.length=16)(hx:jfN x)(hy:jfN y)(hs:x.size+y.size<=1048576)
  (hc:∀ w,vR 189 #[.string x,.string y] w (.tuple #[n.V,.bool true])) :
  vR 144 #[.string (ja4 [x,y])] w (.tuple #[n.V,.bool true]):=by
 have hcs:(catB [x,y]).size=x.size+y.size:=by rw[ja1,ja1,jcu];omega
 obtain⟨o,h1,h2,h3⟩:=jeP [x,y] vO
 have hls:=jcE [x,y]
 obtain⟨em,hem⟩:=vE (jao ⟨#[]⟩)
 have hne:=jeg (jeu [x,y] vO)
 obtain⟨s,hsd⟩:=vE (ja4 [x,y])
 obtain⟨c,hcd⟩:=vE (catB [x,y])
 rw[<-hsd]at h1 h2 h3 hls hne ⊢;rw[<-hcd]at h1 h2 h3 hls hcs;rw[<-hem]at hne;have HS:=Hd (show s.size<=1000000000 by omega);have H1:=Hd h1;have H3:=Hd h3;have HEM:=Hd hem;have HCD:=Hd hcd;have HCS:=Hd hcs;have H2:=Hd h2;have HR:=Hd hr;have HC:=Hd hc;clear h1 h2 h3 hls hsd hcd hem hcs hr hc;go_enter Tryz.func144,Tryz.ntmps144;go_wp2_with (refine jah Tryz.allocNode rfl rfl ?_;intro W1 hB1 hE1)
 refine vC (jee _ ⟨#[]⟩ vI) fun w2 hE=>?_;rw[<-HEM.o];have HB2:=Hd (hB1.keeps hE (fun h=>h));have HE2:=Hd (hE1.trans hE);clear hB1 hE1 hE;go_wp2_with fail
 refine vC (jmK _ s _ HS.o H1.o) fun w3 hE=>?_;simp only;rw[H3.o,H2.o,jhJ];have HB3:=Hd (HB2.o.keeps hE (fun h=>h));have HE3:=Hd (HE2.o.trans hE);clear hE HE2 HB2;go_wp2_with fail
 rw[HCD.o];refine (jqt w3 [x,y] (by intro z hz;rcases List.mem_cons.1 hz with rfl | hz;exact hx;rw[List.mem_singleton.1 hz];exact hy) (by rw[<-HCD.o,HCS.o];omega) (show 2<=1000000 by decide)).mono ?_;rintro e w4 ⟨v,rfl,hv⟩;have HB4:=Hd (HB3.o.keeps hv.ext (fun h=>h));have HE4:=Hd (HE3.o.trans hv.ext);rcases hv.rd with⟨_,_,_,h0⟩ |⟨b,o2,c2,rfl,hb,hc,hcell⟩
 ·cases h0
 have QX:=Hd (hcell 0 x rfl);have QY:=Hd (hcell 1 y rfl);clear hv hcell HE3 HB3;go_wp2_with fail
 refine jau [0,1,2,3,4,5,6,7,8,9,10] [9] Ext ExtR ExtT vY vY vY ?_;iterate 2 refine vP ?_
 refine qL ⟨b,o2,none⟩ _ rfl (fun w1 h1=>jab Tryz.uStr rfl (jaa (by exact QX.o) h1)) ?_;refine vS ?_;iterate 2 refine vP ?_
 refine qL ⟨b,o2+1,none⟩ _ rfl (fun w1 h1=>jab Tryz.uStr rfl (jaa (by exact QY.o) h1)) ?_;refine vS ?_;refine jcY _ 189 #[.string x,.string y] (.tuple #[n.V,.bool true]) rfl vY rfl (fun w1=>jay (vX 189) vY) (fun w1 h1=>HC.o w1) ?_;refine vS ?_;iterate 2 refine vP ?_
 refine qH _ rfl (fun w5 he K hK=>?_);have hX:=(jaj w4).trans he;refine jkl (vs:=n.cells) rfl rfl rfl (HB4.o.keeps hX (fun h=>h)) (by rw[n.cells_len HR.o];rfl) (by rw[n.cells_len HR.o];exact Tryz.szNode) n.one ?_;intro W6 hB6 hE6;have HB6:=Hd hB6;have HE6:=Hd ((HE4.o.trans hX).trans' hE6 (fun x hx e=>by have e:x=w.heap.size:=e;omega));clear he hX hB6 hE6 QX QY HB4 HE4;refine vS ?_;refine hK _ _ ?_;clear hK K
 refine vP ?_
 refine qE (fun w7 he=>?_);have HB7:=Hd (HB6.o.keeps he (fun h=>h));have HE7:=Hd (HE6.o.trans he);clear he HB6 HE6;go_wp2_with fail
 refine bodyPost_ret (jax rfl rfl rfl (jap w7 _ n HR.o HB7.o)) rfl ?_
 exact⟨rfl,HE7.o⟩
theorem joT(w:World)(xs:List vB)(n:jad)(hr:n.refs.length=16)(hl:xs.length=17)(hx:∀ x∈xs,jfN x)(hs:(catB xs).size<=1048576)
  (hc:∀ w v,RdS w v xs->vR 190 #[v] w (.tuple #[n.V,.bool true])) :
  vR 144 #[.string (ja4 xs)] w (.tuple #[n.V,.bool true]):=by
 obtain⟨o,h1,h2,h3⟩:=jeP xs hs
 have hls:=jcE xs
 obtain⟨em,hem⟩:=vE (jao ⟨#[]⟩)
 have hne:=jeg (jeu xs hs)
 obtain⟨s,hsd⟩:=vE (ja4 xs)
 obtain⟨c,hcd⟩:=vE (catB xs)
 rw[<-hsd]at h1 h2 h3 hls hne ⊢;rw[<-hcd]at h1 h2 h3 hls hs;rw[<-hem]at hne;have HS:=Hd (show s.size<=1000000000 by omega);have H1:=Hd h1;have H3:=Hd h3;have HEM:=Hd hem;have HCD:=Hd hcd;have HCS:=Hd hs;have HL:=Hd hl;have H2:=Hd h2;have HR:=Hd hr;have HC:=Hd hc;clear h1 h2 h3 hls hsd hcd hem hs hr hc hl;go_enter Tryz.func144,Tryz.ntmps144;go_wp2_with (refine jah Tryz.allocNode rfl rfl ?_;intro W1 hB1 hE1)
 refine vC (jee _ ⟨#[]⟩ vI) fun w2 hE=>?_;rw[<-HEM.o];have HB2:=Hd (hB1.keeps hE (fun h=>h));have HE2:=Hd (hE1.trans hE);clear hB1 hE1 hE;go_wp2_with fail
 refine vC (jmK _ s _ HS.o H1.o) fun w3 hE=>?_;simp only;rw[H3.o,H2.o,jhJ];have HB3:=Hd (HB2.o.keeps hE (fun h=>h));have HE3:=Hd (HE2.o.trans hE);clear hE HE2 HB2;go_wp2_with fail
 rw[HCD.o];refine (jqt w3 xs hx (by rw[<-HCD.o];have:=HCS.o;omega) (by have:=HL.o;omega)).mono ?_;rintro e w4 ⟨v,rfl,hv⟩;have HB4:=Hd (HB3.o.keeps hv.ext (fun h=>h));have HE4:=Hd (HE3.o.trans hv.ext);have hrd:=hv.rd;rcases hv.sl with⟨ad,cp,rfl⟩;rw[HL.o]at hrd ⊢;have hcall:=HC.o w4 _ hrd;have HCL:=Hd hcall;clear hv HE3 HB3 hrd hcall;go_wp2_with fail
 refine HCL.o.mono ?_;rintro e w5 ⟨rfl,hE⟩;have HE5:=Hd (HE4.o.trans hE);have hB5:=HB4.o.keeps hE (fun h=>h);clear hE HE4 HB4;unfold jad.V;go_wp2_with (refine jag (vs:=n.cells) rfl rfl rfl rfl hB5 (by rw[n.cells_len HR.o];rfl) (by rw[n.cells_len HR.o];exact Tryz.szNode) n.one ?_;intro W8 hB8 hE8)
 refine bodyPost_ret (jax rfl rfl rfl (jap W8 _ n HR.o hB8)) rfl ?_
 exact⟨rfl,HE5.o.trans' hE8 (fun x hx e=>by have e:x=w.heap.size:=e;omega)⟩
end
section
open Go Go.RowKit
theorem jne:∀ (l:List vB) (i:Nat) (m:List vB) (j:Nat),i+l.length<=m.length ->
  ((jas i l).foldl (fun l x=>l.set x.1 x.2) m)[j]?=if i<=j/\j < i+l.length/\(l.getD (j - i) ⟨#[]⟩).size≠0 then some (l.getD (j - i) ⟨#[]⟩)else m[j]?
 | [],i,m,j,_=>by
  rw[if_neg (fun h=>by have h1:=h.1;have h2:=h.2.1;rw[List.length_nil]at h2;omega)];rfl
 | r :: l,i,m,j,h=>by
  unfold jas;simp only[List.length_cons]at h ⊢;have key:∀ (m':List vB),m'.length=m.length->(∀ k,k≠i->m'[k]?=m[k]?)->((jas (i+1) l).foldl (fun l x=>l.set x.1 x.2) m')[j]?=if i<=j/\j < i+(l.length+1)/\((r :: l).getD (j - i) ⟨#[]⟩).size≠0/\j≠i then some ((r :: l).getD (j - i) ⟨#[]⟩)else m'[j]?:=by
   intro m' hm' hk;rw[jne l (i+1) m' j vO]
   by_cases hj:i+1<=j
   ·have e:(r :: l).getD (j - i) ⟨#[]⟩=l.getD (j - (i+1)) ⟨#[]⟩:=by
     rw[show j - i=(j - (i+1))+1 by omega,List.getD_cons_succ]
    rw[e]
    by_cases h2:j < i+1+l.length/\(l.getD (j - (i+1)) ⟨#[]⟩).size≠0
    ·rw[if_pos ⟨hj,h2.1,h2.2⟩,if_pos ⟨by omega,by omega,h2.2,by omega⟩]
    ·rw[if_neg (fun h3=>h2 h3.2),if_neg (fun h3=>h2 ⟨by omega,h3.2.2.1⟩)]
   ·rw[if_neg (fun h3=>hj h3.1),if_neg (fun h3=>hj vO)]
  split
  ·rename_i h0
   rw[key m rfl (fun _ _=>rfl)]
   by_cases hj:j=i
   ·subst hj
    rw[if_neg (fun h3=>h3.2.2.2 rfl),if_neg (fun h3=>h3.2.2 (by rw[Nat.sub_self];exact h0))]
   ·by_cases h2:i<=j/\j < i+(l.length+1)/\((r :: l).getD (j - i) ⟨#[]⟩).size≠0
    ·rw[if_pos ⟨h2.1,h2.2.1,h2.2.2,hj⟩,if_pos h2]
    ·rw[if_neg (fun h3=>h2 ⟨h3.1,h3.2.1,h3.2.2.1⟩),if_neg h2]
  ·rename_i h0
   rw[List.foldl_cons,key (m.set i r) (by simp) (fun k hk=>List.getElem?_set_ne (Ne.symm hk))]
   by_cases hj:j=i
   ·subst hj
    rw[if_neg (fun h3=>h3.2.2.2 rfl),if_pos ⟨Nat.le_refl _,by omega,by rw[Nat.sub_self];exact h0⟩,Nat.sub_self];rw[List.getElem?_set_self vO];rfl
   ·rw[List.getElem?_set_ne (Ne.symm hj)]
    by_cases h2:i<=j/\j < i+(l.length+1)/\((r :: l).getD (j - i) ⟨#[]⟩).size≠0
    ·rw[if_pos ⟨h2.1,h2.2.1,h2.2.2,hj⟩,if_pos h2]
    ·rw[if_neg (fun h3=>h2 ⟨h3.1,h3.2.1,h3.2.2.1⟩),if_neg h2]
theorem jdl(n:jad)(hr:n.refs.length=16):jbH n=ja0 n.refs n.value:=by
 apply List.ext_getElem?;intro j;unfold jbH jdM ja0;rw[List.take_of_length_le (Nat.le_refl _)];unfold jad.refsL;have hlen:((jas 0 n.refs).foldl (fun l x=>l.set x.1 x.2) (List.replicate 17 (jao ⟨#[]⟩))).length=17:=by
  have:=jhp n n.refsL.length
  unfold jdM at this;rw[List.take_of_length_le (Nat.le_refl _)]at this;exact this
 by_cases h16:j=16
 ·subst h16
  rw[List.getElem?_set_self (by rw[hlen];omega),List.getElem?_append_right (by rw[List.length_map,hr];omega),List.length_map,hr];rfl
 ·rw[List.getElem?_set_ne vO,jne n.refs 0 _ j (by rw[hr,List.length_replicate];omega),hr]
  by_cases hj:j < 16
  ·have hlt:j < n.refs.length:=by omega
   rw[List.getElem?_append_left (by rw[List.length_map];exact hlt),List.getElem?_map,List.getElem?_eq_getElem hlt];have e:n.refs.getD (j - 0) ⟨#[]⟩=n.refs[j]:=by rw[List.getD_eq_getElem?_getD,Nat.sub_zero,List.getElem?_eq_getElem hlt];rfl
   rw[e]
   by_cases h0:n.refs[j].size=0
   ·rw[if_neg (fun h3=>h3.2.2 h0),List.getElem?_replicate,if_pos vO,Option.map_some,if_pos h0]
   ·rw[if_pos ⟨by omega,by omega,h0⟩,Option.map_some,if_neg h0]
  ·rw[if_neg (fun h3=>hj vO),List.getElem?_replicate,if_neg vO,List.getElem?_eq_none (by simp[hr];omega)]
section
variable {I:vB->jad->Prop} (HI:InlP I)
include HI
theorem MayP.item{r:vB}(h:MayP I r):jfN r:=by
 rcases h with⟨h,h1,rfl⟩ |⟨m,hm⟩
 ·exact jcS h vO
 ·obtain⟨xs,rfl,h2⟩:=HI.list r m hm
  exact jmp xs h2
theorem MayP.ne{r:vB}(h:MayP I r):r≠jao ⟨#[]⟩:=by
 rcases h with h |⟨m,hm⟩
 ·intro e
  have:=h.size
  rw[e]at this;exact absurd this vI
 ·obtain⟨xs,rfl,h2⟩:=HI.list r m hm
  exact jeu xs h2
theorem jvN(w:World)(n:jad)(h:jbx I n):vR 144 #[.string (jaN n)] w (.tuple #[n.V,.bool true]):=by
 have h1:=h.one HI;have hbl:=jc3 n h1;cases h with
 | none=>exact joU w
 | leaf p v h2 h3 h4 =>
  obtain⟨a,b,c⟩:=jbJ h2
  have z1:=jbi p true;have z2:=jaK (putB p true);have z3:=jaK v;simp only at b;exact jlt w (jao (putB p true)) (jao v) _ h1.refs (jcS _ vO) (jcS _ vO) vO (fun w=>joS w p v vO vO c)
 | ext p r h2 h3 h4 =>
  obtain⟨a,b,c⟩:=jbJ h2
  have z1:=jbi p false;have z2:=jaK (putB p false);simp only at b;have hm:MayP I r:=h4.imp id (fun ⟨m,h,_⟩=>⟨m,h⟩);have z3:=hm.size HI;exact jlt w (jao (putB p false)) r _ h1.refs (jcS _ vO) (hm.item HI) vO (fun w=>jrq w p r vO c)
 | branch v rs h2 h3 h4 h5 =>
  have e:jbH ⟨3,⟨#[]⟩,v,rs⟩=ja0 rs v:=jdl _ h2;have hitem:∀ x∈ja0 rs v,jfN x:=by
   intro x hx;unfold ja0 at hx;rcases List.mem_append.1 hx with hx | hx
   ·obtain⟨r,hr,rfl⟩:=List.mem_map.1 hx
    by_cases h0:r.size=0
    ·rw[if_pos h0];exact jcS _ vI
    ·rw[if_neg h0];exact (h4 r hr h0).item HI
   ·rw[List.mem_singleton.1 hx];exact jcS _ vO
  show vQ _ #[.string (ja4 (jbH ⟨3,⟨#[]⟩,v,rs⟩))] w _;rw[e]at hbl ⊢;exact joT w (ja0 rs v) _ h2 (by simp[ja0,h2]) hitem vO (fun w a ha=>jls w a rs v h2 vO (fun r hr h0=>(h4 r hr h0).ne HI) ha)
end
end
section
open Go Go.RowKit
theorem jiX(n:jad)(h:jn7 n):(jaN n).size<=2000:=by
 unfold jaN;have h1:=h.path;have h2:=h.value;split
 ·exact Nat.le_trans (jaK _) vI
 ·split
  ·have z1:=jbi n.path true
   have z2:=jaK (putB n.path true);have z3:=jaK n.value;have z4:=jcE [jao (putB n.path true),jao n.value];rw[ja1,ja1,jcu]at z4;unfold jk2;omega
  ·split
   ·have z1:=jbi n.path false
    have z2:=jaK (putB n.path false);have z4:=jcE [jao (putB n.path false),n.refs.getD 0 ⟨#[]⟩];rw[ja1,ja1,jcu]at z4;have z5:(n.refs.getD 0 ⟨#[]⟩).size<=33:=h.each _ (by
     rw[List.getD_eq_getElem?_getD,List.getElem?_eq_getElem (by rw[h.refs];omega)];exact List.getElem_mem _)
    unfold extB;omega
   ·have z:=jc3 n h
    have z4:=jcE (jbH n);unfold jdN;omega
theorem jiW(n:jad)(h:jn7 n)(hk:n.kind≠0):∃ xs,jaN n=ja4 xs/\(catB xs).size<=1048576:=by
 have h1:=h.path;have h2:=h.value;unfold jaN;rw[if_neg hk];split
 ·have z1:=jbi n.path true
  have z2:=jaK (putB n.path true);have z3:=jaK n.value
  exact⟨_,rfl,by rw[ja1,ja1,jcu];omega⟩
 ·split
  ·have z1:=jbi n.path false
   have z2:=jaK (putB n.path false);have z5:(n.refs.getD 0 ⟨#[]⟩).size<=33:=h.each _ (by
    rw[List.getD_eq_getElem?_getD,List.getElem?_eq_getElem (by rw[h.refs];omega)];exact List.getElem_mem _)
   exact⟨_,rfl,by rw[ja1,ja1,jcu];omega⟩
  ·exact⟨_,rfl,by have:=jc3 n h;omega⟩
section
variable {I:vB->jad->Prop} (HI:InlP I)
include HI
theorem jhN(w:World)(n:jad)(h:jbx I n):vR 97 #[.string (jaN n)] w (.tuple #[n.V,.int .i64 0]):=by
 have h1:=h.one HI
 obtain⟨s,hs⟩:=vE (jaN n)
 rw[<-hs];have HS:=Hd hs;have H:=Hd h;have H1:=Hd h1;have HL:=Hd (n.cells_len h1.refs);clear h h1 hs;go_enter Tryz.func97,Tryz.ntmps97;go_wp2_with (refine jah Tryz.allocNode rfl rfl ?_;intro W1 hB1 hE1)
 rw[HS.o];refine vC (jvN HI W1 n H.o) fun w2 hE=>?_;rw[<-HS.o];have HB2:=Hd (hB1.keeps hE (fun h=>h));have HE2:=Hd (hE1.trans hE);clear hB1 hE1 hE;unfold jad.V;go_wp2_with (first |(refine jah Tryz.allocNode rfl rfl ?_;intro W3 hB3 hE3;refine jag (vs:=n.cells) rfl rfl rfl rfl hB3 (by rw[HL.o];rfl) (by rw[HL.o];exact Tryz.szNode) n.one ?_;intro W4 hB4 hE4) |(refine jaf 144 (.tmp 4) rfl rfl _ _ rfl (jan _ _ n H1.o.refs hB4) ?_))
 have hX4:Ext w2 W4:=hE3.trans' hE4 (fun x hx e=>by have e:x=w2.heap.size:=e;omega);refine vC (jkh HI W4 n H.o) fun w5 hE=>?_;have hB5:=hB4.keeps hE (fun h=>h);have HB5:=Hd hB5;have HX:=Hd (hX4.trans hE);clear hB3 hE3 hB4 hE4 hX4 hE;go_wp2_with (refine jaf 144 (.tmp 4) rfl rfl _ _ rfl (jan _ _ n H1.o.refs hB5) ?_)
 refine vC (jq6 w5 n H1.o) fun w6 hE=>?_;rw[<-HS.o];have hB6:=HB5.o.keeps hE (fun h=>h);have hX6:=HX.o.trans hE;have hB26:=HB2.o.keeps hX6 (fun h=>h);clear hB5 hE;go_wp2_with (first |(refine jaf 144 (.tmp 4) rfl rfl _ _ rfl (jan _ _ n H1.o.refs hB6) ?_) |(refine jag (vs:=n.cells) rfl rfl rfl rfl hB26 (by rw[HL.o];rfl) (by rw[HL.o];exact Tryz.szNode) n.one ?_;intro W8 hB8 hE8))
 refine bodyPost_ret (jax rfl rfl rfl (jap W8 _ n H1.o.refs hB8)) rfl ?_
 exact⟨rfl,(HE2.o.trans hX6).trans' hE8 (fun x hx e=>by have e:x=w.heap.size:=e;omega)⟩
theorem jqr(w:World)(n:jad)(h:jbx I n)(hk:n.kind≠0)(hsm:(jaN n).size < 32):vR 119 #[.string (jaN n)] w (.tuple #[n.V,.bool true]):=by
 have h1:=h.one HI
 obtain⟨s,hs⟩:=vE (jaN n)
 rw[<-hs]at hsm ⊢;have c1:¬(32:Int)<=(s.size:Int):=by omega
 have c2:((n.kind:Int) == 0)=false:=by simp;omega
 have c3:¬(n.kind:Int)=0:=by omega
 have HS:=Hd hs;have H:=Hd h;have H1:=Hd h1;have HL:=Hd (n.cells_len h1.refs);clear h h1 hs hk;go_enter Tryz.func119,Tryz.ntmps119;go_wp2_with (refine jah Tryz.allocNode rfl rfl ?_;intro W1 hB1 hE1)
 rw[HS.o];refine vC (jhN HI W1 n H.o) fun w2 hE=>?_;rw[<-HS.o];have hB2:=hB1.keeps hE (fun h=>h);have HE2:=Hd (hE1.trans hE);clear hB1 hE1 hE;unfold jad.V;go_wp2_with (first |(refine jah Tryz.allocNode rfl rfl ?_;intro W3 hB3 hE3;refine jag (vs:=n.cells) rfl rfl rfl rfl hB3 (by rw[HL.o];rfl) (by rw[HL.o];exact Tryz.szNode) n.one ?_;intro W4 hB4 hE4;have q0:W4.cell? ⟨w2.heap.size,0,none⟩=some (.int .i64 (n.kind:Int)):=hB4.cellL vF;have hB24:=(hB2.keeps hE3 (fun h=>h)).keeps hE4 (by have:=hB2.lt;omega)) |(refine jaf 144 (.tmp 4) rfl rfl _ _ rfl (jan _ _ n H1.o.refs hB4) ?_) |(refine jag (vs:=n.cells) rfl rfl rfl rfl hB24 (by rw[HL.o];rfl) (by rw[HL.o];exact Tryz.szNode) n.one ?_;intro W8 hB8 hE8))
 refine bodyPost_ret (jax rfl rfl rfl (jap W8 _ n H1.o.refs hB8)) rfl ?_;have hX4:Ext w2 W4:=hE3.trans' hE4 (fun x hx e=>by have e:x=w2.heap.size:=e;omega)
 exact⟨rfl,(HE2.o.trans hX4).trans' hE8 (fun x hx e=>by have e:x=w.heap.size:=e;omega)⟩
end
def InlD:Nat->vB->jad->Prop
 | 0,_,_=>False
 | d+1,r,m=>jbx (InlD d) m/\r=jaN m/\r.size < 32/\m.kind≠0
theorem inlP:∀ d,InlP (InlD d)
 | 0=>⟨fun _ _ h=>h.elim,fun _ _ h=>h.elim,fun _ _ h=>h.elim,fun _ _ h=>h.elim,fun _ _ h=>h.elim,fun _ _ h=>h.elim⟩
 | d+1=>by
  have ih:=inlP d;have hl:∀ r m,InlD (d+1) r m->∃ xs,r=ja4 xs/\(catB xs).size<=1048576:=fun r m ⟨h1,h2,h3,h4⟩=>by
   obtain⟨xs,h5,h6⟩:=jiW m (h1.one ih) h4
   exact⟨xs,h2.trans h5,h6⟩
  refine⟨fun r m h=>(h.1.one ih).refs,fun r m h=>h.2.2.1,fun r m h=>?_,hl,fun r m h=>?_,fun r m h w=>?_⟩
  ·obtain⟨xs,h5,h6⟩:=hl r m h
   obtain⟨o,h7,_⟩:=jeP xs h6
   rw[h5]
   have:=(jjs h7).1
   omega
  ·obtain⟨xs,h5,h6⟩:=hl r m h
   rw[h5];exact jkW xs h6
  ·obtain⟨h1,h2,h3,h4⟩:=h
   rw[h2]at h3 ⊢;exact jqr ih w m h1 h4 h3
end
end Go.Proofs.YtcpnjmcipainpaaGreatDoor
