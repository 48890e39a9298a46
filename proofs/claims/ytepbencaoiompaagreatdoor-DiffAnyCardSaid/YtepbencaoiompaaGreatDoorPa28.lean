/- Lemmas; each is under no condition but those that it states. -/
import Derived.Test.YtepbencaoiompaaGreatDoorPa27
namespace Go.Proofs.YtepbencaoiompaaGreatDoor
set_option linter.unusedSimpArgs false
set_option linter.unusedVariables false
set_option maxRecDepth 100000
set_option maxHeartbeats 16000000
open Go Go.RowKit
section
attribute [local go_sem] Oper.semAt_some
theorem jdN(b:Bool)(w:vW)(hG:ErrT w)(n:jad)(hr:n.refs.length=16)(hk:n.kind<=3)(f:FuncId)(hf:[fnV 109,fnV 110,fnV 111,fnV 112][n.kind]?=some (fnV f))
  (eg:∀ args w,(callFunc f args).run Tryz.prog w=.ok (.enter f args) w) (hc:∀ w,ErrT w->vR f #[n.V] w (.bool b)) :
  vR 75 #[n.V] w (.bool b):=by
 have e0:n.cells[0]?=some (.int .i64 (n.kind:Int)):=rfl;have c0:¬(n.kind:Int) < 0:=vO
 have c1:¬(3:Int) < (n.kind:Int):=vO
 have c2:(n.kind:Int) < 4:=vO
 have HF:=Hd hf;have HC:=Hd hc;have HR:=Hd hr;have HG:=Hd hG;clear hf hc hr hG;unfold jad.V;go_enter Tryz.func75,Tryz.ntmps75;go_wp2_with (refine jah Tryz.allocTabV rfl rfl ?_;intro W1 A q;refine jae (vs:=[fnV 109,fnV 110,fnV 111,fnV 112]) rfl rfl rfl rfl A rfl Tryz.szTabV (by simp[fnV,Value.oneCell']) ?_;intro E H z;have X:E.cell? ⟨w.heap.size,0,none⟩=some (.int .i64 (n.kind:Int)):=(((Blk.new w (.cells n.cells.toArray 99)).keeps q (fun h=>h)).keeps z (by rw[bK];omega)).cellL e0)
 have Z:E.cell? ⟨w.heap.size+1,n.kind,none⟩=some (fnV f):=by
  have:=H.cellL HF.o
  rwa [bK]at this
 have J:=((Blk.new w (.cells n.cells.toArray 99)).keeps q (fun h=>h)).keeps z (by rw[bK];omega);have QT:=Hd Z;have Q0:=Hd X;have O:=Hd J;have HE:=Hd ((((ExtR w).alloc (.cells n.cells.toArray 99)).trans q).trans' z (fun x hx e=>by have e:x=(w.alloc (.cells n.cells.toArray 99)).heap.size:=e;rw[bK]at e;omega));clear A q H z X Z J;refine jan [0,1,2,3,4,5,6] Ext ExtR ExtT vY vY vY ?_
 refine vK ?_
 refine qKL ⟨w.heap.size,0,none⟩ _ rfl (fun Q K=>jac Tryz.uKind rfl (jaa (by exact Q0.o) K)) ?_;refine vS ?_
 refine vK ?_
 refine qKL ⟨w.heap.size+1,n.kind,none⟩ _ rfl (fun Q K=>jaB Tryz.aggV (jaa (by exact QT.o) K)) ?_;refine vS ?_;refine qKL ⟨w.heap.size,0,none⟩ _ rfl (fun Q K=>jas Q _ n HR.o (O.o.keeps ((jaq E).trans K) (fun h=>h))) ?_;refine vS ?_;refine qKC _ f #[n.V] (.bool b) rfl (fun w1=>jgf rfl eg rfl) (fun w1 h1=>HC.o w1 (HG.o.ext (HE.o.trans ((jaq E).trans h1)))) ?_;refine vS ?_
 refine vK ?_
 refine qKE (fun w3 he=>?_);go_wp2_with fail
 go_ret
 exact⟨rfl,HE.o.trans ((jaq E).trans he)⟩
theorem jof(w:vW)(n:jad)(hr:n.refs.length=16)(hps:n.path.size<=1000000)(hp:n.pathOk 0=false):vR 110 #[n.V] w (.bool false):=by
 have e:=jb4 w n hr;have z:=Hd hp;clear hp;unfold jad.V at e ⊢;go_enter Tryz.func110,Tryz.ntmps110;go_wp2_with (refine jaf 147 (.tmp 1) rfl rfl _ _ rfl e ?_)
 refine vH (jfs _ n hr 0 hps) fun w1 A=>?_;rw[z.o];have q:=Hd (((ExtR w).alloc _).trans A);clear e;go_wp2_with fail
 go_ret
 exact⟨rfl,q.o⟩
theorem jmH(w:vW)(n:jad)(hr:n.refs.length=16)(hps:n.path.size<=1000000)(hp:n.pathOk 0=true)(h0:n.value=⟨#[]⟩):vR 110 #[n.V] w (.bool false):=by
 have e:=jb4 w n hr;have E:n.cells[2]?=some (.string ⟨#[]⟩):=by rw[<-h0];rfl
 have H:=Hd hp;clear hp h0;unfold jad.V at e ⊢;go_enter Tryz.func110,Tryz.ntmps110;go_wp2_with (refine jaf 147 (.tmp 1) rfl rfl _ _ rfl e ?_)
 refine vC (jfs _ n hr 0 hps) fun w1 q=>?_;rw[H.o];have A:=(Blk.new w (.cells n.cells.toArray 147)).keeps q (fun h=>h);have J:=A.cellL E;have z:=Hd (((ExtR w).alloc _).trans q);clear e q A;go_wp2_with fail
 go_ret
 exact⟨rfl,z.o⟩
theorem jq1(w:vW)(n:jad)(hr:n.refs.length=16)(hps:n.path.size<=1000000)(hp:n.pathOk 0=true)(h8:80 < n.value.size)(h9:n.value.size<=1000000000):vR 110 #[n.V] w (.bool false):=by
 have e:=jb4 w n hr;have E:n.cells[2]?=some (.string n.value):=rfl;have H:=ja4 (s:=n.value) vO;have K:¬(n.value.size:Int)<=80:=vO
 have J:=Hd hp;clear hp;unfold jad.V at e ⊢;go_enter Tryz.func110,Tryz.ntmps110;go_wp2_with (refine jaf 147 (.tmp 1) rfl rfl _ _ rfl e ?_)
 refine vC (jfs _ n hr 0 hps) fun w1 q=>?_;rw[J.o];have A:=(Blk.new w (.cells n.cells.toArray 147)).keeps q (fun h=>h);have O:=A.cellL E;have z:=Hd (((ExtR w).alloc _).trans q);clear e q A;go_wp2_with fail
 go_ret
 exact⟨rfl,z.o⟩
theorem jjV(w:vW)(n:jad)(hr:n.refs.length=16)(hps:n.path.size<=1000000)(hp:n.pathOk 1=false):vR 111 #[n.V] w (.bool false):=by
 have e:=jb4 w n hr;have z:=Hd hp;clear hp;unfold jad.V at e ⊢;go_enter Tryz.func111,Tryz.ntmps111;go_wp2_with (refine jaf 147 (.tmp 1) rfl rfl _ _ rfl e ?_)
 refine vH (jfs _ n hr 1 hps) fun w1 A=>?_;rw[z.o];have q:=Hd (((ExtR w).alloc _).trans A);clear e;go_wp2_with fail
 go_ret
 exact⟨rfl,q.o⟩
theorem jsB(w:vW)(hG:ErrT w)(n:jad)(r:vB)(m:jad)(ok:Bool)(hr:n.refs.length=16)(hp:n.pathOk 1=true)(h0:n.value=⟨#[]⟩)(hb:n.behindN=1)(h3:n.refs[0]?=some r)(hs:r.size<=1000000000)(hh:jgG r=none)(hml:m.refs.length=16)
  (hI:∀ w,ErrT w->vR 52 #[.string r] w (.tuple #[m.V,.bool ok])) (hk:ok=true->m.kind≠3):vR 111 #[n.V] w (.bool false):=by
 have a1:n.path.size<=1000000:=by
  simp only[jad.pathOk,cI,decide_eq_true_eq]at hp;omega
 have H:=jb4 w n hr;have e2:n.cells[2]?=some (.string ⟨#[]⟩):=by rw[<-h0];rfl
 have e3:n.cells[3]?=some (.string r):=by
  show (n.refs.map Value.string)[0]?=_;rw[cA,h3];rfl
 have HP:=Hd hp;have HB:=Hd hb;have E3:=Hd e3;have HH:=Hd hh;have HI:=Hd hI;have A:=Hd hml;have HK:=Hd hk;have HG:=Hd hG;clear hp hb h0 h3 e3 hh hI hml hk hG;unfold jad.V at H ⊢;go_enter Tryz.func111,Tryz.ntmps111;go_wp2_with (refine jaf 147 (.tmp 1) rfl rfl _ _ rfl H ?_)
 refine vC (jfs _ n hr 1 a1) fun w1 q=>?_;rw[HP.o];have B1:=(Blk.new w (.cells n.cells.toArray 147)).keeps q (fun h=>h);have q2:=B1.cellL e2;have z:=jbx w1 _ n hr B1;have X:=Hd (((ExtR w).alloc _).trans q);have Z:=Hd B1;unfold jad.V at z;clear H q B1;go_wp2_with (refine jaf 147 (.tmp 1) rfl rfl _ _ rfl z ?_)
 refine vC (jhZ _ n hr) fun w2 q=>?_;rw[HB.o];have B2:=Z.o.keeps q (fun h=>h);have E:=Hd (X.o.trans q);have q3:=B2.cellL E3.o;have a2:=Hd B2;clear z q q2 B2 Z X;go_wp2_with fail
 refine vC (jdK w2 r hs) fun w3 q=>?_;rw[HH.o];have B3:=a2.o.keeps q (fun h=>h);have HE:=Hd (E.o.trans q);have a3:=B3.cellL E3.o;clear q q3 B3;unfold optV;simp only;go_wp2_with fail
 refine vH (HI.o w3 (HG.o.ext HE.o)) fun w4 a4=>?_;have E:=Hd (HE.o.trans a4);clear a3;unfold jad.V;cases ok with
 | false =>
  go_wp2_with (refine jah Tryz.allocNode rfl rfl ?_;intro W3 hB J;refine jae (vs:=m.cells) rfl rfl rfl rfl hB (by rw[m.cells_len A.o];rfl) (by rw[m.cells_len A.o];exact Tryz.szNode) m.one ?_;intro W4 a0 K)
  have O:Ext w4 W4:=J.trans' K (fun x hx e=>by have e:x=w4.heap.size:=e;omega);have Q:=Hd (E.o.trans O);go_ret
  exact⟨rfl,Q.o⟩
 | true =>
  have a5:((m.kind:Int) == 3)=false:=by have:=HK.o rfl;simp;omega
  go_wp2_with (refine jah Tryz.allocNode rfl rfl ?_;intro W3 hB J;refine jae (vs:=m.cells) rfl rfl rfl rfl hB (by rw[m.cells_len A.o];rfl) (by rw[m.cells_len A.o];exact Tryz.szNode) m.one ?_;intro W4 a0 K;have q0:W4.cell? ⟨w4.heap.size,0,none⟩=some (.int .i64 (m.kind:Int)):=a0.cellL vF)
  have O:Ext w4 W4:=J.trans' K (fun x hx e=>by have e:x=w4.heap.size:=e;omega);have Q:=Hd (E.o.trans O);go_ret
  exact⟨rfl,Q.o⟩
def MayD(b:Bool)(r:vB):Prop:=∀ w,ErrT w->vR 138 #[.string r] w (.bool b)
theorem jAG(r:vB)(hs:r.size<=1000000000)(hh:jgG r=none)(hI:∀ w,ErrT w->vR 52 #[.string r] w (.tuple #[jak.V,.bool false])):MayD false r:=fun w J=>by
 have Q:=Hd J;clear J;have X:=Hd hh;have Z:=Hd hI;clear hh hI;go_enter Tryz.func138,Tryz.ntmps138;go_wp2_with fail
 refine vH (jdK w r hs) fun w1 K=>?_;rw[X.o];unfold optV;simp only;go_wp2_with fail
 refine vH (Z.o w1 (Q.o.ext K.o)) fun O q=>?_;have z:=Hd (K.o.trans q);unfold jad.V;go_wp2_with (refine jah Tryz.allocNode rfl rfl ?_;intro W3 hB A;refine jae (vs:=jak.cells) rfl rfl rfl rfl hB rfl Tryz.szNode jak.one ?_;intro W4 a0 E)
 have H:Ext O W4:=A.trans' E (fun x hx e=>by have e:x=O.heap.size:=e;omega);go_ret
 exact⟨rfl,z.o.trans H⟩
theorem jl4(w:vW)(n:jad)(hp:n.path=⟨#[]⟩)(h8:80 < n.value.size)(h9:n.value.size<=1000000000):vR 112 #[n.V] w (.bool false):=by
 have E:n.cells[1]?=some (.string ⟨#[]⟩):=by rw[<-hp];rfl
 have H:n.cells[2]?=some (.string n.value):=rfl;have J:(80:Int) < (n.value.size:Int):=vO
 clear hp;unfold jad.V;refine (callsIn_wide (n:=0)).1 ?_;refine callsIn_of_wp_marks Tryz.func112 rfl trivial ?_ rfl;simp only[Tryz.ntmps112,cT,bO,dG,Nat.reduceAdd,Nat.reduceSub,cY,cX,dI,dC,cM,cQ];have e:Ext w ((w.alloc (.cells n.cells.toArray 147)).alloc (.cells #[.bool false] 4)):=((ExtR w).alloc _).alloc _;have z:=Blk.new (w.alloc (.cells n.cells.toArray 147)) (.cells #[.bool false] 4);rw[bK]at z;have q:=z.cell (i:=0) (v:=.bool false) vF;have A:=Hd (bB e q);clear e z q;gi_wp2;have q:=A.o.2
 exact⟨.bool false,by simp[results,Tryz.results112,go_sem,q],rfl,A.o.1⟩
def braN(M:vB->Bool)(n:jad):Bool:=decide (2<=min n.value.size 1+n.refsL.length) && n.refsL.all fun x=>M x.2
theorem joU(w:vW)(hG:ErrT w)(n:jad)(hr:n.refs.length=16)(hp:n.path=⟨#[]⟩)(h8:n.value.size<=80)(M:vB->Bool)(hm:∀ r∈n.refs,r.size≠0->MayD (M r) r):vR 112 #[n.V] w (.bool (braN M n)):=by
 have HG:=Hd hG;clear hG;have e1:n.cells[1]?=some (.string ⟨#[]⟩):=by rw[<-hp];rfl
 have e2:n.cells[2]?=some (.string n.value):=rfl;have c1:¬(80:Int) < (n.value.size:Int):=vO
 obtain⟨c,hc⟩:=vE (min n.value.size 1)
 have a4:min (n.value.size:Int) 1=(c:Int):=vO
 obtain⟨R,hR⟩:=vE (braN M n)
 rw[<-hR];have HB:=Hd (show R=(decide (2<=c+n.refsL.length) && n.refsL.all fun x=>M x.2)from by rw[hR];unfold braN;rw[hc]);clear hR;have HC:=Hd a4;clear hp hc a4;refine (callsIn_wide (n:=0)).1 ?_;refine callsIn_of_wp_marks Tryz.func112 rfl trivial ?_ rfl;simp only[Tryz.ntmps112,cT,bO,dG,Nat.reduceAdd,Nat.reduceSub,cY,cX,dI,dC,cM,cQ]
 obtain⟨W0,z⟩:=vE (((w.alloc (.cells n.cells.toArray 147)).alloc (.cells #[.bool false] 4)).alloc (.cells #[.int .i64 (min (n.value.size:Int) 1)] 3))
 have B0:Blk W0 w.heap.size (.cells n.cells.toArray 147):=by rw[z];exact ((Blk.new w _).alloc _).alloc _
 have B1:Blk W0 (w.heap.size+1) (.cells #[.bool false] 4):=by
  rw[z];have:=(Blk.new (w.alloc (.cells n.cells.toArray 147)) (.cells #[.bool false] 4)).alloc (.cells #[.int .i64 (min (n.value.size:Int) 1)] 3);rwa [bK]at this
 have B2:Blk W0 (w.heap.size+1+1) (.cells #[.int .i64 (c:Int)] 3):=by
  rw[z, <-HC.o];have:=Blk.new ((w.alloc (.cells n.cells.toArray 147)).alloc (.cells #[.bool false] 4)) (.cells #[.int .i64 (min (n.value.size:Int) 1)] 3);rwa [bK,bK]at this
 have E0:Ext w W0:=by rw[z];exact (((ExtR w).alloc _).alloc _).alloc _
 have a5:W0.heap.size=w.heap.size+3:=by rw[z];simp
 have X:=jbx W0 _ n hr B0;rw[z]at X;have a6:=Hd z;have a7:=Hd E0;have a8:=Hd B0;have a9:=Hd B1;have b0:=Hd B2;have b1:=Hd a5;clear z E0 B0 B1 B2 a5;unfold jad.V at X ⊢;gi_wp2_with (refine jbg rfl 147 (.tmp 1) rfl _ _ rfl X ?_)
 refine⟨trivial,rfl,CallsIn.mono (callsIn_wide.2 (jnf _ n)) ?_⟩
 rintro e w1 ⟨rfl,J,E⟩;rw[<-a6.o]at J E ⊢;rw[b1.o]at J ⊢;have b2:BraC w w.heap.size (w.heap.size+1) (w.heap.size+1+1) (w.heap.size+3) n c 0 w1/\(∀ j,j < 0->M (n.rr j)=true):=⟨⟨a7.o.trans E,a9.o.keeps E (fun h=>h),a8.o.keeps E (fun h=>h),b0.o.keeps E (fun h=>h),J⟩,fun j hj=>by omega⟩;have b9:=J.lt;have b6:=Hd b2;have c0:c<=1:=by have:=HC.o;omega
 clear J E X b2 a6 a7 a8 a9 b0 b1;gi_wp2_with fail
 refine jd9 (N:=n.refsL.length) (gf:=117) (lb:=#[.pointer (some ⟨w.heap.size+3,0,none⟩)]) rfl (vX 117) (ji6 (w.heap.size+3) n hr)
  (fun k=>rfl) (fun k W=>BraC w w.heap.size (w.heap.size+1) (w.heap.size+1+1) (w.heap.size+3) n c k W/\∀ j,j < k->M (n.rr j)=true) (fun cd k W=>cd=.ret/\M (n.rr (k - 1))=false/\BraC w w.heap.size (w.heap.size+1) (w.heap.size+1+1) (w.heap.size+3) n c (k - 1) W)
  (fun k W W' h e=>⟨⟨h.1.ext.trans e,h.1.res.keeps e (fun h=>h),h.1.node.keeps e (fun h=>h),h.1.full.keeps e (fun h=>h),h.1.it.keeps e (fun h=>h)⟩,h.2⟩)
  (fun cd k W W' h e=>⟨h.1,h.2.1,⟨h.2.2.ext.trans e,h.2.2.res.keeps e (fun h=>h),h.2.2.node.keeps e (fun h=>h),h.2.2.full.keeps e (fun h=>h),h.2.2.it.keeps e (fun h=>h)⟩⟩) (fun k W h=>h.1.it)
  (fun k W o h=>⟨⟨h.1.ext.putObj (.inr vO) _,h.1.res.put_other vO _,h.1.node.put_other vO _,h.1.full.put_other vO _,h.1.it.put_other vO _⟩,h.2⟩)
  (fun k W o h=>⟨⟨h.1.ext.putObj (.inr vO) _,h.1.res.put_other vO _,h.1.node.put_other vO _,h.1.full.put_other vO _,h.1.it.put_other vO _⟩,h.2⟩)
  (fun cd k W o h=>⟨h.1,h.2.1,⟨h.2.2.ext.putObj (.inr vO) _,h.2.2.res.put_other vO _,h.2.2.node.put_other vO _,h.2.2.full.put_other vO _,h.2.2.it.put_other vO _⟩⟩)
  b6.o (fun k=>{ tmps:=#[.agg n.cells.toArray,.pointer (some ⟨w.heap.size,0,none⟩),.pointer (some ⟨w.heap.size+1,0,none⟩),.pointer (some ⟨w.heap.size+1+1,0,none⟩),undef,.string (n.rr k),.pointer (some ⟨w.heap.size,1,none⟩),.string ⟨#[]⟩,.bool false,.bool false,.pointer (some ⟨w.heap.size,2,none⟩),.string n.value,.int .i64 n.value.size,.bool false,.bool false,.pointer (some ⟨w.heap.size,2,none⟩),.string n.value,.int .i64 n.value.size,.int .i64 (min (n.value.size:Int) 1),.agg n.cells.toArray,.func (.func 117) #[] #[.pointer (some ⟨w.heap.size+3,0,none⟩)],.int .i64 (n.ri k:Nat),.string (n.rr k),undef,undef,undef,undef,undef,undef,undef],defers:=[] })
  ?hassign ?hbody ?hdone ?hstop
 case hassign =>
  intro l j W K hK;rw[jub,jn1];simp only[dJ,dB];gi_wp2;exact hK
 case hbody =>
  intro l k W hk h c3
  obtain⟨h,A⟩:=h
  have a1:=jt4 n hr hk;have a0:=hm _ (bJ a1.2.1) a1.2.2;have b8:k < 16:=bR hk (by
   have:∀ (l:vM) (i:Nat),(jaA i l).length<=l.length:=by
    intro l;induction l with
    | nil=>intro i;simp[jaA]
    | cons x r ih=>intro i;unfold jaA;split <;> simp <;> have:=ih (i+1) <;> omega
   have:=this n.refs 0
   rw[hr]at this;exact this)
  have H:=Hd h;have HM:=Hd a0;have HA:=Hd A;clear h a1 a0 A;gi_wp2_with fail
  refine⟨trivial,rfl,CallsIn.mono (CallsIn.inRound l (callsIn_wide.2 (HM.o W (HG.o.ext H.o.ext)))) ?_⟩
  rintro e O ⟨rfl,E⟩;have q:=(H.o.full.keeps E (fun h=>h)).cell (i:=0) (v:=.int .i64 ((c+k:Nat):Int)) vF;have f:O.frozen? ⟨w.heap.size+1+1,0,none⟩=false:=(H.o.full.keeps E (fun h=>h)).frozen;have HE:=Hd E;have f1:O.frozen? ⟨w.heap.size+1,0,none⟩=false:=(H.o.res.keeps E (fun h=>h)).frozen;have q1:O.cell? ⟨w.heap.size+1,0,none⟩=some (.bool false):=(H.o.res.keeps E (fun h=>h)).cell (i:=0) vF;clear E
  obtain⟨mb,a2⟩:=vE (M (n.rr k))
  rw[<-a2];have b3:=Hd a2;clear a2;cases mb with
  | false =>
   gi_wp2;have K5:jag (fun b=>b=w.heap.size+1) O (O.setCell ⟨w.heap.size+1,0,none⟩ (.bool false)):=jag.oneSet O ⟨w.heap.size+1,0,none⟩ _;have Q:jag (fun b=>b=w.heap.size+1) W (O.setCell ⟨w.heap.size+1,0,none⟩ (.bool false)):=(HE.o.mono (fun _ _ h=>h.elim)).trans K5
   refine⟨Q.mono (fun x hx e=>?_),?_⟩
   ·have e:x=_:=e;show x≠_/\x≠_;omega
   ·exact⟨rfl,b3.o.symm,⟨H.o.ext.trans' Q (fun x hx e=>by omega),((H.o.res.keeps HE.o (fun h=>h)).set_same (i:=0) _),H.o.node.keeps Q vO,H.o.full.keeps Q vO,H.o.it.keeps Q vO⟩⟩
  | true =>
  gi_wp2;rw[show (c:Int)+(k:Int)+1=((c+(k+1):Nat):Int) by omega];have K5:jag (fun b=>b=w.heap.size+1+1) O (O.setCell ⟨w.heap.size+1+1,0,none⟩ (.int .i64 ((c+(k+1):Nat):Int))):=jag.oneSet O ⟨w.heap.size+1+1,0,none⟩ _;have Q:jag (fun b=>b=w.heap.size+1+1) W (O.setCell ⟨w.heap.size+1+1,0,none⟩ (.int .i64 ((c+(k+1):Nat):Int))):=(HE.o.mono (fun _ _ h=>h.elim)).trans K5
  refine⟨Q.mono (fun x hx e=>?_),?_⟩
  ·have e:x=_:=e;show x≠_/\x≠_;omega
  ·refine⟨⟨H.o.ext.trans' Q (fun x hx e=>by omega),H.o.res.keeps Q vO,H.o.node.keeps Q vO,((H.o.full.keeps HE.o (fun h=>h)).set_same (i:=0) _),H.o.it.keeps Q vO⟩,fun j hj=>?_⟩
   by_cases hjk:j < k
   ·exact HA.o j hjk
   ·have:j=k:=vO
    subst this;exact b3.o.symm
 case hdone =>
  intro W h hd
  obtain⟨h,A⟩:=h
  have q:=h.full.cell (i:=0) (v:=.int .i64 ((c+n.refsL.length:Nat):Int)) vF;have q2:=h.res.cell (i:=0) (v:=.bool false) vF;have f2:W.frozen? ⟨w.heap.size+1,0,none⟩=false:=h.res.frozen;have hb:(n.refsL.all fun x=>M x.2)=true:=by
   rw[dN];intro x hx
   obtain⟨i,hi,rfl⟩:=List.getElem_of_mem hx
   have:=A i hi
   unfold jad.rr at this;rw[bE,bA hi]at this;exact this
  have b4:R=decide (2<=c+n.refsL.length):=by rw[HB.o,hb,Bool.and_true]
  have H:=Hd h;have HD:=Hd hd;clear h hd A hb
  obtain⟨bb,Z⟩:=vE (decide (2<=c+n.refsL.length))
  have c5:decide ((2:Int)<=((c+n.refsL.length:Nat):Int))=bb:=by rw[Z];exact decide_eq_decide.2 vO
  have c6:decide ((2:Int)<=(c:Int)+(n.refsL.length:Int))=bb:=by rw[Z];exact decide_eq_decide.2 vO
  have a3:=Hd (b4.trans Z.symm);clear Z b4;gi_wp2;have B2:=(H.o.res.set_same (i:=0) (.bool bb));have BD:=HD.o.set_other (p:=⟨w.heap.size+1,0,none⟩) (by show w1.heap.size≠w.heap.size+1;omega) (.bool bb);have hX:Ext w ((W.setCell ⟨w.heap.size+1,0,none⟩ (.bool bb)).putObj w1.heap.size (.deferred none)):=(H.o.ext.setCell (.inr (by show w.heap.size<=w.heap.size+1;omega)) _).putObj (.inr vO) _
  obtain⟨W3,b7⟩:=vE (W.setCell ⟨w.heap.size+1,0,none⟩ (.bool bb))
  rw[<-b7]at B2 BD hX ⊢;have c2:(W3.putObj w1.heap.size (.deferred none)).cell? ⟨w.heap.size+1,0,none⟩=some (.bool bb):=(B2.put_other vO _).cell (i:=0) (by simp)
  refine⟨by simp,.inl ⟨_,_,rfl,run_takeDeferred BD,?_⟩⟩
  exact⟨.bool bb,by simp[results,Tryz.results112,go_sem,c2],by rw[a3.o],hX⟩
 case hstop =>
  intro cd k W hk c4 h hd
  obtain⟨rfl,b5,h⟩:=h
  have hb:(n.refsL.all fun x=>M x.2)=false:=by
   rw[List.all_eq_false]
   refine⟨n.refsL.getD (k - 1) (0,⟨#[]⟩),?_,?_⟩
   ·rw[bE,bA vO];exact dY _
   ·have:M (n.rr (k - 1))=false:=b5
    unfold jad.rr at this;rw[this];simp
  have a3:=Hd (show R=false by rw[HB.o,hb,iY]);have q2:=h.res.cell (i:=0) (v:=.bool false) vF;have H:=Hd h;have HD:=Hd hd;clear h hd b5 hb;have hX:Ext w (W.putObj w1.heap.size (.deferred none)):=H.o.ext.putObj (.inr vO) _;have c2:(W.putObj w1.heap.size (.deferred none)).cell? ⟨w.heap.size+1,0,none⟩=some (.bool false):=(H.o.res.put_other vO _).cell (i:=0) vF;gi_wp2
  refine⟨by simp,.inl ⟨_,_,rfl,run_takeDeferred HD.o,?_⟩⟩
  exact⟨.bool false,by simp[results,Tryz.results112,go_sem,c2],by rw[a3.o],hX⟩
end
def jzI(P:Program)(gf:FuncId)(lb:Array vV)(N:Nat)(V:Nat->vW->Array vV->Prop)(S:vW->Prop):Prop:=
 ∀ (l:Nat) (C:Nat->vW->Prop) (Cx:Nat->vW->Prop),(∀ k,St (C k))->(∀ k,St (Cx k))->(∀ k W,C k W->S W) ->
  ∀ W,(∀ k W' vs,k < N->C k W'->V k W' vs->joK P l vs W' (C (k+1)) (Cx (k+1)))->C 0 W ->
   CallsIn Fence.wide 0 P gf (#[.func (.yield l) #[] #[]]++lb) W (jlQ N C Cx)
theorem juC{P:Program}{g:Operand}{ps:Array Tmp}{assign body:Code}{Q:Exit->Act->vW->Prop}{a:Act}{w:vW}
  {gf:Nat} {lb:Array vV} (hg:a.eval g=.func (.func gf) #[] lb) (eg:∀ args w,(callFunc gf args).run P w=.ok (.enter gf args) w)
  {N:Nat} {V:Nat->vW->Array vV->Prop} {S:vW->Prop} (IS:jzI P gf lb N V S)
  (hps:∀ k W vs,V k W vs->vs.size=ps.size) (hV:∀ k W vs L o,V k W vs->Blk W (w.heap.size+1) (.loop L)->V k (W.putObj (w.heap.size+1) o) vs)
  (C:Nat->vW->Prop) (Cj:Code->Nat->vW->Prop) (hC:∀ k,St (C k)) (hCj:∀ c k,St (Cj c k)) (hS:∀ k W,C k W->S W)
  (hup:∀ k W o,C k W->C k (W.putObj w.heap.size o)) (hup1:∀ k W o,C k W->C k (W.putObj (w.heap.size+1) o)) (hupj:∀ c k W o,Cj c k W->Cj c k (W.putObj (w.heap.size+1) o))
  (h0:C 0 w) (a₁:Array vV->Act)
  (hassign:∀ (l k:Nat) (W:vW) (vs:Array vV) (K:Act->vW->Prop),k < N->V k W vs->K (a₁ vs) W ->
   assign.wpIn (Fence.wide.inRound l) 0 P (Exit.then K (fun _ _ _=>False)) { tmps:=(ps.zip vs).foldl (fun t (p,v)=>t.setIfInBounds p v) a.tmps,defers:=[] } W)
  (hbody:∀ (l k:Nat) (W:vW) (vs:Array vV),k < N->C k W->V k W vs->w.heap.size+1 < W.heap.size->body.wpIn (Fence.wide.inRound l) 0 P (jw4 w.heap.size W (C (k+1)) (fun c=>Cj c (k+1))) (a₁ vs) W)
  (hdone:∀ (W:vW),C N W->Blk W w.heap.size (.deferred (some []))->Q .normal { a with defers:={ target:=.collected w.heap.size,args:=#[] } :: a.defers } W)
  (hstop:∀ (c:Code) (k:Nat) (W:vW),k<=N->0 < k->Cj c k W->Blk W w.heap.size (.deferred (some [])) ->
   c.wpIn Fence.wide 0 P Q { a with defers:={ target:=.collected w.heap.size,args:=#[] } :: a.defers } W) :
  (Code.rangeFunc g ps assign body).wpIn Fence.wide 0 P Q a w:=by
 refine wpIn_rangeFunc ?_;intro fn _;show ∃ l mark w₁ d w₁' f args w₂,(Instr.enterLoop fn a.tmps ps assign body none).run P w=_/\_
 obtain⟨q,z⟩:∃ q:LoopState->Option Code->Loop,q=fun st pe=>{ state:=st,pending:=pe,fn,tmps:=a.tmps,params:=ps,assign,body,defers:=w.heap.size }:=⟨_,rfl⟩
 obtain⟨H,J⟩:∃ H,(w.alloc (.deferred (some []))).alloc (.loop (q .ready none))=H:=⟨_,rfl⟩
 have a2:Blk H (w.heap.size+1) (.loop (q .ready none)):=by
  rw[<-J];have:=Blk.new (w.alloc (.deferred (some []))) (.loop (q .ready none));rwa [bK]at this
 have a3:Blk H w.heap.size (.deferred (some [])):=by
  rw[<-J];exact (Blk.new w _).alloc _
 have a4:Ext w H:=by rw[<-J];exact ((jag.refl _ w).alloc _).alloc _
 refine⟨w.heap.size+1,[{ target:=.collected w.heap.size,args:=#[] }],H,{ target:=.fn (.func gf) lb,args:=#[.func (.yield (w.heap.size+1)) #[] #[]] },H,gf,
  #[.func (.yield (w.heap.size+1)) #[] #[]]++lb,H,?_,?_,?_,?_,fun h=>by simp[Fence.wide]at h,?_⟩
 ·rw[<-J,z];exact run_enterLoop_outer _ _ _ _ _
 ·simp only[resolve,hg]
  simp[go_sem]
 ·intro f' _;trivial
 ·simp[invoke,go_sem,eg]
 ·let CC:Nat->vW->Prop:=fun k W=>C k W/\Blk W (w.heap.size+1) (.loop (q .ready none))/\Blk W w.heap.size (.deferred (some []))
  let CX:Nat->vW->Prop:=fun k W=>∃ c,Cj c k W/\Blk W (w.heap.size+1) (.loop (q .done (some c)))/\Blk W w.heap.size (.deferred (some []))
  have a5:=IS (w.heap.size+1) CC CX (fun k W A ⟨O,h2,E⟩ e=>⟨hC k _ _ O e,h2.keeps e (fun h=>h),E.keeps e (fun h=>h)⟩)
   (fun k W A ⟨c,O,h2,E⟩ e=>⟨c,hCj c k _ _ O e,h2.keeps e (fun h=>h),E.keeps e (fun h=>h)⟩) (fun k W h=>hS k W h.1) H ?_ ⟨hC 0 _ _ h0 a4,a2,a3⟩
  ·refine CallsIn.mono a5 ?_
   rintro e A ⟨⟨v,rfl⟩,Z⟩;rcases Z with⟨O,E,h4⟩ |⟨k,hk1,hk2,c,O,E,h4⟩
   ·obtain⟨ox,he⟩:∃ ox,(Instr.endLoop (w.heap.size+1)).run P A=.ok none (A.putObj (w.heap.size+1) ox):=⟨_,(run_endLoop (r:=q .ready none) E (by rw[z];simp)).trans (by rw[z])⟩
    exact⟨none,_,he,hdone _ (hup1 N _ _ O) (h4.put_other vO _)⟩
   ·obtain⟨ox,he⟩:∃ ox,(Instr.endLoop (w.heap.size+1)).run P A=.ok (some c) (A.putObj (w.heap.size+1) ox):=⟨_,(run_endLoop (r:=q .done (some c)) E (by rw[z];simp)).trans (by rw[z])⟩
    exact⟨some c,_,he,hstop c k _ hk1 hk2 (hupj c k _ _ O) (h4.put_other vO _)⟩
  ·rintro k W vs hk ⟨O,E,h4⟩ a0
   refine⟨_,_,_,_,run_yield E (by rw[z];exact hps k W vs a0),?_⟩
   refine roundIn_of_wpIn trivial ?_;rw[show (q .ready none).tmps=a.tmps from by rw[z],show (q .ready none).params=ps from by rw[z],show (q .ready none).assign=assign from by rw[z],show (q .ready none).body=body from by rw[z]];refine hassign _ k W vs _ hk a0 ?_
   refine⟨_,run_beginRound E (by rw[z]),?_⟩
   have a6:C k (W.putObj (w.heap.size+1) (.loop { q .ready none with state:=.busy })):=hup1 k _ _ O;refine Code.wpIn_mono ?_ (hbody (w.heap.size+1) k _ vs hk a6 (hV k W vs _ _ a0 E) (by rw[World.putObj_size];exact E.lt));have a1:∀ (j:Option Code) (A:vW),jag (fun b=>b≠w.heap.size/\b≠w.heap.size+1) (W.putObj (w.heap.size+1) (.loop { q .ready none with state:=.busy })) A ->
     (Instr.endRound (w.heap.size+1) j).run P A=.ok (.bool j.isNone) (A.putObj (w.heap.size+1) (.loop (q (if j.isNone then .ready else .done) j))) /\
     Blk (A.putObj (w.heap.size+1) (.loop (q (if j.isNone then .ready else .done) j))) (w.heap.size+1) (.loop (q (if j.isNone then .ready else .done) j)) /\
     Blk (A.putObj (w.heap.size+1) (.loop (q (if j.isNone then .ready else .done) j))) w.heap.size (.deferred (some [])):=by
    intro j A X;have hl:Blk A (w.heap.size+1) (.loop { q .ready none with state:=.busy }):=(E.put_same _).keeps X (fun h=>h.2 rfl);have hd:Blk A w.heap.size (.deferred (some [])):=(h4.put_other vO _).keeps X (fun h=>h.1 rfl)
    refine⟨?_,hl.put_same _,hd.put_other vO _⟩
    rw[run_endRound j hl,z]
   intro e a' A hq;cases e with
   | normal =>
    obtain⟨X,hc⟩:=hq
    obtain⟨f1,f2,f3⟩:=a1 none A X
    exact⟨_,_,f1,.inl ⟨rfl,hup1 _ _ _ hc,f2,f3⟩⟩
   | ret =>
    obtain⟨X,hc⟩:=hq
    obtain⟨f1,f2,f3⟩:=a1 (some .ret) A X
    exact⟨_,_,f1,.inr ⟨rfl,.ret,hupj _ _ _ _ hc,f2,f3⟩⟩
   | exit i =>
    obtain⟨X,hc⟩:=hq
    obtain⟨f1,f2,f3⟩:=a1 (some (.exit i)) A X
    exact⟨_,_,f1,.inr ⟨rfl,.exit i,hupj _ _ _ _ hc,f2,f3⟩⟩
   | goto t=>exact hq.elim
   | panic ch=>exact hq.elim
   | outgrown=>exact hq.elim
section
attribute [local go_sem] Oper.semAt_some
def jBe(xs:vM)(k:Nat)(W:vW)(vs:Array vV):Prop:=
 (k < xs.length/\vs=#[.string (xs.getD k ⟨#[]⟩),.nilIface])\/(k=xs.length/\∃ b,vs=#[.string ⟨#[]⟩,.iface 242 (.pointer (some ⟨b,0,none⟩))]/\Fa2 W b)
def juJ(W:vW)(xs:vM)(z0:vB)(C:Nat->vW->Prop)(v:vV)(wr:vW):Prop:=∃ k:Nat,k<=xs.length/\v=.string (catB (xs.drop k)++z0)/\C k wr
theorem jvq(b:Nat)(xs:vM)(z0:vB)(hx:∀ x∈xs,jeb x)(Z:(catB xs++z0).size<=1000000000)(hz0:0 < z0.size)(hcz:cutN z0=none):jzI Tryz.prog 146 #[.pointer (some ⟨b,0,none⟩)] (xs.length+1) (jBe xs) (fun W=>Blk W b (.cells #[.string (catB xs++z0)] 9)):=by
 intro l C Cx hC a8 hS W hY h0;have hB:=(hS 0 W h0).cell (i:=0) (v:=.string (catB xs++z0)) vF;have HY:=Hd hY;have H0:=Hd h0;have a9:=Hd Z;have b7:=Hd hz0;have b8:=Hd hcz;have a6:=Hd hS;clear hY h0 hS Z hz0 hcz;refine callsIn_of_wp Tryz.func146 rfl trivial ?_ rfl;simp only[Tryz.ntmps146,cT,bO,dG,Nat.reduceAdd,Nat.reduceSub,cY,cX,dI,dC,cM,cQ];gi_wp2;have a0:=Hd hC;have c9:=Hd a8;clear hC a8;gi_loopw [3] (fun v wr=>juJ W xs z0 C v wr) (fun v _=>jgr v)
 case atStart=>exact⟨0,by omega,rfl,H0.o⟩
 case round =>
  obtain⟨k,hk,rfl,b0⟩:=hrel
  have Q:=Hd b0;clear b0
  by_cases hlt:k < xs.length
  ·obtain⟨x,H⟩:=vE (xs[k])
   have q:=jo9 hlt;rw[<-H]at q
   obtain⟨y,hy⟩:=vE (catB (xs.drop (k+1))++z0)
   have q:catB (xs.drop k)++z0=x++y:=by rw[hy,q,ByteArray.append_assoc]
   have A:(x++y).size<=1000000000:=by
    have h1:(catB (xs.drop k)++z0).size<=(catB xs++z0).size:=by
     have h2:(catB xs).size=(catB (xs.take k)).size+(catB (xs.drop k)).size:=by
      conv=>lhs;rw[<-dD k xs]
      simp only[catB,ByteArray.size,bZ,List.flatten_append,cT,bF]
     rw[cC,cC];omega
    rw[q]at h1;have:=a9.o;omega
   obtain⟨r,X,a1⟩:=hx x (H ▸ dY hlt) y A
   obtain⟨z,hz⟩:=vE (x++y)
   have b2:z.size=x.size+y.size:=by rw[hz,cC]
   rw[<-hz]at q A X;rw[q];have J:=jdH X;have b9:=ja4 J.1;have b3:z.extract (r.2.1+r.2.2) z.size=y:=by
    rw[a1,hz];exact jgD x y
   have d0:z.extract 0 x.size=x:=by
    rw[hz];exact jiE x y
   have b4:xs.getD k ⟨#[]⟩=x:=by rw[bE,bA hlt, <-H];rfl
   have c0:=Hd b4;have HX:=Hd H;have c4:=Hd A;have c5:=Hd hy;have HZ:=Hd hz;have a2:=Hd b2;have HP:=Hd J;have c6:=Hd a1;clear H q hy hz b4 J a1 b2;gi_wp2_with fail
   refine⟨trivial,rfl,CallsIn.mono (callsIn_wide.2 (jx8 wr z r A X)) ?_⟩
   rintro e w1 ⟨rfl,hE⟩;unfold jdB;rw[b3]
   obtain⟨u,hu⟩:=vE (z.extract r.2.1 (r.2.1+r.2.2))
   rw[<-hu]
   obtain⟨b1,o,ln⟩:=r
   simp only;clear X b3 hu A
   obtain⟨fn,tm,c7,bd,b5,K⟩:=HY.o k w1 _ vO (a0.o k _ _ Q.o hE) (.inl ⟨hlt,rfl⟩)
   simp only[c0.o]at b5;have a3:=Hd K;clear hE K;have c1:(z.size:Int) - (y.size:Int)=(x.size:Int):=by have:=a2.o;omega
   have c2:(x.size:Int)<=(z.size:Int):=by have:=a2.o;omega
   have c3:z.size<=1000000000:=c4.o;gi_wp2
   refine⟨rfl,(a3.o.mono ?_)⟩
   rintro e w5 (⟨rfl,O⟩ |⟨rfl,O⟩)
   ·have E:=Hd O
    clear O;gi_wp2;go_roundw
    case rel=>exact⟨k+1,by omega,by rw[<-c5.o],E.o⟩
    case measure=>show y.size < z.size;have:=(show 0 < o+ln from HP.o.2);have:=a2.o;have:=(show o+ln=x.size from c6.o);omega
   ·have E:=Hd O
    clear O;gi_wp2;refine bodyPost_ret (results_none rfl _ _ _) rfl ?_
    exact⟨⟨_,rfl⟩,.inr ⟨k+1,by omega,by omega,E.o⟩⟩
  ·have c8:k=xs.length:=vO
   subst c8;have hd:catB (xs.drop xs.length)++z0=z0:=by rw[iB];exact ByteArray.empty_append
   rw[hd];have b9:=ja4 b7.o;have A:z0.size<=(catB xs++z0).size:=by rw[cC];omega
   have a4:=(a6.o _ _ Q.o).cell (i:=0) (v:=.string (catB xs++z0)) vF
   obtain⟨s,Z⟩:=vE (catB xs++z0)
   rw[<-Z]at A a4;have d1:s.size<=1000000000:=by rw[Z];exact a9.o
   have HS:=Hd Z;clear hd Z;gi_wp2_with fail
   refine⟨trivial,rfl,CallsIn.mono (callsIn_wide.2 (jxi wr z0 vO b8.o)) ?_⟩
   rintro e w1 ⟨v,rfl,hE,hF⟩
   obtain⟨c,k2,rfl,a5,d2⟩:=hF
   have a4:=jaa a4 hE;have a7:=Hd (a0.o _ _ _ Q.o hE);have d3:=Hd a5;have b6:Ext w1 (w1.alloc (.cells #[.int .i64 ((s.size:Int) - (z0.size:Int)),.iface 242 (.pointer (some ⟨c,0,none⟩))] 244)):=(ExtR w1).alloc _
   obtain⟨fn,tm,c7,bd,b5,K⟩:=HY.o xs.length _ _ (Nat.lt_succ_self _) (a0.o _ _ _ a7.o b6) (.inr ⟨rfl,w1.heap.size,rfl,c,_,k2,Blk.new w1 _,a5.alloc _⟩)
   have a3:=Hd K;clear hE a5 Q b6 K;gi_wp2_with fail
   refine⟨rfl,(a3.o.mono ?_)⟩
   rintro e w5 (⟨rfl,O⟩ |⟨rfl,O⟩)
   ·have E:=Hd O
    clear O;gi_wp2;refine bodyPost_ret (results_none rfl _ _ _) rfl ?_
    exact⟨⟨_,rfl⟩,.inl E.o⟩
   ·have E:=Hd O
    clear O;gi_wp2;refine bodyPost_ret (results_none rfl _ _ _) rfl ?_
    exact⟨⟨_,rfl⟩,.inr ⟨xs.length+1,bL _,Nat.succ_pos _,E.o⟩⟩
theorem at_c(w:vW)(b:Nat)(k:Int)(c:vV)(hB:Blk w b (.cells #[.int .i64 k,c] 244)):vQ 214 #[.pointer (some ⟨b,0,none⟩)] w fun e w'=>e=.returned (.int .i64 k)/\w=w':=by
 have o:=hB.cell (i:=0) (v:=.int .i64 k) vF;clear hB;go_enter Tryz.func214,Tryz.ntmps214;go_wp2_with fail
 go_ret
 exact⟨rfl,rfl⟩
theorem Tryz.methodAt(n:Nat)(v:vV)(w:vW):(Go.method (n+1) 242 v "At").run Tryz.prog w=.ok (214,v) w:=vY
def WhyP(w:vW)(e:Ending)(w':vW):Prop:=∃ k:Int,e=.returned (.tuple #[.int .i64 k,.int .i64 2])/\Ext w w'
theorem jB9(w:vW)(b:Nat)(hG:ErrT w)(hF:Fa2 w b):vQ 134 #[.iface 242 (.pointer (some ⟨b,0,none⟩))] w (WhyP w):=by
 have HG:=Hd hG;have HF:=Hd hF;have hM:=fun v w=>Tryz.methodAt 403 v w;clear hG hF;go_enter Tryz.func134,Tryz.ntmps134;go_wp2_with fail
 have E:Ext w (w.alloc (.cells #[.nilIface] 245)):=(ExtR w).alloc _;refine (juH _ w.heap.size b (Blk.new w _)).mono ?_;rintro e w1 ⟨rfl,H,J⟩;have A:Ext w w1:=E.trans' H (fun z hz e=>by have e:z=w.heap.size:=e;omega);have K:=Hd (HF.o.ext A);have O:=Hd A;have q1:=J.cell (i:=0) (v:=.iface 242 (.pointer (some ⟨b,0,none⟩))) vF;clear H J A E;go_wp2_with fail
 obtain⟨c,k,l,Q,X⟩:=K.o
 refine (at_c w1 b k _ Q).mono ?_;rintro e w2 ⟨rfl,rfl⟩;clear Q X q1;go_wp2_with fail
 have q:Ext w1 (w1.alloc (.cells #[.int .i64 0] 28)):=(ExtR w1).alloc _;refine (juG _ w1.heap.size b 0 (HG.o.ext (O.o.trans q)) (K.o.ext q) (Blk.new w1 _)).mono ?_;rintro e w3 ⟨rfl,H,J⟩;have Z:=Hd (O.o.trans (q.trans' H (fun z hz e=>by have e:z=w1.heap.size:=e;omega)));have q1:=J.cell (i:=0) (v:=.int .i64 2) vF;clear H J q;go_wp2_with fail
 go_ret2
 exact⟨k,rfl,Z.o⟩
structure ItN(w:World)(g m:Nat)(s:vB)(k:Nat)(W:World):Prop where
 ext:Ext w W
 b2:Blk W g (.cells #[.slice none 0 0] 22)
 b3:Blk W (g+1) (.cells #[.int .i64 0] 28)
 bc:Blk W (g+3) (.cells #[.string s] 9)
 row:∃ v xs,Blk W (g+2) (.cells #[v] 22)/\W.ownsRow 0 9 1 v k xs/\∀ b,v.ownBlock=some b->m+2<=b
theorem ItN.st{w:vW}{g m:Nat}{s:vB}{k:Nat}{W W':vW}(h:ItN w g m s k W)(e:Ext W W'):ItN w g m s k W':=
 let ⟨v,xs,h1,h2,h3⟩:=h.row
 ⟨h.ext.trans e,h.b2.keeps e (fun h=>h),h.b3.keeps e (fun h=>h),h.bc.keeps e (fun h=>h),v,xs,h1.keeps e (fun h=>h),jbm h2 e,h3⟩
theorem ItN.put{w:vW}{g m:Nat}{s:vB}{k:Nat}{W:vW}(h:ItN w g m s k W){r:Nat}(hr:w.heap.size<=r)(h1:g+3 < r)(h2:r < m+2)(o:Obj):ItN w g m s k (W.putObj r o):=
 let ⟨v,xs,h3,h4,h5⟩:=h.row
 ⟨h.ext.putObj (.inr hr) _,h.b2.put_other vO _,h.b3.put_other vO _,h.bc.put_other vO _,v,xs,h3.put_other vO _,
  jaY h4 (jag.onePut W r o) (fun b hb e=>by have:=h5 b hb;omega),h5⟩
structure ItX(w:World)(g:Nat)(W:World):Prop where
 ext:Ext w W
 b2:Blk W g (.cells #[.slice none 0 0] 22)
 b3:Blk W (g+1) (.cells #[.int .i64 2] 28)
theorem ItX.st{w:vW}{g:Nat}{W W':vW}(h:ItX w g W)(e:Ext W W'):ItX w g W':=⟨h.ext.trans e,h.b2.keeps e (fun h=>h),h.b3.keeps e (fun h=>h)⟩
theorem ItX.put{w:vW}{g:Nat}{W:vW}(h:ItX w g W){r:Nat}(hr:w.heap.size<=r)(h1:g+1 < r)(o:Obj):ItX w g (W.putObj r o):=⟨h.ext.putObj (.inr hr) _,h.b2.put_other vO _,h.b3.put_other vO _⟩
def va0(vs:Array vV):vV:=vs.getD 0 undef
def va1(vs:Array vV):vV:=vs.getD 1 undef
theorem Fa2.put{W:vW}{b r:Nat}{o L:_}(h:Fa2 W b)(hB:Blk W r (.loop L)):Fa2 (W.putObj r o) b:=by
 obtain⟨c,k,l,q,z⟩:=h
 have A:∀ {x:Nat} {cs T},Blk W x (.cells cs T)->x≠r:=fun E e=>by
  subst e
  have:=E.symm.trans hB
  cases this
 exact⟨c,k,l,q.put_other (A q) _,z.put_other (A z) _⟩
theorem jvS(w:vW)(hG:ErrT w)(xs:vM)(z0:vB)(hx:∀ x∈xs,jeb x)(hs:(catB xs++z0).size<=1000000000)(hn:xs.length<=1000000)(hz0:0 < z0.size)(hcz:cutN z0=none):vR 106 #[.string (catB xs++z0)] w (.tuple #[.slice none 0 0,.int .i64 2]):=by
 obtain⟨i0,hi,hz,a8,a9⟩:=info_parts Tryz.infoStr
 have O:=fun b=>jvq b xs z0 hx hs hz0 hcz
 obtain⟨s,a1⟩:=vE (catB xs++z0)
 rw[<-a1]at O ⊢;have b0:=Hd O;have HG:=Hd hG;clear a1 O hs hx hz0 hcz hG;refine (callsIn_wide (n:=0)).1 ?_;refine callsIn_of_wp_marks Tryz.func106 rfl trivial ?_ rfl;simp only[Tryz.ntmps106,cT,bO,dG,Nat.reduceAdd,Nat.reduceSub,cY,cX,dI,dC,cM,cQ];gi_wp2_with fail
 obtain⟨Q,q⟩:=vE (((w.alloc (.cells #[.slice none 0 0] 22)).alloc (.cells #[.int .i64 0] 28)).alloc (.cells #[.slice none 0 0] 22))
 rw[<-q];have a2:Q.heap.size=w.heap.size+3:=by rw[q];simp
 have E0:Ext w Q:=by rw[q];exact ((((ExtR w).alloc _).alloc _).alloc _)
 have J:Blk Q w.heap.size (.cells #[.slice none 0 0] 22):=by rw[q];exact ((Blk.new w _).alloc _).alloc _
 have X:Blk Q (w.heap.size+1) (.cells #[.int .i64 0] 28):=by
  rw[q];have:=(Blk.new (w.alloc (.cells #[.slice none 0 0] 22)) (.cells #[.int .i64 0] 28)).alloc (.cells #[.slice none 0 0] 22);rwa [bK]at this
 have Z:Blk Q (w.heap.size+2) (.cells #[.slice none 0 0] 22):=by
  rw[q];have:=(Blk.new ((w.alloc (.cells #[.slice none 0 0] 22)).alloc (.cells #[.int .i64 0] 28)) (.cells #[.slice none 0 0] 22));rwa [bK,bK]at this
 clear q
 refine⟨trivial,rfl,CallsIn.mono (callsIn_wide.2 (jxk Q s)) ?_⟩
 rintro e w1 ⟨rfl,H,A⟩;rw[a2]at H ⊢;have S0:ItN w w.heap.size w1.heap.size s 0 w1:=⟨E0.trans A,J.keeps A (fun h=>h),X.keeps A (fun h=>h),H,_,[],Z.keeps A (fun h=>h),fL _ _ _ _,fun b hb=>by cases hb⟩;have b8:=H.lt;have b1:=Hd S0;clear a2 E0 J X Z H A S0 Q;gi_wp2_with fail
 refine juC (N:=xs.length+1) (gf:=146) (lb:=#[.pointer (some ⟨w.heap.size+3,0,none⟩)]) rfl (vX 146) (b0.o (w.heap.size+3))
  (fun k W vs h=>by rcases h with⟨_,rfl⟩ |⟨_,b,rfl,_⟩ <;> rfl)
  (fun k W vs L o h hB=>h.imp id fun ⟨h1,b,h2,h3⟩=>⟨h1,b,h2,h3.put hB⟩)
  (fun k W=>k<=xs.length/\ItN w w.heap.size w1.heap.size s k W) (fun cd _ W=>cd=.ret/\ItX w w.heap.size W)
  (fun k W W' h e=>⟨h.1,h.2.st e⟩) (fun cd _ W W' h e=>⟨h.1,h.2.st e⟩) (fun k W h=>h.2.bc)
  (fun k W o h=>⟨h.1,h.2.put vO vO vO _⟩)
  (fun k W o h=>⟨h.1,h.2.put vO vO vO _⟩) (fun cd _ W o h=>⟨h.1,h.2.put vO vO _⟩)
  ⟨bY _,b1.o⟩ (fun vs=>{ tmps:=#[.string s,undef,.pointer (some ⟨w.heap.size,0,none⟩),.pointer (some ⟨w.heap.size+1,0,none⟩),.pointer (some ⟨w.heap.size+1+1,0,none⟩),va0 vs,va1 vs,undef,undef,.string s,.func (.func 146) #[] #[.pointer (some ⟨w.heap.size+3,0,none⟩)],va0 vs,va1 vs,undef,undef,undef,undef,undef,undef,undef,undef,undef,undef,undef,undef,undef],defers:=[] })
  ?hassign ?hbody ?hdone ?hstop
 case hassign =>
  intro l j W vs K hj hV hK
  obtain⟨a,b,rfl⟩:∃ a b,vs=#[a,b]:=by rcases hV with⟨_,rfl⟩ |⟨_,b,rfl,_⟩ <;> exact⟨_,_,rfl⟩
  rw[jn1];simp only[dJ,dB];gi_wp2;exact hK
 case hbody =>
  rintro l k W vs hk ⟨b9,hS⟩ hV c0;rcases hV with⟨hlk,rfl⟩ |⟨rfl,b,rfl,hF⟩
  ·have e0:va0 #[.string (xs.getD k ⟨#[]⟩),.nilIface]=.string (xs.getD k ⟨#[]⟩):=rfl
   have e1:va1 #[.string (xs.getD k ⟨#[]⟩),.nilIface]=.nilIface:=rfl;rw[e0,e1]
   obtain⟨v,ys,h1,h2,h3⟩:=hS.row
   obtain⟨ad,cp,rfl⟩:=jaL h2
   obtain⟨x,a3⟩:=vE (xs.getD k ⟨#[]⟩)
   rw[<-a3];have q4:W.cell? ⟨w.heap.size+1+1,0,none⟩=some (.slice ad k cp):=h1.cell (i:=0) vF;have f4:W.frozen? ⟨w.heap.size+1+1,0,none⟩=false:=h1.frozen;have E:=Hd hS;have H1:=Hd h1;have H2:=Hd h2;have H3:=Hd h3;clear hS h1 h2 h3 a3 e0 e1;gi_wp2_with (gi_at_builtin;refine jbU _ rfl (.tmp 21) (.tmp 23) 22 rfl 9 i0 _ 1 16 Tryz.uStrs hi hz a8 a9 rfl vI (.slice ad k cp) k _ rfl (jbm H2.o ((ExtR W).alloc _)) ⟨W.heap.size,0,none⟩ 1 1 [.string x] rfl rfl (ja3 (Blk.new W _)) (by simp[Value.oneCell']) (by unfold maxLen;omega) vO ?_)
   intro v' w6 r1 r2 r3;have K6:jag (fun b=>(Value.slice ad k cp).ownBlock=some b) W w6:=((jag.refl _ W).alloc _).trans r2;have a0:=E.o.b2.lt;have b7:=H1.o.lt;have c1:w.heap.size<=w1.heap.size:=vO
   have nb:∀ b,b < w1.heap.size+2->¬(Value.slice ad k cp).ownBlock=some b:=fun b hb e=>by have:=H3.o b e;omega
   obtain⟨a4,a5,rfl⟩:=jaL r1
   have a6:∀ b,(Value.slice a4 (k+1) a5).ownBlock=some b->w1.heap.size+2<=b:=fun b hb=>by
    rcases r3 with r3 | r3
    ·exact H3.o b (r3 ▸ hb)
    ·have:=r3 b hb;omega
   have Z:=H1.o.keeps K6 (nb _ vO);have c4:w6.cell? ⟨w.heap.size+1+1,0,none⟩=some (.slice ad k cp):=Z.cell (i:=0) vF;have c5:w6.frozen? ⟨w.heap.size+1+1,0,none⟩=false:=Z.frozen;have z:=Hd K6;have b4:=Hd Z;have R1:=Hd r1;have a7:=Hd a6;have NB:=Hd nb;clear K6 r1 r2 r3 a6 Z nb q4 f4;gi_wp2;have k7:jag (fun b=>b=w.heap.size+1+1) w6 (w6.setCell ⟨w.heap.size+1+1,0,none⟩ (.slice a4 (k+1) a5)):=jag.oneSet w6 ⟨w.heap.size+1+1,0,none⟩ _
   refine⟨(z.o.mono (fun x _ e=>?_)).trans' k7 (fun x _ e=>?_),?_⟩
   ·have:=H3.o x e;show x≠_/\x≠_;omega
   ·have e:x=_:=e;show x≠_/\x≠_;omega
   ·refine⟨by omega,(E.o.ext.trans' z.o (fun x hx e=>by have:=H3.o x e;omega)).trans' k7 (fun x hx e=>by have e:x=_:=e;omega),
     (E.o.b2.keeps z.o (NB.o _ vO)).keeps k7 (fun e=>by omega),(E.o.b3.keeps z.o (NB.o _ vO)).keeps k7 (fun e=>by omega),(E.o.bc.keeps z.o (NB.o _ vO)).keeps k7 (fun e=>by omega),
     _,_,b4.o.set_same (i:=0) _,jaY R1.o k7 (fun b hb e=>by have:=a7.o b hb;omega),a7.o⟩
  ·have e0:va0 #[.string ⟨#[]⟩,.iface 242 (.pointer (some ⟨b,0,none⟩))]=.string ⟨#[]⟩:=rfl
   have e1:va1 #[.string ⟨#[]⟩,.iface 242 (.pointer (some ⟨b,0,none⟩))]=.iface 242 (.pointer (some ⟨b,0,none⟩)):=rfl;rw[e0,e1];have hq:∀ w,(binOp .neq 89 (.iface 242 (.pointer (some ⟨b,0,none⟩))) .nilIface).run Tryz.prog w=.ok (.bool true) w:=fun w=>by kernel_rfl
   have E:=Hd hS;have HF:=Hd hF;clear hS hF e0 e1;gi_wp2_with fail
   refine⟨trivial,rfl,CallsIn.mono (CallsIn.inRound l (callsIn_wide.2 (jB9 W b (HG.o.ext E.o.ext) HF.o))) ?_⟩
   rintro e w5 ⟨kk,rfl,A⟩;have J:=E.o.b2.keeps A (fun h=>h);have X:=E.o.b3.keeps A (fun h=>h);have f2:w5.frozen? ⟨w.heap.size,0,none⟩=false:=J.frozen;have f3:w5.frozen? ⟨w.heap.size+1,0,none⟩=false:=X.frozen;have q2:=J.cell (i:=0) (v:=.slice none 0 0) vF;have q3:=X.cell (i:=0) (v:=.int .i64 0) vF;have b5:=Hd J;have b6:=Hd X;have HE:=Hd A;have a0:=J.lt;clear J X A;gi_wp2;have C2:=(b5.o.set_same (i:=0) (.slice none 0 0)).set_other (p:=⟨w.heap.size+1,0,none⟩) (by show w.heap.size≠w.heap.size+1;omega) (.int .i64 2);have C3:=(b6.o.set_other (p:=⟨w.heap.size,0,none⟩) (by show w.heap.size+1≠w.heap.size;omega) (.slice none 0 0)).set_same (i:=0) (.int .i64 2);have K5:jag (fun b=>b=w.heap.size\/b=w.heap.size+1) W ((w5.setCell ⟨w.heap.size,0,none⟩ (.slice none 0 0)).setCell ⟨w.heap.size+1,0,none⟩ (.int .i64 2)):=
    ((HE.o.mono (fun _ _ h=>h.elim)).setCell (.inl (.inl rfl)) _).setCell (.inl (.inr rfl)) _
   refine⟨K5.mono (fun x hx e=>?_),?_⟩
   ·show x≠_/\x≠_;omega
   ·exact⟨rfl,E.o.ext.trans' K5 (fun x hx e=>by omega),C2,C3⟩
 case hdone =>
  rintro W ⟨h,_⟩ hd;omega
 case hstop =>
  rintro cd k W hk c6 ⟨rfl,h⟩ hd;have HX:=Hd h;have HD:=Hd hd;clear h hd;have K3:Ext w (W.putObj w1.heap.size (.deferred none)):=HX.o.ext.putObj (.inr vO) _;have c2:(W.putObj w1.heap.size (.deferred none)).cell? ⟨w.heap.size,0,none⟩=some (.slice none 0 0):=(HX.o.b2.put_other vO _).cell (i:=0) (by simp);have c3:(W.putObj w1.heap.size (.deferred none)).cell? ⟨w.heap.size+1,0,none⟩=some (.int .i64 2):=(HX.o.b3.put_other vO _).cell (i:=0) (by simp);gi_wp2
  refine⟨by simp,.inl ⟨_,_,rfl,run_takeDeferred HD.o,?_⟩⟩
  exact⟨.tuple #[.slice none 0 0,.int .i64 2],by simp[results,Tryz.results106,go_sem,c2,c3],rfl,K3⟩
end
theorem jvX{a:vU}{t t':vN}{to n:Nat}(h2:2<=to)(h:lenB ⟨(a :: t).toArray⟩ to=some n)(hl:to<=t'.length+1)(he:t'.take (to - 1)=t.take (to - 1)):lenB ⟨(a :: t').toArray⟩ to=some n:=by
 obtain⟨K,o,q,z,A⟩:=jd4 h
 have E:((⟨(a :: t').toArray⟩:vB).data.toList.take to).drop 1=((⟨(a :: t).toArray⟩:vB).data.toList.take to).drop 1:=by
  show ((a :: t').take to).drop 1=((a :: t).take to).drop 1
  obtain⟨k,rfl⟩:∃ k,to=k+1:=⟨to - 1,by omega⟩
  rw[dW,dW,iK,iK];simpa using he
 have H:(⟨(a :: t').toArray⟩:vB).data.toList.getD 1 0=(⟨(a :: t).toArray⟩:vB).data.toList.getD 1 0:=by
  show t'.getD 0 0=t.getD 0 0;have g:∀ l:vN,l.getD 0 0=(l.take (to - 1)).getD 0 0:=fun l=>by
   cases l with
   | nil=>simp
   | cons x r =>
    obtain⟨k,J⟩:∃ k,to - 1=k+1:=⟨to - 2,by omega⟩
    rw[J];rfl
  rw[g t',g t,he]
 unfold lenB;rw[E,H,q,if_neg,if_pos ⟨z,A⟩];rintro (e | e)
 ·have:(⟨(a :: t').toArray⟩:vB).size=t'.length+1:=rfl
  omega
 ·exact o e
theorem jx9(s y:vB)(r:Bool × Nat × Nat)(h:cutN s=some r):cutN (s.extract 0 (r.2.1+r.2.2)++y)=some r:=by
 obtain⟨⟨l⟩⟩:=s
 cases l with
 | nil=>exact absurd (jdH h).1 vI
 | cons a t =>
  obtain⟨b,o,n⟩:=r
  have z:=(jdH h).2;have A:=jiu h;have A:o+n<=t.length+1:=A;have z:0 < o+n:=z;have J:(ByteArray.extract ⟨⟨a :: t⟩⟩ 0 (o+n)++y)=⟨(a ::(t.take (o+n - 1)++y.data.toList)).toArray⟩:=by
   apply ByteArray.ext;apply Array.ext';rw[dH,fC,dP,dZ,dO];show ((a :: t).drop 0).take (o+n - 0)++_=_
   obtain⟨k,K⟩:∃ k,o+n=k+1:=⟨o+n - 1,by omega⟩
   rw[K];rfl
  show cutN (ByteArray.extract ⟨⟨a :: t⟩⟩ 0 (o+n)++y)=_;rw[J];have h:cutN ⟨(a :: t).toArray⟩=some (b,o,n):=h;rw[jev]at h ⊢
  obtain⟨m,H⟩:=vE (if a.toNat < 192 then a.toNat - 128 else a.toNat - 192)
  rw[<-H]at h ⊢;have O:m<=63:=by have:=a.toNat_lt;rw[H];split <;> omega
  clear H J;have q:(t.take (o+n - 1)++y.data.toList).length=(o+n - 1)+y.data.toList.length:=by
   rw[bF,dM,gR vO]
  by_cases h1:a.toNat < 128
  ·rw[if_pos h1]at h ⊢;exact h
  rw[if_neg h1]at h ⊢
  by_cases h2:m<=55
  ·rw[if_pos h2]at h ⊢
   split at h
   ·rename_i E
    obtain⟨rfl,e⟩:=Prod.mk.inj (bQ h)
    obtain⟨rfl,rfl⟩:=Prod.mk.inj e
    rw[if_pos]
    refine⟨by rw[q];omega,E.2.imp id fun E=>?_⟩
    by_cases hm1:m=1
    ·subst hm1
     refine .inr ?_;have E:128<=((a :: t).getD 1 0).toNat:=E.resolve_left (fun h=>h rfl);cases t with
     | nil=>exact absurd (show 2<=1 from A) vI
     | cons x t=>simpa using E
    ·exact .inl hm1
   ·cases h
  ·rw[if_neg h2]at h ⊢
   split at h
   ·rename_i n' hl
    split at h
    ·rename_i E
     obtain⟨rfl,e⟩:=Prod.mk.inj (bQ h)
     obtain⟨rfl,rfl⟩:=Prod.mk.inj e
     rw[jvX vO hl (by rw[q];omega) (by
      rw[fX (by rw[dM,gR vO];omega),List.take_take,gR vO])]
     show (if _ then _ else _)=_;rw[if_pos (by rw[q];omega)]
    ·cases h
   ·cases h
theorem jyw{s:vB}{r:Bool × Nat × Nat}(h:cutN s=some r):jeb (s.extract 0 (r.2.1+r.2.2)):=fun y _=>⟨r,jx9 s y r h,by
 have:=jiu h
 rw[cL];omega⟩
theorem jsp(s:vB)(k:Nat):s.extract 0 k++s.extract k s.size=s:=by
 apply ByteArray.ext;apply Array.ext';rw[dH,fC,dP,dP,dZ,dZ,dO,dO];show (s.data.toList.drop 0).take (k - 0)++(s.data.toList.drop k).take (s.size - k)=_;rw[cD (l:=s.data.toList.drop k) (by rw[List.length_drop];exact bL _)];exact dD k _
theorem joc:∀ (f:Nat) (s:vB),s.size<=f->∃ xs z,(∀ x∈xs,jeb x)/\s=catB xs++z/\(∀ x∈xs,x.size<=s.size)/\xs.length<=s.size/\(z=⟨#[]⟩\/(0 < z.size/\cutN z=none)):=by
 intro f;induction f with
 | zero =>
  intro s o
  have:s=⟨#[]⟩:=ja1 vO
  subst this
  exact⟨[],⟨#[]⟩,(fun x e=>(cH e).elim),vI,(fun x e=>(cH e).elim),vI,.inl rfl⟩
 | succ f ih =>
  intro s o
  by_cases h0:s.size=0
  ·have:s=⟨#[]⟩:=ja1 h0
   subst this
   exact⟨[],⟨#[]⟩,(fun x e=>(cH e).elim),vI,(fun x e=>(cH e).elim),vI,.inl rfl⟩
  cases hc:cutN s with
  | none=>exact⟨[],s,(fun x e=>(cH e).elim),ByteArray.empty_append.symm,(fun x e=>(cH e).elim),bY _,.inr ⟨by omega,hc⟩⟩
  | some r =>
   have K:=(jdH hc).2;have q:=jiu hc;have O:(s.extract (r.2.1+r.2.2) s.size).size=s.size - (r.2.1+r.2.2):=by rw[cL];omega
   obtain⟨xs,z,A,E,H,Q,J⟩:=ih (s.extract (r.2.1+r.2.2) s.size) vO
   refine⟨s.extract 0 (r.2.1+r.2.2) :: xs,z,fun x e=>?_,?_,fun x e=>?_,by rw[bO];omega,J⟩
   ·rcases bM.1 e with rfl | e
    ·exact jyw hc
    ·exact A x e
   ·rw[jsa,ByteArray.append_assoc, <-E,jsp]
   ·rcases bM.1 e with rfl | e
    ·rw[cL];omega
    ·have:=H x e;omega
section
attribute [local go_sem] Oper.semAt_some
def jqu(s:vB)(m:jad):Prop:=(∃ p v,m=⟨1,p,v,jar 16⟩/\jaC p=true/\p.size<=1000000/\v.size<=1000000) \/
 (∃ p y,m=⟨2,p,⟨#[]⟩,y :: jar 15⟩/\jaC p=true/\p.size<=1000000/\y.size < s.size/\y.size≠0) \/
 (∃ v rs,m=⟨3,⟨#[]⟩,v,rs⟩/\rs.length=16/\v.size<=1000000/\(∀ r∈rs,r.size < s.size)/\∀ r∈rs,r.size≠0->r≠jaz ⟨#[]⟩)
def juQ(w:vW)(s:vB)(e:Ending)(w':vW):Prop:=RdNo w e w'\/∃ m:jad,m.refs.length=16/\jqu s m/\e=.returned (.tuple #[m.V,.bool true])/\Ext w w'
theorem jnd(w:vW)(s:vB)(hs:s.size<=400000)(hne:s≠jaz ⟨#[]⟩)(o n:Nat)(h:cutN s=some (false,o,n)):vQ 74 #[.string s] w (RdNo w):=by
 obtain⟨em,q⟩:=vE (jaz ⟨#[]⟩)
 have Q:=jb6 hne;rw[<-q]at Q;have X:=Hd q;have HS:=Hd (show s.size<=1000000000 by omega);have H1:=Hd h
 obtain⟨bh,A⟩:=vE (s.extract (o+n) s.size)
 obtain⟨c,E⟩:=vE (s.extract o (o+n))
 have HX:=Hd (bB A E);clear q hne h A E;go_enter Tryz.func74,Tryz.ntmps74;go_wp2_with (refine jah Tryz.allocNode rfl rfl ?_;intro W1 H J)
 refine vC (jcv _ ⟨#[]⟩ vI) fun w2 z=>?_;rw[<-X.o];have K:=Hd (H.keeps z (fun h=>h));have O:=Hd (J.trans z);clear H J z;go_wp2_with fail
 refine vC (je8 _ s _ HS.o H1.o) fun w3 z=>?_;simp only;rw[<-HX.o.1, <-HX.o.2];have Z:=Hd (O.o.trans z);have a0:=K.o.keeps z (fun h=>h);clear z O K;go_wp2_with (refine jae (vs:=jak.cells) rfl rfl rfl rfl a0 rfl Tryz.szNode (jad.one _) ?_;intro W8 a1 a2)
 refine bodyPost_ret (jaj rfl rfl rfl (jai W8 _ jak rfl a1)) rfl ?_
 exact⟨jak,rfl,rfl,Z.o.trans' a2 (fun x hx e=>by have e:x=w.heap.size:=e;omega)⟩
theorem jot(w:vW)(s:vB)(hs:s.size<=400000)(hne:s≠jaz ⟨#[]⟩)(o n:Nat)(h:cutN s=some (true,o,n))(hlt:o+n < s.size):vQ 74 #[.string s] w (RdNo w):=by
 obtain⟨em,q⟩:=vE (jaz ⟨#[]⟩)
 have Q:=jb6 hne;rw[<-q]at Q;have X:=Hd q;have HS:=Hd (show s.size<=1000000000 by omega);have H1:=Hd h
 obtain⟨bh,z⟩:=vE (s.extract (o+n) s.size)
 obtain⟨c,E⟩:=vE (s.extract o (o+n))
 have a3:=ja4 (s:=bh) (by rw[z,cL];omega);have HX:=Hd (bB z E);clear q hne h z E hlt;go_enter Tryz.func74,Tryz.ntmps74;go_wp2_with (refine jah Tryz.allocNode rfl rfl ?_;intro W1 H J)
 refine vC (jcv _ ⟨#[]⟩ vI) fun w2 A=>?_;rw[<-X.o];have K:=Hd (H.keeps A (fun h=>h));have O:=Hd (J.trans A);clear H J A;go_wp2_with fail
 refine vC (je8 _ s _ HS.o H1.o) fun w3 A=>?_;simp only;rw[<-HX.o.1, <-HX.o.2];have Z:=Hd (O.o.trans A);have a0:=K.o.keeps A (fun h=>h);clear A O K;go_wp2_with (refine jae (vs:=jak.cells) rfl rfl rfl rfl a0 rfl Tryz.szNode (jad.one _) ?_;intro W8 a1 a2)
 refine bodyPost_ret (jaj rfl rfl rfl (jai W8 _ jak rfl a1)) rfl ?_
 exact⟨jak,rfl,rfl,Z.o.trans' a2 (fun x hx e=>by have e:x=w.heap.size:=e;omega)⟩
theorem jnc(w:vW)(s:vB)(hs:s.size<=400000)(hne:s≠jaz ⟨#[]⟩)(o n:Nat)(h:cutN s=some (true,o,n))(hle:o+n=s.size)(c:vB)(hcd:c=s.extract o (o+n))(hI:∀ w1,Ext w w1->vR 106 #[.string c] w1 (.tuple #[.slice none 0 0,.int .i64 2])):vQ 74 #[.string s] w (RdNo w):=by
 obtain⟨em,z⟩:=vE (jaz ⟨#[]⟩)
 have Q:=jb6 hne;rw[<-z]at Q;have X:=Hd z;have HS:=Hd (show s.size<=1000000000 by omega);have H1:=Hd h;have H2:=Hd hle;have Z:=Hd hcd;have HI:=Hd hI;clear z hne h hle hcd hI;go_enter Tryz.func74,Tryz.ntmps74;go_wp2_with (refine jah Tryz.allocNode rfl rfl ?_;intro W1 E H)
 refine vC (jcv _ ⟨#[]⟩ vI) fun w2 q=>?_;rw[<-X.o];have J:=Hd (E.keeps q (fun h=>h));have K:=Hd (H.trans q);clear E H q;go_wp2_with fail
 refine vC (je8 _ s _ HS.o H1.o) fun w3 q=>?_;simp only;rw[<-Z.o,H2.o,jdb];have A:=Hd (K.o.trans q);have O:=Hd (J.o.keeps q (fun h=>h));clear q K J;go_wp2_with fail
 refine vC (HI.o w3 A.o) fun w4 q=>?_;have a0:=O.o.keeps q (fun h=>h);have a1:=Hd (A.o.trans q);clear q A O;go_wp2_with (refine jae (vs:=jak.cells) rfl rfl rfl rfl a0 rfl Tryz.szNode (jad.one _) ?_;intro W8 a2 a3)
 refine bodyPost_ret (jaj rfl rfl rfl (jai W8 _ jak rfl a2)) rfl ?_
 exact⟨jak,rfl,rfl,a1.o.trans' a3 (fun x hx e=>by have e:x=w.heap.size:=e;omega)⟩
theorem jrk(w:vW)(s:vB)(hs:s.size<=400000)(hne:s≠jaz ⟨#[]⟩)(o n:Nat)(h:cutN s=some (true,o,n))(hle:o+n=s.size)(c:vB)(hcd:c=s.extract o (o+n))(xs:vM)(hI:∀ w1,vQ 106 #[.string c] w1 fun e w'=>∃ v,e=.returned (.tuple #[v,.int .i64 0])/\SRow w1 w' v xs.length xs)(hl2:xs.length≠2)(hl17:xs.length≠17):vQ 74 #[.string s] w (RdNo w):=by
 obtain⟨em,q⟩:=vE (jaz ⟨#[]⟩)
 have X:=jb6 hne;rw[<-q]at X;have Z:=Hd q;have HS:=Hd (show s.size<=1000000000 by omega);have H1:=Hd h;have H2:=Hd hle;have a0:=Hd hcd;have HI:=Hd hI;clear q hne h hle hcd hI;go_enter Tryz.func74,Tryz.ntmps74;go_wp2_with (refine jah Tryz.allocNode rfl rfl ?_;intro W1 A E)
 refine vC (jcv _ ⟨#[]⟩ vI) fun w2 z=>?_;rw[<-Z.o];have H:=Hd (A.keeps z (fun h=>h));have J:=Hd (E.trans z);clear A E z;go_wp2_with fail
 refine vC (je8 _ s _ HS.o H1.o) fun w3 z=>?_;simp only;rw[<-a0.o,H2.o,jdb];have K:=Hd (J.o.trans z);have O:=Hd (H.o.keeps z (fun h=>h));clear z J H;go_wp2_with fail
 refine (HI.o w3).mono ?_;rintro e w4 ⟨v,rfl,Q⟩;have a1:=O.o.keeps Q.ext (fun h=>h);have a2:=Hd (K.o.trans Q.ext);rcases Q.sl with⟨ad,cp,rfl⟩;have d2:((xs.length:Int) == 2)=false:=by simp;omega
 have a5:((xs.length:Int) == 17)=false:=by simp;omega
 clear Q K O;go_wp2_with (refine jae (vs:=jak.cells) rfl rfl rfl rfl a1 rfl Tryz.szNode (jad.one _) ?_;intro W8 a3 a4)
 refine bodyPost_ret (jaj rfl rfl rfl (jai W8 _ jak rfl a3)) rfl ?_
 exact⟨jak,rfl,rfl,a2.o.trans' a4 (fun x hx e=>by have e:x=w.heap.size:=e;omega)⟩
theorem jww(w:vW)(s:vB)(hs:s.size<=400000)(hne:s≠jaz ⟨#[]⟩)(o n:Nat)(h:cutN s=some (true,o,n))(hle:o+n=s.size)(c:vB)(hcd:c=s.extract o (o+n))(x y:vB)(hI:∀ w1,vQ 106 #[.string c] w1 fun e w'=>∃ v,e=.returned (.tuple #[v,.int .i64 0])/\SRow w1 w' v 2 [x,y])(hx:x.size<=400000)(hy:y.size < s.size)(hy0:y.size≠0):vQ 74 #[.string s] w (juQ w s):=by
 have HP:=Hd (fun w=>jwk w x y vO vO);have E:=Hd (jtI x y);have HF:=Hd (fun h=>jwj (x:=x) (y:=y) vO vO h);have HY:=Hd (bB hy hy0)
 obtain⟨g,hg⟩:=vE (jiU x y)
 unfold jny at HP;rw[<-hg]at E HF HP;clear hg hy hy0
 obtain⟨m,ok⟩:=g
 obtain⟨em,z⟩:=vE (jaz ⟨#[]⟩)
 have a8:=jb6 hne;rw[<-z]at a8;have a9:=Hd z;have HS:=Hd (show s.size<=1000000000 by omega);have H1:=Hd h;have H2:=Hd hle;have b0:=Hd hcd;have HI:=Hd hI;clear z hne h hle hcd hI;go_enter Tryz.func74,Tryz.ntmps74;go_wp2_with (refine jah Tryz.allocNode rfl rfl ?_;intro W1 J O)
 refine vC (jcv _ ⟨#[]⟩ vI) fun w2 A=>?_;rw[<-a9.o];have Q:=Hd (J.keeps A (fun h=>h));have X:=Hd (O.trans A);clear J O A;go_wp2_with fail
 refine vC (je8 _ s _ HS.o H1.o) fun w3 A=>?_;simp only;rw[<-b0.o,H2.o,jdb];have Z:=Hd (X.o.trans A);have a0:=Hd (Q.o.keeps A (fun h=>h));clear A X Q;go_wp2_with fail
 refine (HI.o w3).mono ?_;rintro e w4 ⟨v,rfl,hv⟩;have a1:=Hd (a0.o.keeps hv.ext (fun h=>h));have a2:=Hd (Z.o.trans hv.ext);rcases hv.rd with⟨_,_,_,h0⟩ |⟨b,o2,c2,rfl,hb,hc,hcell⟩
 ·cases h0
 have QX:=Hd (hcell 0 x rfl);have QY:=Hd (hcell 1 y rfl);clear hv hcell Z a0;go_wp2_with fail
 refine jaw [0,1,2,3,4,5,6,7,8,9,10] [9] Ext ExtR ExtT vY vY vY ?_;iterate 2 refine vP ?_
 refine qL ⟨b,o2,none⟩ _ rfl (fun w1 q=>jac Tryz.uStr rfl (jaa (by exact QX.o) q)) ?_;refine vS ?_;iterate 2 refine vP ?_
 refine qL ⟨b,o2+1,none⟩ _ rfl (fun w1 q=>jac Tryz.uStr rfl (jaa (by exact QY.o) q)) ?_;refine vS ?_;refine jc6 _ 107 #[.string x,.string y] (.tuple #[m.V,.bool ok]) rfl vY rfl (fun w1=>jaG (vX 107) vY) (fun w1 q=>HP.o w1) ?_;refine vS ?_;iterate 2 refine vP ?_
 refine qH _ rfl (fun w5 H K hK=>?_);have hX:=(jaq w4).trans H;refine jjn (vs:=m.cells) rfl rfl rfl (a1.o.keeps hX (fun h=>h)) (by rw[m.cells_len E.o];rfl) (by rw[m.cells_len E.o];exact Tryz.szNode) m.one ?_;intro W6 a3 a4;have a5:=Hd a3;have a6:=Hd ((a2.o.trans hX).trans' a4 (fun x hx e=>by have e:x=w.heap.size:=e;omega));clear H hX a3 a4 QX QY a1 a2;refine vS ?_;refine hK _ _ ?_;clear hK K
 refine vP ?_
 refine qE (fun w7 H=>?_);have b1:=Hd (a5.o.keeps H (fun h=>h));have a7:=Hd (a6.o.trans H);clear H a5 a6;go_wp2_with fail
 refine bodyPost_ret (jaj rfl rfl rfl (jai w7 _ m E.o b1.o)) rfl ?_;cases ok with
 | false=>exact .inl ⟨m,E.o,rfl,a7.o⟩
 | true =>
  refine .inr ⟨m,E.o,?_,rfl,a7.o⟩;rcases HF.o rfl with⟨p,v,q,h2,h3,h4⟩ |⟨p,q,h2,h3⟩
  ·exact .inl ⟨p,v,q,h2,h3,h4⟩
  ·exact .inr (.inl ⟨p,y,q,h2,h3,HY.o.1,HY.o.2⟩)
theorem jtY(w:vW)(s:vB)(hs:s.size<=400000)(hne:s≠jaz ⟨#[]⟩)(o n:Nat)(h:cutN s=some (true,o,n))(hle:o+n=s.size)(c:vB)(hcd:c=s.extract o (o+n))(xs:vM)(hI:∀ w1,vQ 106 #[.string c] w1 fun e w'=>∃ v,e=.returned (.tuple #[v,.int .i64 0])/\SRow w1 w' v xs.length xs)(hl:xs.length=17)(h0:∀ x∈xs,x.size≠0)(hlt:∀ x∈xs,x.size < s.size):vQ 74 #[.string s] w (juQ w s):=by
 obtain⟨rs,z,a4,J,Q,a5,hz⟩:=jl5 xs hl h0
 have b4:=hlt z hz;have hc:∀ w v,RdS w v xs->vQ 108 #[v] w (jrx w rs z):=fun w v E=>jqC w v rs z J vO Q (by rw[<-a4];exact E);have HF:=Hd (show ∀ v,jek z=some v->jqu s ⟨3,⟨#[]⟩,v,rs⟩from fun v E=>.inr (.inr ⟨v,rs,rfl,J,by have:=je3 E;omega,fun r hr=>by
  rcases a5 r hr with e | e
  ·rw[e]
   have:=h0 z hz
   show 0 < s.size;omega
  ·exact hlt r e,Q⟩))
 have b5:=Hd J;have HC:=Hd hc;have HL:=Hd hl;clear a4 Q a5 hz b4 hc hl h0 hlt J
 obtain⟨em,X⟩:=vE (jaz ⟨#[]⟩)
 have b6:=jb6 hne;rw[<-X]at b6;have b7:=Hd X;have HS:=Hd (show s.size<=1000000000 by omega);have H1:=Hd h;have H2:=Hd hle;have b8:=Hd hcd;have HI:=Hd hI;clear X hne h hle hcd hI;go_enter Tryz.func74,Tryz.ntmps74;go_wp2_with (refine jah Tryz.allocNode rfl rfl ?_;intro W1 a6 a7)
 refine vC (jcv _ ⟨#[]⟩ vI) fun w2 A=>?_;rw[<-b7.o];have a8:=Hd (a6.keeps A (fun h=>h));have a9:=Hd (a7.trans A);clear a6 a7 A;go_wp2_with fail
 refine vC (je8 _ s _ HS.o H1.o) fun w3 A=>?_;simp only;rw[<-b8.o,H2.o,jdb];have b0:=Hd (a9.o.trans A);have b1:=Hd (a8.o.keeps A (fun h=>h));clear A a9 a8;go_wp2_with fail
 refine (HI.o w3).mono ?_;rintro e w4 ⟨v,rfl,E⟩;have K:=Hd (b1.o.keeps E.ext (fun h=>h));have O:=Hd (b0.o.trans E.ext);have Z:=E.rd;rcases E.sl with⟨ad,cp,rfl⟩;rw[HL.o]at Z ⊢;have H:=HC.o w4 _ Z;have b9:=Hd H;clear E b0 b1 Z H;go_wp2_with fail
 refine b9.o.mono ?_;rintro e w5 (⟨m,b2,rfl,A⟩ |⟨v,E,rfl,A⟩)
 ·have a0:=Hd (O.o.trans A)
  have a1:=K.o.keeps A (fun h=>h);have q:=Hd b2;clear A O K b2;unfold jad.V;go_wp2_with (refine jae (vs:=m.cells) rfl rfl rfl rfl a1 (by rw[m.cells_len q.o];rfl) (by rw[m.cells_len q.o];exact Tryz.szNode) m.one ?_;intro W8 a2 a3)
  refine bodyPost_ret (jaj rfl rfl rfl (jai W8 _ m q.o a2)) rfl ?_;exact .inl ⟨m,q.o,rfl,a0.o.trans' a3 (fun x hx e=>by have e:x=w.heap.size:=e;omega)⟩
 ·have a0:=Hd (O.o.trans A)
  have a1:=K.o.keeps A (fun h=>h);have b3:=Hd (HF.o v E)
  obtain⟨m,hm⟩:∃ m:jad,m=⟨3,⟨#[]⟩,v,rs⟩:=⟨_,rfl⟩
  rw[<-hm]at b3 ⊢;have q:=Hd (show m.refs.length=16 by rw[hm];exact b5.o);clear A O K E hm;unfold jad.V;go_wp2_with (refine jae (vs:=m.cells) rfl rfl rfl rfl a1 (by rw[m.cells_len q.o];rfl) (by rw[m.cells_len q.o];exact Tryz.szNode) m.one ?_;intro W8 a2 a3)
  refine bodyPost_ret (jaj rfl rfl rfl (jai W8 _ m q.o a2)) rfl ?_;exact .inr ⟨m,q.o,b3.o,rfl,a0.o.trans' a3 (fun x hx e=>by have e:x=w.heap.size:=e;omega)⟩
theorem jj0{x:vB}(h:jeb x)(hs:x.size<=1000000000):x.size≠0:=fun e=>by
 obtain⟨r,o,q⟩:=h ⟨#[]⟩ (by rw[jkx];exact hs)
 have:=(jdH o).2
 omega
theorem jkL{s:vB}{o n:Nat}(h:cutN s=some (true,o,n)):0 < o:=by
 obtain⟨⟨l⟩⟩:=s
 cases l with
 | nil=>exact absurd (jdH h).1 vI
 | cons a t =>
  have h:cutN ⟨(a :: t).toArray⟩=some (true,o,n):=h;rw[jev]at h
  obtain⟨m,e⟩:=vE (if a.toNat < 192 then a.toNat - 128 else a.toNat - 192)
  rw[<-e]at h;clear e
  by_cases h1:a.toNat < 128
  ·rw[if_pos h1]at h;cases (Prod.mk.inj (bQ h)).1
  rw[if_neg h1]at h
  by_cases h2:m<=55
  ·rw[if_pos h2]at h
   split at h
   ·have:=(Prod.mk.inj (Prod.mk.inj (bQ h)).2).1;omega
   ·cases h
  ·rw[if_neg h2]at h
   split at h
   ·split at h
    ·have:=(Prod.mk.inj (Prod.mk.inj (bQ h)).2).1;omega
    ·cases h
   ·cases h
theorem jwv(w:vW)(hG:ErrT w)(s:vB)(hs:s.size<=400000)(hne:s≠jaz ⟨#[]⟩):vQ 74 #[.string s] w (juQ w s):=by
 cases h:cutN s with
 | none=>exact (jfw w s vO h).mono fun _ _ h=>.inl h
 | some r =>
  obtain⟨b,o,n⟩:=r
  cases b with
  | false=>exact (jnd w s hs hne o n h).mono fun _ _ h=>.inl h
  | true =>
   have E:=jiu h;have E:o+n<=s.size:=E
   by_cases hlt:o+n < s.size
   ·exact (jot w s hs hne o n h hlt).mono fun _ _ h=>.inl h
   have J:o+n=s.size:=vO
   have X:=jkL h
   obtain⟨c,q⟩:=vE (s.extract o (o+n))
   have Z:c.size < s.size:=by rw[q,cL];omega
   obtain⟨xs,z,K,A,O,h4,h5⟩:=joc c.size c (bL _)
   rcases h5 with rfl |⟨hz0,hz⟩
   ·have A:c=catB xs:=by rw[A];exact jkx _
    have Q:∀ w1,vQ 106 #[.string c] w1 fun e w'=>∃ v,e=.returned (.tuple #[v,.int .i64 0])/\SRow w1 w' v xs.length xs:=fun w1=>by
     rw[A];exact job w1 xs K (by rw[<-A];omega) vO
    by_cases l2:xs.length=2
    ·match xs,l2 with
     | [x,y],_ =>
      have H:=O x (by simp);have hy:=O y (by simp);exact jww w s hs hne o n h J c q x y Q vO vO (jj0 (K y (by simp)) vO)
    ·by_cases l17:xs.length=17
     ·exact jtY w s hs hne o n h J c q xs Q l17 (fun x H=>jj0 (K x H) (by have:=O x H;omega)) (fun x H=>by have:=O x H;omega)
     ·exact (jrk w s hs hne o n h J c q xs Q l2 l17).mono fun _ _ h=>.inl h
   ·refine (jnc w s hs hne o n h J c q fun w1 e1=>?_).mono fun _ _ h=>.inl h
    rw[A];exact jvS w1 (hG.ext e1) xs z K (by rw[<-A];omega) vO hz0 hz
end
end Go.Proofs.YtepbencaoiompaaGreatDoor
