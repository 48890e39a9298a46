/- Lemmas. -/
import Derived.Test.YtgppadbgofalpaaGreatDoorPa0
import Derived.Test.YtgppadbgofalpaaGreatDoorPa25
namespace Go.Proofs.YtgppadbgofalpaaGreatDoor
open Tryz
set_option linter.unusedSimpArgs false
set_option linter.unusedVariables false
set_option maxRecDepth 100000
set_option maxHeartbeats 16000000
open Go Go.RowKit
variable (z y:Nat)(W w0 w:vW){p:Fy}{l:List Fy}{i:Nat}{n m:Ai}
theorem jrK(D:Nat->Prop)(b:Nat)(M:Cn)(a:Option Addr)(c rm sb cb:Nat)(es:List (Ce Int))(ck:Nat)(h:Ky D w b M a c rm sb cb es ck)(hl:M.all.length<=1000)(bk:Int)(i:Nat)(v:Au)(r:vB)(hp:Ks M.all bk=some i)(hv:M.all[i]?=some v)(hr:Dr es bk=some (.string r))(key:vB)(nodes:vM)(hT:∀ W,Af w W->vQ 51 #[.pointer (some ⟨sb,0,none⟩),.string r,.string key] W (PL nodes W))(hk:Vi ⟨0,r,key,⟨#[]⟩,nodes⟩)(hs:(Fu ⟨0,r,key,⟨#[]⟩,nodes⟩).size<=65536) :
  vR 15 #[.pointer (some ⟨b,0,none⟩),.int .i64 bk,.string key] w (.tuple #[.string (Fu ⟨0,r,key,⟨#[]⟩,nodes⟩),.int .i64 0]):=by
 have HC:=Hd (GM w D b M a c rm sb cb es ck h hl bk i v r hp hv hr);have HB:=Hd h.blk;have HT:=Hd hT;have a9:key.size<=6:=hk.key;have K:=Hd (fun W nv (hn:Ic W nv nodes)=>WT W ⟨0,r,key,⟨#[]⟩,nodes⟩ nv hn hk hs)
 obtain⟨pb,O⟩:=vE (Fu ⟨0,r,key,⟨#[]⟩,nodes⟩)
 rw[<-O]at K ⊢;clear hT hk hs O;clear h hp hv hr hl;unfold vR vQ;go_in;go_wp2_with fail
 refine HC.o.mono ?_;rintro e w1 ⟨x,rfl,q,h1,h2,hE⟩
 obtain⟨X,ev,cv⟩:=x
 have q:X=v:=q;subst q;have b0:=Hd h2
 obtain⟨a1,c1,A⟩:=h1.1.sl
 obtain⟨a2,c2,H⟩:=h2.1.sl
 have A:ev=_:=A;have H:cv=_:=H;subst A H;have HE:=Hd hE;have b1:=hE.size;clear h1 h2 hE HC;unfold VX.cells;go_wp2_with (first|(refine Di Cp rfl rfl ?_;intro W2 Z a0)|(refine Bv (vs:=[.int .i64 (X.block:Int),.slice a1 X.ents.length c1,.slice a2 X.chgs.length c2,.int .i64 (X.pins:Int)]) rfl rfl rfl rfl Z rfl Bt (by simp[Value.oneCell']) ?_;intro W3 a7 a3))
 refine (GE W3).mono ?_;rintro e w4 ⟨rfl,rfl⟩;have J:Af w W3:=(HE.o.trans a0).trans' a3 fun x hx e=>by have e:x=w1.heap.size:=e;omega
 have a4:=Hd J;have a5:=HB.o.keeps J (fun h=>h);have q4:W3.cell? ⟨b,4,none⟩=some (.pointer (some ⟨sb,0,none⟩)):=a5.cellL rfl;clear a0 a3 Z a7 J a5;go_wp2_with fail
 refine (HT.o W3 a4.o).mono ?_;rintro e w5 ⟨an,cn,rfl,hR⟩;have H5:=Hd (bA (a4.o.trans hR.ext) hR.rd);clear hR;go_wp2_with fail
 refine vH (K.o w5 _ H5.o.2) fun w6 a8=>?_;have H6:=Hd (H5.o.1.trans a8);go_wp2_with fail
 go_ret2
 exact⟨rfl,H6.o⟩
theorem jrL(D:Nat->Prop)(b:Nat)(M:Cn)(a:Option Addr)(c rm sb cb:Nat)(es:List (Ce Int))(ck:Nat)(h:Ky D w b M a c rm sb cb es ck)(hl:M.all.length<=1000)(bk:Int)(i:Nat)(v:Au)(r:vB)(hp:Ks M.all bk=some i)(hv:M.all[i]?=some v)(hr:Dr es bk=some (.string r))(fr to:vB)(limit:Int)(P:vW->Ending->vW->Prop)(hP:∀ W e w',P W e w'->∃ (lv:vV) (m:Bool) (k:Int),e=.returned (.tuple #[lv,.bool m,.int .i64 k]))(hT:∀ W,Af w W->vQ 59 #[.pointer (some ⟨sb,0,none⟩),.string r,.string fr,.string to,.int .i64 limit] W (P W)) :
  vQ 19 #[.pointer (some ⟨b,0,none⟩),.int .i64 bk,.string fr,.string to,.int .i64 limit] w fun e w'=>∃ W,Af w W/\P W e w':=by
 have HC:=Hd (GM w D b M a c rm sb cb es ck h hl bk i v r hp hv hr);have HB:=Hd h.blk;have HT:=Hd hT;have a5:=Hd hP;clear hT hP;clear h hp hv hr hl;unfold vQ;go_in;go_wp2_with fail
 refine HC.o.mono ?_;rintro e w1 ⟨x,rfl,q,h1,h2,hE⟩
 obtain⟨K,ev,cv⟩:=x
 have q:K=v:=q;subst q;have a8:=Hd h2
 obtain⟨a1,c1,A⟩:=h1.1.sl
 obtain⟨a2,c2,H⟩:=h2.1.sl
 have A:ev=_:=A;have H:cv=_:=H;subst A H;have HE:=Hd hE;have a9:=hE.size;clear h1 h2 hE HC;unfold VX.cells;go_wp2_with (first|(refine Di Cp rfl rfl ?_;intro W2 O X)|(refine Bv (vs:=[.int .i64 (K.block:Int),.slice a1 K.ents.length c1,.slice a2 K.chgs.length c2,.int .i64 (K.pins:Int)]) rfl rfl rfl rfl O rfl Bt (by simp[Value.oneCell']) ?_;intro Z a7 a0))
 refine (GE Z).mono ?_;rintro e w4 ⟨rfl,rfl⟩;have J:Af w Z:=(HE.o.trans X).trans' a0 fun x hx e=>by have e:x=w1.heap.size:=e;omega
 have a3:=Hd J;have a4:=HB.o.keeps J (fun h=>h);have q4:Z.cell? ⟨b,4,none⟩=some (.pointer (some ⟨sb,0,none⟩)):=a4.cellL rfl;clear X a0 O a7 J a4;go_wp2_with fail
 refine (HT.o Z a3.o).mono ?_;intro e w5 hR
 obtain⟨lv,m,k,rfl⟩:=a5.o _ _ _ hR
 have H5:=Hd hR;clear hR;go_wp2_with fail
 refine bodyPost_ret (results_tmp3 rfl _ _ _) rfl ?_
 exact⟨Z,a3.o,H5.o⟩
theorem Ig:(prog.info? 38).map (·.size)=some 5:=vY
theorem Tt:Xg (prog.underlying 38)=true:=vY
theorem zF(b:Nat)(vs:List vV)(hl:vs.length=5){T:TypeId}{fz:Nat × Nat}(hB:Ae W b (.cells vs.toArray T fz)):(loadVar 38 ⟨b,0,none⟩).run prog W=.ok (.agg vs.toArray) W:=by
 obtain⟨A,e⟩:=Yd Tt
 have:(Instr.loadAt 38 (.pointer (some ⟨b,0,none⟩))).run prog W=.ok (.agg vs.toArray) W:=Yg e (by rw[hl];exact Ig) (fun j v q=>by rw[Go.WideShapes.add_plain,bX];exact hB.cellL q)
 simpa [Instr.loadAt,Instr.sureAddr,bQ,Result.andThen]using this
theorem ZP(D:Nat->Prop)(b:Nat)(M:Cn)(a:Option Addr)(c rm sb cb:Nat)(es:List (Ce Int))(ck:Nat)(h:Ky D w b M a c rm sb cb es ck)(hl:M.all.length<=1000)(bk:Int)(i:Nat)(v:Au)(r:vB)(hp:Ks M.all bk=some i)(hv:M.all[i]?=some v)(hr:Dr es bk=some (.string r))(hcl:v.chgs.length<=1000) :
  vQ 10 #[.pointer (some ⟨b,0,none⟩),.int .i64 bk] w fun e w'=>∃ cv,e=.returned (.tuple #[.agg #[.int .i64 0,.int .i64 0,.int .i64 bk,.string r,cv],.int .i64 0])/\Af w w'/\Jb w' cv v.chgs:=by
 have HC:=Hd (fun W (e:Af w W)=>GM W D b M a c rm sb cb es ck (h.ext e) hl bk i v r hp hv hr);have HB:=Hd h.blk;have b4:=Hd hcl;clear hcl;clear h hp hv hr hl;unfold vQ;go_in;go_wp2_with fail
 have q:=(Aa w).alloc (.cells #[.int .i64 0,.int .i64 0,.int .i64 0,.string ⟨#[]⟩,.slice none 0 0] 38);have A:=Ae.new w (.cells #[.int .i64 0,.int .i64 0,.int .i64 0,.string ⟨#[]⟩,.slice none 0 0] 38);generalize w.alloc (.cells #[.int .i64 0,.int .i64 0,.int .i64 0,.string ⟨#[]⟩,.slice none 0 0] 38)=w0 at q A ⊢;have H0:=Hd (bA q A);have b8:=A.lt;clear A;refine (HC.o w0 q).mono ?_;rintro e w1 ⟨x,rfl,X,h1,h2,hE⟩
 obtain⟨Z,ev,cv⟩:=x
 have X:Z=v:=X;subst X;have b5:=Hd h2
 obtain⟨a1,c1,a0⟩:=h1.1.sl
 obtain⟨a2,c2,a3⟩:=h2.1.sl
 have a0:ev=_:=a0;have a3:cv=_:=a3;subst a0 a3;have HE:=Hd hE;have b9:=hE.size;clear h1 h2 hE HC;unfold VX.cells;go_wp2_with (first|(refine Di Cp rfl rfl ?_;intro W2 a8 H)|(refine Bv (vs:=[.int .i64 (Z.block:Int),.slice a1 Z.ents.length c1,.slice a2 Z.chgs.length c2,.int .i64 (Z.pins:Int)]) rfl rfl rfl rfl a8 rfl Bt (by simp[Value.oneCell']) ?_;intro W3 a9 J))
 refine (GE W3).mono ?_;rintro e w4 ⟨rfl,rfl⟩;have a4:Af w W3:=(q.trans (HE.o.trans H)).trans' J fun x hx e=>by have e:x=w1.heap.size:=e;have:=q.size;omega
 have b0:=Hd a4;have b1:=HB.o.keeps a4 (fun h=>h);have q4:W3.cell? ⟨b,4,none⟩=some (.pointer (some ⟨sb,0,none⟩)):=b1.cellL rfl;have q2:W3.cell? ⟨w1.heap.size,2,none⟩=some (.slice a2 Z.chgs.length c2):=a9.cellL rfl;have b2:=(H0.o.2.keeps HE.o (fun h=>h)).keeps (H.trans' J fun x hx e=>by have e:x=w1.heap.size:=e;omega) (fun h=>h);have O:=(b5.o.1.ext HE.o).ext (H.trans' J fun x hx e=>by have e:x=w1.heap.size:=e;omega);have H3:=Hd (bA b2 O);clear H J a8 a9 a4 b1 b2 O q;go_wp2_with fail
 refine (eL W3 _ _ H3.o.2 b4.o).mono ?_;rintro e w5 ⟨v5,rfl,a7,K⟩
 obtain⟨a5,c5,b6⟩:=a7.1.sl
 subst b6;have H5:=Hd (bA (b0.o.trans K) (bA (H3.o.1.keeps K (fun h=>h)) (bA a7 K.size)));clear K a7;go_wp2_with (refine Bv (vs:=[.int .i64 0,.int .i64 0,.int .i64 bk,.string r,.slice a5 Z.chgs.length c5]) rfl rfl rfl rfl H5.o.2.1 rfl Ig (by simp[Value.oneCell']) ?_;intro W6 b7 b3)
 refine bodyPost_ret (DQ rfl rfl rfl (zF W6 w.heap.size _ rfl b7)) rfl ?_;have c0:=b0.o.size
 refine⟨_,rfl,H5.o.1.trans' b3 fun x hx e=>by have e:x=w.heap.size:=e;omega,H5.o.2.2.1.1.keeps b3 fun b hb e=>?_⟩
 have h1:=(H5.o.2.2.1.2 b hb).1;have h2:=H3.o.1.lt;have e:b=w.heap.size:=e;omega
theorem jpV(D:Nat->Prop)(b:Nat)(M:Cn)(a:Option Addr)(c rm sb cb mb tg tc:Nat)(es:List (Ce Int))(ck:Nat)(h:Ky D w b M a c rm sb cb es ck)(key val:vB)(hc:Ox w cb mb tg tc key val) :
  vR 24 #[.pointer (some ⟨b,0,none⟩)] w (.int .i64 1):=by
 have H:=Hd (bA h hc);clear h hc;unfold vR vQ;go_in;go_wp2_with fail
 refine vC (CM w D b M a c rm sb cb es ck H.o.1) fun O q=>?_;have q5:O.cell? ⟨b,5,none⟩=some (.pointer (some ⟨cb,0,none⟩)):=(H.o.1.ext q).blk.cellL rfl;have A:Ox O cb mb tg tc key val:=by obtain⟨g1,Z,J,g3⟩:=H.o.2;exact⟨g1.keeps q (fun h=>h),Z,J,g3.keeps q (fun h=>h)⟩
 have X:=Hd (bA q A);clear q A;go_wp2_with fail
 refine (juR O cb mb tg tc key val X.o.2).mono ?_;rintro e w3 ⟨ak,a0,rfl,K⟩;have H3:=Hd (X.o.1.trans K);clear K;go_wp2_with fail
 go_ret
 exact⟨rfl,H3.o⟩
theorem jpW(D:Nat->Prop)(b:Nat)(M:Cn)(a:Option Addr)(c rm sb cb:Nat)(es:List (Ce Int))(ck:Nat)(h:Ky D w b M a c rm sb cb es ck)(hl:M.all.length<=1000)(bk:Int)(i:Nat)(v:Au)(r:vB)(hp:Ks M.all bk=some i)(hv:M.all[i]?=some v)(hr:Dr es bk=some (.string r))(fr to t:vB)(limit:Int)(hft:Op.bytesLess fr.toList to.toList=true)(hR:∀ W,Af w W->vQ 59 #[.pointer (some ⟨sb,0,none⟩),.string r,.string fr,.string to,.int .i64 limit] W fun e w'=>(∃ la n lc,e=.returned (.tuple #[.slice la n lc,.bool false,.int .i64 0]))/\Af W w')
  (hBd:∀ W,Af w W->vQ 60 #[.pointer (some ⟨sb,0,none⟩),.string r,.agg #[.string fr,.string to]] W fun e w'=>∃ g c,e=.returned (.tuple #[.slice (some ⟨g,0,none⟩) 1 c,.int .i64 0])/\Af W w'/\Ic w' (.slice (some ⟨g,0,none⟩) 1 c) [t])
  (hk:Vi ⟨1,r,fr,to,[t]⟩) (hs:(Fu ⟨1,r,fr,to,[t]⟩).size<=65536) :
  vR 18 #[.pointer (some ⟨b,0,none⟩),.int .i64 bk,.string fr,.string to,.int .i64 limit] w (.tuple #[.string (Fu ⟨1,r,fr,to,[t]⟩),.bool false,.int .i64 0]):=by
 have HC:=Hd (GM w D b M a c rm sb cb es ck h hl bk i v r hp hv hr);have HB:=Hd h.blk;have HR:=Hd hR;have b0:=Hd hBd;have b3:fr.size<=6:=hk.key;have b4:to.size<=6:=hk.to;have O:=Hd (fun W nv (hn:Ic W nv [t])=>WT W ⟨1,r,fr,to,[t]⟩ nv hn hk hs)
 obtain⟨pb,X⟩:=vE (Fu ⟨1,r,fr,to,[t]⟩)
 rw[<-X]at O ⊢;clear hR hBd hk hs X;clear h hp hv hr hl;unfold vR vQ;go_in;go_wp2_with fail
 refine HC.o.mono ?_;rintro e w1 ⟨x,rfl,A,h1,h2,hE⟩
 obtain⟨Z,ev,cv⟩:=x
 have A:Z=v:=A;subst A;have b5:=Hd h2
 obtain⟨a1,c1,H⟩:=h1.1.sl
 obtain⟨a2,c2,J⟩:=h2.1.sl
 have H:ev=_:=H;have J:cv=_:=J;subst H J;have HE:=Hd hE;have b6:=hE.size;clear h1 h2 hE HC;unfold VX.cells;go_wp2_with (first|(refine Di Cp rfl rfl ?_;intro W2 a0 a3)|(refine Bv (vs:=[.int .i64 (Z.block:Int),.slice a1 Z.ents.length c1,.slice a2 Z.chgs.length c2,.int .i64 (Z.pins:Int)]) rfl rfl rfl rfl a0 rfl Bt (by simp[Value.oneCell']) ?_;intro W3 b1 a4))
 refine (GE W3).mono ?_;rintro e w4 ⟨rfl,rfl⟩;have K:Af w W3:=(HE.o.trans a3).trans' a4 fun x hx e=>by have e:x=w1.heap.size:=e;omega
 have a5:=Hd K;have a7:=HB.o.keeps K (fun h=>h);have q4:W3.cell? ⟨b,4,none⟩=some (.pointer (some ⟨sb,0,none⟩)):=a7.cellL rfl;clear a3 a4 a0 b1 K a7;go_wp2_with fail
 refine (HR.o W3 a5.o).mono ?_;rintro e w5 ⟨⟨la,n,lc,rfl⟩,q⟩;have q:=a5.o.trans q;have q5:w5.cell? ⟨b,4,none⟩=some (.pointer (some ⟨sb,0,none⟩)):=(HB.o.keeps q (fun h=>h)).cellL rfl;have H5:=Hd q;clear q;go_wp2_with fail
 refine (b0.o w5 H5.o).mono ?_;rintro e w6 ⟨g,c6,rfl,a8,a9⟩;have H6:=Hd (bA (H5.o.trans a8) a9);clear a8 a9;go_wp2_with fail
 refine vH (O.o w6 _ H6.o.2) fun w7 b2=>?_;have H7:=Hd (H6.o.1.trans b2);go_wp2_with fail
 refine bodyPost_ret (results_tmp3 rfl _ _ _) rfl ?_
 exact⟨rfl,H7.o⟩
def kA:vB:=⟨#[97]⟩
def kB:vB:=⟨#[98]⟩
def Ps:vB:=⟨#[49]⟩
def Jz:vL:=[(kA,Ps)]
def Jm:List Bk:=[⟨kA,Ps,false⟩]
def Xp:Ai:=⟨1,Ci kA,Ps,List.replicate 16 ⟨#[]⟩⟩
def Ep:vB:=Cr Xp
theorem qI:Fi [] Jm=0:=by decide +kernel
theorem qK:Hi (Lq [] Jm)=Jz:=by decide +kernel
theorem KH:Dv Jz=0:=by decide +kernel
theorem jtc(h1:n.kind=m.kind)(h2:n.path=m.path)(h3:n.value=m.value)(h4:n.refs=m.refs):n=m:=by
 cases n;cases m;simp_all
theorem UC:Bm (An 12) (Em Jz)=Xp:=jtc (by decide +kernel) (by decide +kernel) (by decide +kernel) (by decide +kernel)
theorem nK:(Ds Jz).text=Ep:=by show Cr (Bm (An 12) (Em Jz))=_;rw[UC];rfl
theorem jvj:Ku [] Jz=Jm:=by
 unfold Ku;rw[if_pos ⟨OW,KH⟩];unfold Jz Jm;simp[Fs]
theorem OX:Ht Ep Xp:=⟨rfl,12,by rw[<-UC];exact (good 12 (Em Jz) (Ou (Fr KH))).1⟩
theorem XR:Gc Xp=[]:=by
 unfold Gc;refine iQ.2 fun r e=>?_;have e:r∈List.replicate 16 (⟨#[]⟩:vB):=e;rw[(List.mem_replicate.1 e).2];exact FI
theorem wE:ky Ep≠ky Gl:=by
 unfold ky;decide +kernel
theorem nJ:Ep.size<=1000:=by decide +kernel
theorem NL:Gi (Bs 12) Xp:=by rw[<-UC];exact (good 12 (Em Jz) (Ou (Fr KH))).1
theorem sL:Be (Pu z) (ky Ep)=none:=by
 rw[DR];intro x e;have e:x∈[(ky Gl,z,(⟨Gl,[],0,1⟩:It))]:=e;rw[bL.1 e];exact wE
noncomputable def Lx(z y:Nat):vT:=Pu z++[(ky Ep,y,⟨Ep,[],0,1⟩)]
theorem OD:Be (Lx z y) (Ak Ep).data.toList=some (ky Ep,y,⟨Ep,[],0,1⟩):=by
 show Be (Lx z y) (ky Ep)=_;unfold Lx;have e:=sL z;unfold Be at e ⊢;rw[iT,e]
 simp
theorem jvp:DY Ux (Jj 2)=Ak Gl:=rfl
def Qe:Cn:=⟨2,2,[⟨0,[],[],0⟩,⟨1,Jz,Jm,0⟩]⟩
def AD:Cn:=⟨2,2,[⟨0,[],[],0⟩,⟨1,Jz,Jm,1⟩]⟩
theorem jxX:Gu (Jj 2) Jm=(Qe,1,0):=by
 have e:(Hw (Jj 2)).ents=[]:=rfl;unfold Gu;rw[e,if_neg (by rw[qI];simp),if_neg vI,qK,jvj];rfl
theorem jxY:Ek Qe (-1)=(AD,1,0):=by
 unfold Ek;rfl
theorem jsk:Kt AD 1=(Qe,0):=by
 unfold Kt;rfl
theorem FH:Ks Qe.all 1=some 1:=rfl
noncomputable def Gb:List (Ce Int):=[(0,.string (Ak Gl),0),(1,.string (Ak Ep),1)]
theorem qJ:Rk Ux (Jj 2) (Ak Ep) 1=Gb:=rfl
theorem jvi:∀ x∈Ux,Bx (Jj 2).all x.1=true:=by
 intro x e;have e:x∈[((0:Int),Value.string (Ak Gl),0)]:=e;rw[bL.1 e];rfl
theorem NK:∀ x∈Gb,Bx Qe.all x.1=true:=by
 intro x e;have e:x∈[((0:Int),Value.string (Ak Gl),0),((1:Int),Value.string (Ak Ep),1)]:=e;rcases bT.1 e with rfl|e
 ·rfl
 ·rw[bL.1 e];rfl
theorem FT:Dr Gb 1=some (.string (Ak Ep)):=rfl
theorem jvk:Dr Gb 5=none:=rfl
theorem kS:Bz (Ds [])=[Gl]:=by decide +kernel
theorem kT:(Ds []).text=Gl:=by decide +kernel
theorem jvo:Ru (Pu z) []:=by
 refine⟨OW,fun x e=>?_⟩
 rw[kS,bL]at e;subst e
 exact⟨(ky Gl,z,⟨Gl,[],0,1⟩),by unfold Be Pu;simp,rfl⟩
theorem jvn(S:vT):Hj S (Gw [] Jm)=[Ep]:=by
 have h:Gw [] Jm=Jz:=qK;have e:Ej (Cu (An 12) (Em Jz))=[]:=by decide +kernel
 unfold Hj;rw[h,nK,UQ KH,e];rfl
theorem jrC(q:Ha w)(he:Gj w)(s bm z:Nat)(hA:Kf w0 s bm 100 (Pu z) w 1)(hw0:w0.heap.size<=w.heap.size)(u:vV)(hu:Jb w u Jm) :
  vQ 37 #[.pointer (some ⟨s,0,none⟩),.string (Ak Gl),u] w (QB w0 w s bm 100 (Pu z) 1 (fun _=>False) (fun t J=>t=Ak Ep/\∃ y,J=Lx z y)):=by
 have hb:=hA.bds vI;have H:=lK w q he s bm 100 (Pu z) hA.st hA.all [] (jvo z) u Jm hu vI (fun c q=>by have q:c∈[(⟨kA,Ps,false⟩:Bk)]:=q;rw[bL.1 q];decide) vI vI hb.1 hb.2.1 hb.2.2
 rw[show Cc []=Ak Gl by unfold Cc;rw[kT]]at H;refine H.mono ?_;rintro e w' (⟨h,_⟩|⟨_,w1,A,h⟩)
 ·exact absurd qI h
 rw[jvn]at h;rcases h with⟨k,hwy,_,_,_⟩|⟨top,G,M,htop,hY⟩
 ·refine absurd (hwy.imp (fun h=>⟨h.1,h.2.elim⟩) id) (rE (k:=k) w OX XR (by show ((1:Nat):Int)+1<=100;decide))
 ·obtain rfl:Ep=top:=bV htop;obtain⟨y,K⟩:=rD w OX XR hY.given hY.path (sL z);refine .inr ⟨Ak Ep,_,⟨rfl,y,by rw[K];rfl⟩,hY.res,((hA.ext A).add (bF hw0 A.size) vI vI hY).mono vI,(A.mono fun _ _ e=>e.elim).trans hY.kp,fun x O=>(hY.newS x O).imp id fun h=>bF A.size h⟩
theorem MO{l:List Fy}:∀ i,Dv (Jt l i)=0
 |0=>OW
 |i+1=>by
  cases h:l[i]? with
  |none =>
   have e:l.length<=i:=List.getElem?_eq_none_iff.1 h
   have:Jt l (i+1)=Jt l i:=by unfold Jt;rw[cF e,cF vO]
   rw[this];exact MO i
  |some p =>
   rw[TP h];unfold LF;split
   ·rename_i h0;exact Ye h0.2
   ·exact MO i
noncomputable def Cw(l:List Fy):Nat->vM
 |0=>[Gl]
 |i+1=>Cw l i++match l[i]? with
  |some p=>if p.k=0/\Fi (Jt l i) p.cs=0 then Nf (Gw (Jt l i) p.cs)else []
  |none=>[]
theorem ME(h:l[i]?=some p)(h1:p.k=0)(h2:Fi (Jt l i) p.cs=0):Cw l (i+1)=Cw l i++Nf (Gw (Jt l i) p.cs)/\Jt l (i+1)=Gw (Jt l i) p.cs:=by
 refine⟨?_,?_⟩
 ·show Cw l i++_=_;rw[h];show Cw l i++(if _ then _ else _)=_;rw[if_pos ⟨h1,h2⟩]
 ·rw[TP h];unfold LF;rw[if_pos ⟨h1,h2⟩]
theorem JE(h:l[i]?=some p)(h1:¬(p.k=0/\Fi (Jt l i) p.cs=0)):Cw l (i+1)=Cw l i/\Jt l (i+1)=Jt l i:=by
 refine⟨?_,?_⟩
 ·show Cw l i++_=_;rw[h];show Cw l i++(if _ then _ else _)=_;rw[if_neg h1,cB]
 ·rw[TP h];unfold LF;rw[if_neg h1]
theorem YZ:Nf []=[Gl]:=by
 unfold Nf;rw[kS];decide +kernel
theorem TV{l:List Fy}:∀ {i j:Nat},j<=i->i<=l.length->∀ t∈Nf (Jt l j),t∈Cw l i
 |0,j,hj,_,t,ht=>by
  obtain rfl:j=0:=vO
  have:Jt l 0=[]:=rfl
  rw[this,YZ]at ht;exact ht
 |i+1,j,hj,hi,t,ht=>by
  by_cases e:j=i+1
  ·subst e
   obtain⟨p,H⟩:∃ p,l[i]?=some p:=⟨_,bB vO⟩
   by_cases h:p.k=0/\Fi (Jt l i) p.cs=0
   ·obtain⟨q,A⟩:=ME H h.1 h.2
    rw[A]at ht;rw[q];exact List.mem_append_right _ ht
   ·obtain⟨q,A⟩:=JE H h
    rw[A]at ht;rw[q];exact TV (bP i) vO t ht
  ·exact gL _ (TV vO vO t ht)
theorem YG{l:List Fy}:∀ i,LE (Cw l i)
 |0=>fun t e=>by
  have e:t∈[Gl]:=e;rw[bL.1 e]
  exact⟨_,GI⟩
 |i+1=>fun t e=>by
  rcases bR.1 e with h|h
  ·exact YG i t h
  ·split at h
   ·split at h
    ·rename_i h0
     exact E_ (Ye h0.2) t h
    ·cases h
   ·cases h
theorem aV{l:List Fy}:∀ i,(Cw l i).length<=1+121*i
 |0=>bP _
 |i+1=>by
  have h:=aV (l:=l) i;show (Cw l i++_).length<=_;rw[bK];split
  ·split
   ·rename_i h0
    have:=aW (l:=Gw (Jt l i) _) (Ye h0.2)
    omega
   ·show _+0<=_;omega
  ·show _+0<=_;omega
theorem v_{M:Cn}(h:Ew M):∃ i,Ks M.all ((Hw M).block:Int)=some i/\M.all[i]?=some (Hw M):=by
 obtain⟨i,v,A,q⟩:=jsu (SX h)
 refine⟨i,A,?_⟩
 obtain⟨u,H,e⟩:=JB A
 rw[q]at H;obtain rfl:=bV H;have J:(M.all.map Au.block).Nodup:=by have:=h.rise;rw[List.nodup_iff_pairwise_ne,gI];exact this.imp fun K e=>by omega
 have:=Pk J (bD q) h.newest.1 vO
 rw[q,this]
theorem JF.first{U:vM}(hU:Gl∈U){w W:vW}{s bm z n:Nat}{room:Int}(h:Kf w s bm room (Pu z) W n):JF U [(0,[])] Ux (Pu z):=by
 refine⟨⟨fun x A=>?_,h.cnt,h.full⟩,by unfold Ux;simp,fun r=>?_,fun q H=>⟨0,?_⟩⟩
 ·have A:x∈[(ky Gl,z,(⟨Gl,[],0,1⟩:It))]:=A;rw[bL.1 A];refine⟨Gl,hU,rfl,rfl,?_⟩;rw[show Bo Gl=Db from BW W (Wg GI) GI];exact WQ.symm
 ·unfold Ux Qx;rw[List.countP_singleton];by_cases e:r=Ak Gl;{(have:Be (Pu z) r.data.toList=some (ky Gl,z,⟨Gl,[],0,1⟩):=by rw[e];unfold Be Pu ky;simp);rw[this];show ((if _ then 1 else 0:Nat):Int)<=1;split<;>decide};(have J:AI r (.string (Ak Gl))=false:=by simp[AI];exact fun h=>e h.symm);rw[J];show (0:Int)<=_;cases ha:Be (Pu z) r.data.toList with| none=>exact jG _| some x=>exact h.cnt.held x (Fa ha).1
 ·rw[bL.1 H];unfold Ux Cc;rw[kT];simp
section
attribute [local go_sem] Oper.semAt_some
theorem jvq(v:vV)(l:List Fy)(hv:Zs w v l)(hn:l.length<=9223372036854775807)(hs:KC l) :
  vQ 6 #[v,.slice none 0 0] w (II w ((∀ p∈l,Ll p.cs=true)/\l.length<=10)):=by
 have X:=Hd (fun W (e:Af w W)=>jx0 W v l (hv.ext e) hn hs)
 obtain⟨a,c,rfl⟩:=hv.sl;clear hv hs;unfold vQ;go_in;go_wp2_with fail
 go_loopw [5] (fun i wr=>i=.int .i64 0/\Af w wr) (fun _ _=>0)
 case atStart=>exact⟨rfl,Aa w⟩
 case round =>obtain⟨rfl,J⟩:=hrel;(have K:=Hd J;clear J;go_wp2_with fail);refine (X.o wr K.o).mono ?_;rintro e w2 ⟨⟨r,rfl,O⟩,A⟩;have q:=Hd (K.o.trans A);have Z:=Hd O;clear A O;cases r with| false =>(go_wp2_with fail);go_ret;exact⟨⟨_,rfl,fun h=>by cases h⟩,q.o⟩| true =>by_cases h10:l.length<=10;{have b3:(l.length:Int)<=10:=vO;(have H:=Hd h10;clear h10;go_wp2_with fail);go_ret;exact⟨⟨_,rfl,fun _=>⟨Z.o (by first|rfl|trivial),H.o⟩⟩,q.o⟩};have b3:¬(l.length:Int)<=10:=vO;(clear h10;go_wp2_with fail);go_ret;exact⟨⟨false,rfl,fun h=>by cases h⟩,q.o⟩
theorem xB(b rm sb cb bm:Nat)(U:vM)(L:vL)(M:Cn)(es:List (Ce Int))(S:vT)(i:Nat)(h:Nl w0 w b rm sb cb bm U [] L M es S i)(hi:i<=15)(k n:Int)(hk:k≠0)(va:Option Addr)(vn vc:Nat) :
  vQ 8 #[.pointer (some ⟨b,0,none⟩),.agg #[.int .i64 k,.slice va vn vc,.int .i64 n]] w fun e w'=>∃ (x g:Int),e=.returned (.tuple #[.int .i64 x,.int .i64 g])/\Ad (Tf b rm bm S) w w'/\∃ M' es' S',Nl w0 w' b rm sb cb bm U [] L M' es' S' (i+1)/\M'.next=M.next:=by
 have q:=(Aa w).alloc (.cells #[.int .i64 k,.slice va vn vc,.int .i64 n] 33);have A:=Ae.new w (.cells #[.int .i64 k,.slice va vn vc,.int .i64 n] 33);have Z:=A.cell (i:=0) (v:=.int .i64 k) vF;have q2:=A.cell (i:=2) (v:=.int .i64 n) vF;have O:=Hd (q.mono (G:=Tf b rm bm S) fun _ _ e=>e.elim);have X:=Hd (bA (QZ w0 _ b rm sb cb bm U L M es S i (h.grow q) hi n) (wI w0 _ b rm sb cb bm U L M es S i (h.grow q) hi n));clear A q h hi;unfold vQ;go_in
 by_cases h1:k=1
 ·subst h1;(go_wp2_with fail);(refine X.o.1.mono ?_;rintro e w' ⟨x,g,rfl,H,J⟩;have K:=Hd (bA (O.o.trans H) J);clear H J;go_wp2_with fail);go_ret2;exact⟨_,_,rfl,K.o⟩
 ·(go_wp2_with fail);(refine X.o.2.mono ?_;rintro e w' ⟨g,rfl,H,J⟩;have K:=Hd (bA (O.o.trans H) J);clear H J;go_wp2_with fail);go_ret2;exact⟨_,_,rfl,K.o⟩
theorem jx2(b rm sb cb bm:Nat)(U:vM)(X:List (Int × vL))(L:vL)(M:Cn)(es:List (Ce Int))(S:vT)(i:Nat)(h:Nl w0 w b rm sb cb bm U X L M es S i)(hi:i<=15)(v:Au)(hv:Hw M=v) :
  vQ 10 #[.pointer (some ⟨b,0,none⟩),.int .i64 (v.block:Int)] w fun e w'=>∃ cv,e=.returned (.tuple #[.agg #[.int .i64 0,.int .i64 0,.int .i64 (v.block:Int),.string (Cc L),cv],.int .i64 0])/\Af w w'/\Jb w' cv v.chgs:=by
 obtain⟨D,a,c,Z,n,A,hn⟩:=h.inv
 obtain⟨j,H,J⟩:=v_ h.ok
 obtain⟨k,K⟩:=h.jf.new _ bO
 have O:=h.len;have q:=(h.ok.ver _ h.ok.newest.1).chgs;rw[hv]at H J K q;exact ZP w D b M a c rm sb cb es Z A.m vO (v.block:Int) j v (Cc L) H J (RL A.kn K) vO
end
