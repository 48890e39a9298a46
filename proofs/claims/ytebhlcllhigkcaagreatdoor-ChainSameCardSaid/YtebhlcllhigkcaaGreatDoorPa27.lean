/- Lemmas. -/
import Derived.Test.YtebhlcllhigkcaaGreatDoorPa0
import Derived.Test.YtebhlcllhigkcaaGreatDoorPa26
namespace Go.Proofs.YtebhlcllhigkcaaGreatDoor
open Go.Proofs.Tryz
set_option linter.unusedSimpArgs false
set_option linter.unusedVariables false
set_option maxRecDepth 100000
set_option maxHeartbeats 16000000
variable (W0 w0 w W:vW)(to key val:vB)(b1 wb b z y k cb mb:Nat){a:Act}{p:Eu}{pre lb tmps:Array vV}{F M:Bd}{assign body:Code}{n m room limit:Int}{es:List (Ce Int)}{l:List Eu}{t i g sb bm N c rm ck:Nat}{P:Program}{L:vL}{U nodes:vM}{S:vT}{v1 v2 v3 x2 x3 x4 v:vV}{W' w1:vW}
section
open Go Go.RowKit
theorem jT(D:Nat->Prop)(b:Nat)(M:Dm)(a:Option Addr)(c rm sb cb:Nat)(es:List (Ce Int))(ck:Nat)(h:Kk D w b M a c rm sb cb es ck)(hl:M.all.length<=1000)(bk:Int)(i:Nat)(v:Au)(r:vB)(hp:Jp M.all bk=some i)(hv:M.all[i]?=some v)(hr:Cp es bk=some (.string r))(key:vB)(nodes:vM)(hT:∀ W,Af w W->vQ 42 #[sb,r,key] W (IR nodes W))(hk:Vc ⟨0,r,key,⟨#[]⟩,nodes⟩)(hs:(Fe ⟨0,r,key,⟨#[]⟩,nodes⟩).size<=65536):vR 11 #[b,.int .i64 bk,key] w (.tuple #[Fe ⟨0,r,key,⟨#[]⟩,nodes⟩,qa]):=by
 have HC:=J (EY w D b M a c rm sb cb es ck h hl bk i v r hp hv hr);have HB:=J h.blk;have HT:=J hT;have b0:key.size<=6:=hk.key;have O:=J (fun W nv (hn:Ie W nv nodes)=>XS W ⟨0,r,key,⟨#[]⟩,nodes⟩ nv hn hk hs)
 obtain⟨pb,X⟩:=vE (Fe ⟨0,r,key,⟨#[]⟩,nodes⟩)
 rw[<-X]at O ⊢;clear hT hk hs X;clear h hp hv hr hl;unfold vR vQ;go_in;go_wp2_with fail
 refine HC.o.mono ?_;rintro e w1 ⟨x,rfl,q,h1,h2,hE⟩
 obtain⟨Z,ev,cv⟩:=x
 have q:Z=v:=q;subst q;have b1:=J h2
 obtain⟨a1,c1,A⟩:=h1.1.sl
 obtain⟨a2,c2,H⟩:=h2.1.sl
 have A:ev=_:=A;have H:cv=_:=H;subst A H;have HE:=J hE;have b2:=hE.size;clear h1 h2 hE HC;unfold VX.cells;go_wp2_with (first|(refine Di Cb rfl rfl ?_;intro W2 a0 a3)|(refine Bt (vs:=[(Z.block:Int),.slice a1 Z.ents.length c1,.slice a2 Z.chgs.length c2,(Z.pins:Int)]) rfl rfl rfl rfl a0 rfl Bo zc ?_;intro W3 a8 a4))
 refine (EP W3).mono ?_;rintro e w4 ⟨rfl,rfl⟩;have K:Af w W3:=(HE.o.trans a3).trans' a4 kJ
 have a5:=J K;have a7:=HB.o.keeps K kI;have q4:W3.cell? ⟨b,4,none⟩=some (.pointer (some sb)):=a7.cellL rfl;clear a3 a4 a0 a8 K a7;go_wp2_with fail
 refine (HT.o W3 a5.o).mono ?_;rintro e w5 ⟨an,cn,rfl,hR⟩;have H5:=J (bA (a5.o.trans hR.ext) hR.rd);clear hR;go_wp2_with fail
 refine vH (O.o w5 _ H5.o.2) fun w6 a9=>?_;have H6:=J (H5.o.1.trans a9);go_wp2_with fail
 go_ret2
 exact⟨rfl,H6.o⟩
theorem o9(D:Nat->Prop)(b:Nat)(M:Dm)(a:Option Addr)(c rm sb cb:Nat)(es:List (Ce Int))(ck:Nat)(h:Kk D w b M a c rm sb cb es ck)(hl:M.all.length<=1000)(bk:Int)(i:Nat)(v:Au)(r:vB)(hp:Jp M.all bk=some i)(hv:M.all[i]?=some v)(hr:Cp es bk=some (.string r))(fr to:vB)(limit:Int)(P:vW->Ending->vW->Prop)(hP:∀ W e w',P W e w'->∃ (lv:vV) (m:Bool) (k:Int),e=.returned (.tuple #[lv,m,.int .i64 k]))(hT:∀ W,Af w W->vQ 52 #[sb,r,fr,to,.int .i64 limit] W (P W)):vQ 16 #[b,.int .i64 bk,fr,to,.int .i64 limit] w fun e w'=>∃ W,Af w W/\P W e w':=by
 have HC:=J (EY w D b M a c rm sb cb es ck h hl bk i v r hp hv hr);have HB:=J h.blk;have HT:=J hT;have a5:=J hP;clear hT hP;clear h hp hv hr hl;unfold vQ;go_in;go_wp2_with fail
 refine HC.o.mono ?_;rintro e w1 ⟨x,rfl,q,h1,h2,hE⟩
 obtain⟨O,ev,cv⟩:=x
 have q:O=v:=q;subst q;have a8:=J h2
 obtain⟨a1,c1,A⟩:=h1.1.sl
 obtain⟨a2,c2,H⟩:=h2.1.sl
 have A:ev=_:=A;have H:cv=_:=H;subst A H;have HE:=J hE;have a9:=hE.size;clear h1 h2 hE HC;unfold VX.cells;go_wp2_with (first|(refine Di Cb rfl rfl ?_;intro W2 X Z)|(refine Bt (vs:=[(O.block:Int),.slice a1 O.ents.length c1,.slice a2 O.chgs.length c2,(O.pins:Int)]) rfl rfl rfl rfl X rfl Bo zc ?_;intro W3 a7 a0))
 refine (EP W3).mono ?_;rintro e w4 ⟨rfl,rfl⟩;have K:Af w W3:=(HE.o.trans Z).trans' a0 kJ
 have a3:=J K;have a4:=HB.o.keeps K kI;have q4:W3.cell? ⟨b,4,none⟩=some (.pointer (some sb)):=a4.cellL rfl;clear Z a0 X a7 K a4;go_wp2_with fail
 refine (HT.o W3 a3.o).mono ?_;intro e w5 hR
 obtain⟨lv,m,k,rfl⟩:=a5.o _ _ _ hR
 have H5:=J hR;clear hR;go_wp2_with fail
 refine bodyPost_ret (results_tmp3 rfl _ _ _) rfl ?_
 exact⟨W3,a3.o,H5.o⟩
theorem Kv:(prog.info? 60).map (·.size)=some 5:=vY
theorem Ug:Xq (prog.underlying 60)=true:=vY
theorem o_(vs:List vV)(hl:vs.length=5){T:TypeId}{fz:Nat × Nat}(hB:Ae W b (.cells vs.toArray T fz)):(loadVar 60 b).run prog W=.ok (.agg vs.toArray) W:=by
 obtain⟨A,e⟩:=Yo Ug
 have:(Instr.loadAt 60 b).run prog W=.ok (.agg vs.toArray) W:=Yr e (by rw[hl];exact Kv) (fun j v q=>by rw[Go.WideShapes.add_plain,bX];exact hB.cellL q)
 simpa [Instr.loadAt,Instr.sureAddr,bQ,Result.andThen]using this
theorem o4(D:Nat->Prop)(b:Nat)(M:Dm)(a:Option Addr)(c rm sb cb:Nat)(es:List (Ce Int))(ck:Nat)(h:Kk D w b M a c rm sb cb es ck)(hl:M.all.length<=1000)(bk:Int)(i:Nat)(v:Au)(r:vB)(hp:Jp M.all bk=some i)(hv:M.all[i]?=some v)(hr:Cp es bk=some (.string r))(hcl:v.chgs.length<=1000):vQ 17 #[b,.int .i64 bk] w fun e w'=>∃ cv,e=.returned (.tuple #[.agg #[qa,qa,.int .i64 bk,r,cv],qa])/\Af w w'/\Jj w' cv v.chgs:=by
 have HC:=J (fun W (e:Af w W)=>EY W D b M a c rm sb cb es ck (h.ext e) hl bk i v r hp hv hr);have HB:=J h.blk;have b4:=J hcl;clear hcl;clear h hp hv hr hl;unfold vQ;go_in;go_wp2_with fail
 have q:=(Aa w).alloc (.cells #[qa,qa,qa,(),qe] 60);have A:=Ae.new w (.cells #[qa,qa,qa,(),qe] 60);generalize w.alloc (.cells #[qa,qa,qa,(),qe] 60)=w0 at q A ⊢;have H0:=J (bA q A);have b8:=A.lt;clear A;refine (HC.o w0 q).mono ?_;rintro e w1 ⟨x,rfl,Z,h1,h2,hE⟩
 obtain⟨xv,ev,cv⟩:=x
 have Z:xv=v:=Z;subst Z;have b5:=J h2
 obtain⟨a1,c1,a0⟩:=h1.1.sl
 obtain⟨a2,c2,a3⟩:=h2.1.sl
 have a0:ev=_:=a0;have a3:cv=_:=a3;subst a0 a3;have HE:=J hE;have b9:=hE.size;clear h1 h2 hE HC;unfold VX.cells;go_wp2_with (first|(refine Di Cb rfl rfl ?_;intro W2 a8 H)|(refine Bt (vs:=[(xv.block:Int),.slice a1 xv.ents.length c1,.slice a2 xv.chgs.length c2,(xv.pins:Int)]) rfl rfl rfl rfl a8 rfl Bo zc ?_;intro W3 a9 K))
 refine (EP W3).mono ?_;rintro e w4 ⟨rfl,rfl⟩;have a4:Af w W3:=(q.trans (HE.o.trans H)).trans' K fun x hx e=>by have e:x=w1.heap.size:=e;have:=q.size;omega
 have b0:=J a4;have b1:=HB.o.keeps a4 kI;have q4:W3.cell? ⟨b,4,none⟩=some (.pointer (some sb)):=b1.cellL rfl;have q2:W3.cell? ⟨w1.heap.size,2,none⟩=some (.slice a2 xv.chgs.length c2):=a9.cellL rfl;have b2:=(H0.o.2.keeps HE.o kI).keeps (H.trans' K kJ) kI;have X:=(b5.o.1.ext HE.o).ext (H.trans' K kJ);have H3:=J (bA b2 X);clear H K a8 a9 a4 b1 b2 X q;go_wp2_with fail
 refine (jU W3 _ _ H3.o.2 b4.o).mono ?_;rintro e w5 ⟨v5,rfl,a7,O⟩
 obtain⟨a5,c5,b6⟩:=a7.1.sl
 subst b6;have H5:=J (bA (b0.o.trans O) (bA (H3.o.1.keeps O kI) (bA a7 O.size)));clear O a7;go_wp2_with (refine Bt (vs:=[qa,qa,.int .i64 bk,r,.slice a5 xv.chgs.length c5]) rfl rfl rfl rfl H5.o.2.1 rfl Kv zc ?_;intro W6 b7 b3)
 refine bodyPost_ret (EH rfl rfl rfl (o_ W6 w _ rfl b7)) rfl ?_;have c0:=b0.o.size
 refine⟨_,rfl,H5.o.1.trans' b3 kJ,H5.o.2.2.1.1.keeps b3 fun b hb e=>?_⟩
 have h1:=(H5.o.2.2.1.2 b hb).1;have h2:=H3.o.1.lt;have e:b=w.heap.size:=e;omega
theorem o3(D:Nat->Prop)(b:Nat)(M:Dm)(a:Option Addr)(c rm sb cb mb tg tc:Nat)(es:List (Ce Int))(ck:Nat)(h:Kk D w b M a c rm sb cb es ck)(key val:vB)(hc:Pj w cb mb tg tc key val):vR 22 #[b] w (.int .i64 1):=by
 have H:=J (bA h hc);clear h hc;unfold vR vQ;go_in;go_wp2_with fail
 refine vC (DC w D b M a c rm sb cb es ck H.o.1) fun X q=>?_;have q5:X.cell? ⟨b,5,none⟩=some (.pointer (some cb)):=(H.o.1.ext q).blk.cellL rfl;have A:Pj X cb mb tg tc key val:=by obtain⟨g1,g2,K,g3⟩:=H.o.2;exact⟨g1.keeps q kI,g2,K,g3.keeps q kI⟩
 have Z:=J (bA q A);clear q A;go_wp2_with fail
 refine (A2 X cb mb tg tc key val Z.o.2).mono ?_;rintro e w3 ⟨ak,a0,rfl,O⟩;have H3:=J (Z.o.1.trans O);clear O;go_wp2_with fail
 go_ret
 exact⟨rfl,H3.o⟩
theorem o5(D:Nat->Prop)(b:Nat)(M:Dm)(a:Option Addr)(c rm sb cb:Nat)(es:List (Ce Int))(ck:Nat)(h:Kk D w b M a c rm sb cb es ck)(hl:M.all.length<=1000)(bk:Int)(i:Nat)(v:Au)(r:vB)(hp:Jp M.all bk=some i)(hv:M.all[i]?=some v)(hr:Cp es bk=some (.string r))(fr to t:vB)(limit:Int)(hft:Op.bytesLess fr.toList to.toList=true)(hR:∀ W,Af w W->vQ 52 #[sb,r,fr,to,.int .i64 limit] W fun e w'=>(∃ la n lc,e=.returned (.tuple #[.slice la n lc,false,qa]))/\Af W w')
  (hBd:∀ W,Af w W->vQ 53 #[sb,r,.agg #[fr,to]] W fun e w'=>∃ g c,e=.returned (.tuple #[.slice (some ⟨g,0,none⟩) 1 c,qa])/\Af W w'/\Ie w' (.slice (some ⟨g,0,none⟩) 1 c) [t])
  (hk:Vc ⟨1,r,fr,to,[t]⟩) (hs:(Fe ⟨1,r,fr,to,[t]⟩).size<=65536) :
  vR 15 #[b,.int .i64 bk,fr,to,.int .i64 limit] w (.tuple #[Fe ⟨1,r,fr,to,[t]⟩,false,qa]):=by
 have HC:=J (EY w D b M a c rm sb cb es ck h hl bk i v r hp hv hr);have HB:=J h.blk;have HR:=J hR;have b0:=J hBd;have b3:fr.size<=6:=hk.key;have b4:to.size<=6:=hk.to;have X:=J (fun W nv (hn:Ie W nv [t])=>XS W ⟨1,r,fr,to,[t]⟩ nv hn hk hs)
 obtain⟨pb,Z⟩:=vE (Fe ⟨1,r,fr,to,[t]⟩)
 rw[<-Z]at X ⊢;clear hR hBd hk hs Z;clear h hp hv hr hl;unfold vR vQ;go_in;go_wp2_with fail
 refine HC.o.mono ?_;rintro e w1 ⟨x,rfl,A,h1,h2,hE⟩
 obtain⟨xv,ev,cv⟩:=x
 have A:xv=v:=A;subst A;have b5:=J h2
 obtain⟨a1,c1,H⟩:=h1.1.sl
 obtain⟨a2,c2,K⟩:=h2.1.sl
 have H:ev=_:=H;have K:cv=_:=K;subst H K;have HE:=J hE;have b6:=hE.size;clear h1 h2 hE HC;unfold VX.cells;go_wp2_with (first|(refine Di Cb rfl rfl ?_;intro W2 a0 a3)|(refine Bt (vs:=[(xv.block:Int),.slice a1 xv.ents.length c1,.slice a2 xv.chgs.length c2,(xv.pins:Int)]) rfl rfl rfl rfl a0 rfl Bo zc ?_;intro W3 b1 a4))
 refine (EP W3).mono ?_;rintro e w4 ⟨rfl,rfl⟩;have O:Af w W3:=(HE.o.trans a3).trans' a4 kJ
 have a5:=J O;have a7:=HB.o.keeps O kI;have q4:W3.cell? ⟨b,4,none⟩=some (.pointer (some sb)):=a7.cellL rfl;clear a3 a4 a0 b1 O a7;go_wp2_with fail
 refine (HR.o W3 a5.o).mono ?_;rintro e w5 ⟨⟨la,n,lc,rfl⟩,q⟩;have q:=a5.o.trans q;have q5:w5.cell? ⟨b,4,none⟩=some (.pointer (some sb)):=(HB.o.keeps q kI).cellL rfl;have H5:=J q;clear q;go_wp2_with fail
 refine (b0.o w5 H5.o).mono ?_;rintro e w6 ⟨g,c6,rfl,a8,a9⟩;have H6:=J (bA (H5.o.trans a8) a9);clear a8 a9;go_wp2_with fail
 refine vH (X.o w6 _ H6.o.2) fun w7 b2=>?_;have H7:=J (H6.o.1.trans b2);go_wp2_with fail
 refine bodyPost_ret (results_tmp3 rfl _ _ _) rfl ?_
 exact⟨rfl,H7.o⟩
def jCk:vB:=⟨#[97]⟩
def jCl:vB:=⟨#[98]⟩
def Qg:vB:=⟨#[49]⟩
def Ki:vL:=[(jCk,Qg)]
def Ju:List Br:=[⟨jCk,Qg,false⟩]
def Ya:Ai:=⟨1,Bw jCk,Qg,List.replicate 16 ()⟩
def Et:vB:=Cu Ya
theorem rA:Ez [] Ju=0:=by decide +kernel
theorem rC:Jc (Pf [] Ju)=Ki:=by decide +kernel
theorem LF:Em Ki=0:=by decide +kernel
theorem z1{n m:Ai}(h1:n.kind=m.kind)(h2:n.path=m.path)(h3:n.value=m.value)(h4:n.refs=m.refs):n=m:=by
 cases n;cases m;simp_all
theorem VO:Bj (An 12) (Cq Ki)=Ya:=z1 ze ze ze ze
theorem oF:(Cr Ki).text=Et:=by show Cu (Bj (An 12) (Cq Ki))=_;rw[VO];rfl
theorem K1:Ph [] Ki=Ju:=by
 unfold Ph;rw[if_pos ⟨PU,LF⟩];unfold Ki Ju;simp[Fv]
theorem PV:Hv Et Ya:=⟨rfl,12,by rw[<-VO];exact (good 12 (Cq Ki) (Nn (Ge LF))).1⟩
theorem YN:Gc Ya=[]:=by
 unfold Gc;refine iO.2 fun r e=>?_;have e:r∈List.replicate 16 (⟨#[]⟩:vB):=e;rw[(List.mem_replicate.1 e).2];exact GH
theorem uU:ky Et≠ky Gf:=by
 unfold ky;decide +kernel
theorem oE:Et.size<=1000:=by decide +kernel
theorem OB:Gn (Bx 12) Ya:=by rw[<-VO];exact (good 12 (Cq Ki) (Nn (Ge LF))).1
theorem sU:Be (Pn z) (ky Et)=none:=by
 rw[EJ];intro x e;have e:x∈[(ky Gf,z,(⟨Gf,[],0,1⟩:It))]:=e;rw[bL.1 e];exact uU
noncomputable def Mf(z y:Nat):vT:=Pn z++[(ky Et,y,⟨Et,[],0,1⟩)]
theorem PE:Be (Mf z y) (Aj Et).data.toList=some (ky Et,y,⟨Et,[],0,1⟩):=by
 show Be (Mf z y) (ky Et)=_;unfold Mf;have e:=sU z;unfold Be at e ⊢;rw[iR,e]
 simp
theorem F7:ER Tv (Js 2)=Aj Gf:=rfl
def Qv:Dm:=⟨2,2,[⟨0,[],[],0⟩,⟨1,Ki,Ju,0⟩]⟩
def AV:Dm:=⟨2,2,[⟨0,[],[],0⟩,⟨1,Ki,Ju,1⟩]⟩
theorem X1:Hn (Js 2) Ju=(Qv,1,0):=by
 have e:(Nu (Js 2)).ents=[]:=rfl;unfold Hn;rw[e,if_neg (by rw[rA];simp),if_neg vI,rC,K1];rfl
theorem X2:Gd Qv (-1)=(AV,1,0):=by
 unfold Gd;rfl
theorem t1:Nv AV 1=(Qv,0):=by
 unfold Nv;rfl
theorem GG:Jp Qv.all 1=some 1:=rfl
noncomputable def Gb:List (Ce Int):=[(0,.string (Aj Gf),0),(1,.string (Aj Et),1)]
theorem rB:Rz Tv (Js 2) (Aj Et) 1=Gb:=rfl
theorem K0:∀ x∈Tv,Co (Js 2).all x.1=true:=by
 intro x e;have e:x∈[((0:Int),Value.string (Aj Gf),0)]:=e;rw[bL.1 e];rfl
theorem OA:∀ x∈Gb,Co Qv.all x.1=true:=by
 intro x e;have e:x∈[((0:Int),Value.string (Aj Gf),0),((1:Int),Value.string (Aj Et),1)]:=e;rcases bU.1 e with rfl|e
 ·rfl
 ·rw[bL.1 e];rfl
theorem GS:Cp Gb 1=some (.string (Aj Et)):=rfl
theorem K2:Cp Gb 5=none:=rfl
theorem lP:Bz (Cr [])=[Gf]:=by decide +kernel
theorem lQ:(Cr []).text=Gf:=by decide +kernel
theorem F6:Iy (Pn z) []:=by
 refine⟨PU,fun x e=>?_⟩
 rw[lP,bL]at e;subst e
 exact⟨(ky Gf,z,⟨Gf,[],0,1⟩),by unfold Be Pn;simp,rfl⟩
theorem F5(S:vT):Ho S (Gp [] Ju)=[Et]:=by
 have h:Gp [] Ju=Ki:=rC;have e:En (Dc (An 12) (Cq Ki))=[]:=by decide +kernel
 unfold Ho;rw[h,oF,VH LF,e];rfl
theorem o7(q:Ha w)(he:Gh w)(s bm z:Nat)(hA:Kq w0 s bm 100 (Pn z) w 1)(hw0:w0.heap.size<=w.heap.size)(u:vV)(hu:Jj w u Ju):vQ 36 #[s,Aj Gf,u] w (RM w0 w s bm 100 (Pn z) 1 (fun _=>False) fun t K=>t=Aj Et/\∃ y,K=Mf z y):=by
 have hb:=hA.bds vI;have H:=nV w q he s bm 100 (Pn z) hA.st hA.all [] (F6 z) u Ju hu vI (fun c q=>by have q:c∈[(⟨jCk,Qg,false⟩:Br)]:=q;rw[bL.1 q];decide) vI vI hb.1 hb.2.1 hb.2.2
 rw[show Bi []=Aj Gf by unfold Bi;rw[lQ]]at H;refine H.mono ?_;rintro e w' (⟨h,_⟩|⟨_,w1,A,h⟩)
 ·exact absurd rA h
 rw[F5]at h;rcases h with⟨k,hwy,_,_,_⟩|⟨top,G,M,htop,hY⟩
 ·refine absurd (hwy.imp (fun h=>⟨h.1,h.2.elim⟩) id) (rU (k:=k) w PV YN (by show ((1:Nat):Int)+1<=100;decide))
 ·obtain rfl:Et=top:=bV htop;obtain⟨y,O⟩:=rT w PV YN hY.given hY.path (sU z);refine .inr ⟨Aj Et,_,⟨rfl,y,by rw[O];rfl⟩,hY.res,((hA.ext A).add (bF hw0 A.size) vI vI hY).mono vI,(A.mono kZ).trans hY.kp,fun x X=>(hY.newS x X).imp id fun h=>bF A.size h⟩
theorem NM{l:List Eu}:∀ i,Em (Iw l i)=0
 |0=>PU
 |i+1=>by
  cases h:l[i]? with
  |none =>
   have e:l.length<=i:=List.getElem?_eq_none_iff.1 h
   have:Iw l (i+1)=Iw l i:=by unfold Iw;rw[cF e,cF vO]
   rw[this];exact NM i
  |some p =>
   rw[NU h];unfold IV;split
   ·rename_i h0;exact Zo h0.2
   ·exact NM i
noncomputable def Df(l:List Eu):Nat->vM
 |0=>[Gf]
 |i+1=>Df l i++match l[i]? with
  |some p=>if p.k=0/\Ez (Iw l i) p.cs=0 then Ld (Gp (Iw l i) p.cs)else []
  |none=>[]
theorem JW(h:l[i]?=some p)(h1:p.k=0)(h2:Ez (Iw l i) p.cs=0):Df l (i+1)=Df l i++Ld (Gp (Iw l i) p.cs)/\Iw l (i+1)=Gp (Iw l i) p.cs:=by
 refine⟨?_,?_⟩
 ·show Df l i++_=_;rw[h];show Df l i++(if _ then _ else _)=_;rw[if_pos ⟨h1,h2⟩]
 ·rw[NU h];unfold IV;rw[if_pos ⟨h1,h2⟩]
theorem UN(h:l[i]?=some p)(h1:¬(p.k=0/\Ez (Iw l i) p.cs=0)):Df l (i+1)=Df l i/\Iw l (i+1)=Iw l i:=by
 refine⟨?_,?_⟩
 ·show Df l i++_=_;rw[h];show Df l i++(if _ then _ else _)=_;rw[if_neg h1,cC]
 ·rw[NU h];unfold IV;rw[if_neg h1]
theorem eL:Ld []=[Gf]:=by
 unfold Ld;rw[lP];decide +kernel
theorem UM{l:List Eu}:∀ {i j:Nat},j<=i->i<=l.length->∀ t∈Ld (Iw l j),t∈Df l i
 |0,j,hj,_,t,ht=>by
  obtain rfl:j=0:=vO
  have:Iw l 0=[]:=rfl
  rw[this,eL]at ht;exact ht
 |i+1,j,hj,hi,t,ht=>by
  by_cases e:j=i+1
  ·subst e
   obtain⟨p,H⟩:∃ p,l[i]?=some p:=⟨_,bB vO⟩
   by_cases h:p.k=0/\Ez (Iw l i) p.cs=0
   ·obtain⟨q,A⟩:=JW H h.1 h.2
    rw[A]at ht;rw[q];exact List.mem_append_right _ ht
   ·obtain⟨q,A⟩:=UN H h
    rw[A]at ht;rw[q];exact UM (bM i) vO t ht
  ·exact iH _ (UM vO vO t ht)
theorem ZM{l:List Eu}:∀ i,IQ (Df l i)
 |0=>fun t e=>by
  have e:t∈[Gf]:=e;rw[bL.1 e]
  exact⟨_,ID⟩
 |i+1=>fun t e=>by
  rcases bS.1 e with h|h
  ·exact ZM i t h
  ·split at h
   ·split at h
    ·rename_i h0
     exact b6 (Zo h0.2) t h
    ·cases h
   ·cases h
theorem jI{l:List Eu}:∀ i,(Df l i).length<=1+121*i
 |0=>bM _
 |i+1=>by
  have h:=jI (l:=l) i;show (Df l i++_).length<=_;rw[bJ];split
  ·split
   ·rename_i h0
    have:=jJ (l:=Gp (Iw l i) _) (Zo h0.2)
    omega
   ·show _+0<=_;omega
  ·show _+0<=_;omega
theorem JF.first(hU:Gf∈U){w W:vW}{s z n:Nat}(h:Kq w s bm room (Pn z) W n):JF U [(0,[])] Tv (Pn z):=by
 refine⟨⟨fun x A=>?_,h.cnt,h.full⟩,by unfold Tv;simp,fun r=>?_,fun q H=>⟨0,?_⟩⟩
 ·have A:x∈[(ky Gf,z,(⟨Gf,[],0,1⟩:It))]:=A;rw[bL.1 A];refine⟨Gf,hU,rfl,rfl,?_⟩;rw[show Bq Gf=Cv from BL W (Vm ID) ID];exact XQ.symm
 ·unfold Tv Rl;rw[List.countP_singleton];by_cases e:r=Aj Gf;{(have:Be (Pn z) r.data.toList=some (ky Gf,z,⟨Gf,[],0,1⟩):=by rw[e];unfold Be Pn ky;simp);rw[this];show ((if _ then 1 else 0:Nat):Int)<=1;split<;>decide};(have K:BB r (Aj Gf)=false:=by simp[BB];exact fun h=>e h.symm);rw[K];show (0:Int)<=_;cases ha:Be (Pn z) r.data.toList with| none=>exact jE _| some x=>exact h.cnt.held x (Fd ha).1
 ·rw[bL.1 H];unfold Tv Bi;rw[lQ];simp
end
section
open Go Go.RowKit
def QU(l:List Eu)(i:Nat):Prop:=∃ p,l[i]?=some p/\p.k=0/\Ez (Iw l i) p.cs=0
open Classical in
noncomputable def Gw(l:List Eu):Nat->Nat
 |0=>0
 |i+1=>Gw l i+if QU l i then 1 else 0
theorem pQ(l:List Eu):∀ i,Gw l i<=Gw l (i+1):=fun i=>by show _<=Gw l i+_;omega
theorem VJ(h:QU l i):Gw l (i+1)=Gw l i+1:=by show Gw l i+_=_;rw[if_pos h]
theorem WO(h:¬ QU l i):Gw l (i+1)=Gw l i/\Iw l (i+1)=Iw l i:=by
 refine⟨by show Gw l i+_=_;rw[if_neg h];omega,?_⟩
 cases e:l[i]? with
 |none=>unfold Iw;rw[cB,e];simp
 |some p =>rw[NU e];unfold IV;rw[if_neg fun q=>h ⟨p,e,q⟩]
theorem pR(l:List Eu)(i:Nat):∀ d,Gw l i<=Gw l (i+d)
 |0=>bM _
 |d+1=>bF (pR l i d) (pQ l (i+d))
theorem UJ(l:List Eu)(i:Nat):∀ d,Gw l i=Gw l (i+d)->Iw l (i+d)=Iw l i
 |0,_=>rfl
 |d+1,h=>by
  have A:=pR l i d;have H:=pQ l (i+d);have K:Gw l (i+d+1)=Gw l i:=h.symm;have e:¬ QU l (i+d):=fun q=>kL (VJ q)
  rw[show i+(d+1)=i+d+1 from rfl,(WO e).2];exact UJ l i d vO
def Pm(l:List Eu)(k:Int)(m:vL):Prop:=∃ j,j<=l.length/\k=(Gw l j:Int)/\m=Iw l j
theorem Pm.one{k:Int}{m m':vL}(h:Pm l k m)(h':Pm l k m'):m=m':=by
 obtain⟨j,_,e,rfl⟩:=h
 obtain⟨q,_,H,rfl⟩:=h'
 have A:Gw l j=Gw l q:=vO
 rcases Nat.le_total j q with hj|hj
 ·obtain⟨d,rfl⟩:=Nat.exists_eq_add_of_le hj;exact (UJ l j d A).symm
 ·obtain⟨d,rfl⟩:=Nat.exists_eq_add_of_le hj;exact UJ l q d A.symm
theorem Jg.at{Q:Nat->Prop}{w0 W:vW}{b cb mb:Nat}{N:Int}{H:Int->vL->Prop}{M:Dm}(h:Jg Q w0 W b rm sb cb mb bm N U H L M es S i)(w:vW)(hU:Gi U)(hH:∀ k m,H k m->Em m=0/\∀ t∈Ld m,t∈U)(bk:Int):Cp es bk=none\/∃ m j v,H bk m/\Jp M.all bk=some j/\M.all[j]?=some v/\Cp es bk=some (.string (Bi m))/\Iy S m:=by
 obtain⟨D,a,c,ck,n,hI,hn,Z,hd⟩:=h.inv
 cases e:Cp es bk with
 |none=>exact .inl rfl
 |some x =>right;obtain⟨⟨k,y,t⟩,K,A,O⟩:=d2 e;have A:k=bk:=A;have O:y=x:=O;subst A O;obtain⟨m,X,A⟩:=h.his _ K;have A:y=.string (Bi m):=A;subst A;obtain⟨j,v,h1,h2⟩:=q2 (h.all _ K);have hj:JF U [(k,m)] es S:=⟨h.jf.kp,h.jf.nd,h.jf.cnt,fun q Z=>by rw[bL.1 Z];exact⟨t,K⟩⟩;exact⟨m,j,v,X,h1,h2,rfl,hj.has bP w hU (hH _ _ X).1 (hH _ _ X).2⟩
end
section
open Go Go.RowKit
def AZ(key:vB)(k:Nat):List Ea:=if k=0 then []else [(key.data.toList,.int .i64 (k:Int),0)]
theorem xB:(Cp (AZ key k) key.data.toList).getD qa=.int .i64 (k:Int):=by
 unfold AZ
 by_cases h:k=0
 ·subst h;rfl
 ·rw[if_neg h];simp[Cp]
theorem sO:Iv (AZ key k) key.data.toList (.int .i64 ((k:Int)+1)) (min k 1)=AZ key (k+1)/\(if (Cp (AZ key k) key.data.toList).isSome then min k 1 else min k 1+1)=min (k+1) 1:=by
 unfold AZ
 by_cases h:k=0
 ·subst h;exact⟨rfl,rfl⟩
 ·rw[if_neg h,if_neg vO];constructor;{simp[Iv,Cp]};simp[Cp];omega
theorem i4{w:vW}{d:Option Tmp}{x y:Operand}{ts:Array TypeId}{ty:TypeId}{pos:String}{af:Array Edge}{g:Option (Nat × Bool)}(hx:a.eval x=.int .i64 m)(hy:a.eval y=.int .i64 n)(h:m<=n):(execOp a.eval ⟨d,.call { callee:=.builtin .min,args:=#[x,y],argTypes:=ts },ty,pos,af,g⟩).run P w=.ok (.value (.int .i64 m)) w:=by
 have e:(Builtin.min_ ts ty #[.int .i64 m,.int .i64 n]).run P w=.ok (.int .i64 m) w:=by rw[Lib.run_min_ints,Int.min_eq_left h]
 simp[execOp,hx,hy,e,resolve,invoke,builtin,bQ,Result.andThen]
def Sk(W:vW)(cb mb:Nat)(n:Int)(k:Nat)(key:vB)(tv:vV):Prop:=Ae W cb (.cells #[.int .i64 n,tv,.map (some mb),(k:Int)] 128)/\Ae W mb (.map (Al.arr (AZ key k)) (min k 1))
def Qt(W:vW)(cb mb:Nat)(n:Int)(k:Nat)(tg c:Nat)(key val:vB):Prop:=Ae W cb (.cells #[.int .i64 n,.slice (some tg) 1 c,.map (some mb),(k:Int)] 128)/\1<=c/\∃ rest,Ae W tg (.cells ([.string key,.string val]++rest).toArray 166)
theorem oN(n:Int)(k:Nat)(tg c:Nat)(hne:cb≠tg)(key v0 val:vB)(h:Qt w cb mb n k tg c key v0):vQ 87 #[cb,qa,val] w fun e w'=>e=.returned (.tuple #[])/\Ad (fun z=>z=tg) w w'/\Qt w' cb mb n k tg c key val:=by
 obtain⟨O,X,a0,ht⟩:=h
 have q1:w.cell? ⟨cb,1,none⟩=some (.slice (some tg) 1 c):=O.cell (i:=1) rfl;have t0:w.cell? tg=some (.string key):=ht.cellL rfl;have H:=J (bA O ht);clear O ht;unfold vQ;go_in;go_wp2_with (first|(refine Di Iq rfl rfl ?_;intro W2 a2 a3)|(refine Bt (vs:=[key,val]) rfl rfl rfl rfl a2 rfl Dr zc ?_;intro W3 a4 a5))
 have hE:Af w W3:=a3.trans' a5 kJ
 have H3:=J (bA hE (bA a4 (bA (H.o.1.keeps hE kI) (H.o.2.keeps hE kI))));clear hE a2 a3 a4 a5 q1 t0;refine vS ?_;have c1:(1:Int)<=(c:Int):=vO
 refine Hs [0,1,2,3,4,5,6,7,8,9,10,11,12,13] Af Aa Ap vY vY vY ?_
 refine vK ?_
 refine Jf _ cb rfl zh (vS ?_)
 refine vK ?_
 refine Db ⟨cb,1,none⟩ (.slice (some tg) 1 c) rfl (fun w1 X=>De zf ((H3.o.2.2.1.drew.keeps X kI).cell (i:=1) rfl)) (vS ?_);iterate 2 refine vK ?_
 refine vK ?_
 generalize (if c=1 then some (tg:Addr)else some ⟨tg,2,none⟩)=ad
 refine vK ?_
 refine Jf _ cb rfl zh (vS ?_)
 refine vK ?_
 refine Db ⟨cb,1,none⟩ (.slice (some tg) 1 c) rfl (fun w1 X=>De zf ((H3.o.2.2.1.drew.keeps X kI).cell (i:=1) rfl)) (vS ?_);iterate 2 refine vK ?_
 refine Jf _ qa rfl (fun w1 _=>aZ rfl rfl (ZF (P:=prog) w1 126 126 3 166 ad (some ⟨tg,0,none⟩) 0 (c-1) 0 c Ih Dr)) (vS ?_);refine Hi (fun w4 h4=>?_);have q:Af W3 w4:=(Ao _).trans h4;have a7:=H3.o.2.1.keeps q kI;have a8:=H3.o.2.2.1.keeps q kI;have a1:=H3.o.2.2.2.keeps q kI;have a9:=a1.lt;have b0:=H.o.2.lt;have H4:=J (bA (H3.o.1.trans q) (bA a7 (bA a8 a1)));clear h4 q a7 a8 a1 a9;go_wp2_with fail
 refine Na [0,1,2,3,4,5,6] [6] Af (Ad fun z=>z=tg) Aa Ap (fun x y z h k=>Ad.trans h k) (fun x y h=>h.mono kZ) vY vY vY ?_
 refine vD ?_
 refine Lx _ cb rfl zh (vS ?_)
 refine vD ?_
 refine Fa ⟨cb,1,none⟩ (.slice (some tg) 1 c) rfl (fun w1 X=>De zf ((H4.o.2.2.1.drew.keeps X hne).cell (i:=1) rfl)) (vS ?_);refine Fa w (.agg #[key,val]) rfl (fun w1 X=>ZG w1 w [key,val] rfl (H4.o.2.1.drew.keeps X vO)) (vS ?_)
 refine vD ?_
 refine Hh _ rfl (fun wc O K hK=>?_);refine PJ (old:=[.string key,.string v0]++a0) (vs:=[key,val]) rfl rfl rfl ((H4.o.2.2.2.drew).keeps O kI) (by simp) Dr zc (fun W5 Z A=>hK _ _ A ?_);have H5:=J (bA O (bA Z A));clear hK K O Z A;refine vS ?_;refine Mt (fun w6 h6=>?_);refine bodyPost_end (results_none rfl _ _ _) rfl ?_
 obtain⟨O,Z,A⟩:=H5.o
 have k6:Ad (fun z=>z=tg) w4 w6:=(((Ao _).trans O).mono kZ).trans (A.trans (h6.mono kZ))
 exact⟨rfl,(H4.o.1.mono kZ).trans k6,H4.o.2.2.1.keeps k6 hne,X,a0,by simpa using Z.keeps h6 kI⟩
theorem k5(n k:Nat)(hn:1<=n)(hn64:n<=64)(key val:vB)(h:Sk w cb mb n k key qe):vQ 41 #[cb,key,val] w fun e w'=>e=.returned true/\Ad (fun z=>z=cb) w w'/\∃ A c,Qt w' cb mb n k A c key val/\w.heap.size<=A:=by
 have b0:((n:Int) == 0)=false:=by simp;omega
 have b1:(0:Int)<(n:Int):=vO
 have H:=J h;have q0:=h.1.cell (i:=0) (v:=.int .i64 (n:Int)) vF;have b4:=h.1.lt;clear h;unfold vQ;go_in;go_wp2_with fail
 refine vC (OR w cb key (H.o.1.cell (i:=1) rfl)) fun w1 hE=>?_;have Z:=H.o.1.keeps hE kI;have q1:=Z.cell (i:=1) (v:=.slice none 0 0) vF;have H1:=J (bA hE Z);clear hE Z;go_wp2_with fail
 refine Hs [0,1,2,3,4,5,6,7,8,9,10] Af Aa Ap vY vY vY ?_
 refine vK ?_
 refine Jf _ cb rfl zh (vS ?_)
 refine vK ?_
 refine Db ⟨cb,1,none⟩ qe rfl (fun w2 h1=>De zf ((H1.o.2.drew.keeps h1 kI).cell (i:=1) rfl)) (vS ?_);refine Jf _ qa rfl zh (vS ?_)
 refine vK ?_
 refine Jf _ cb rfl zh (vS ?_)
 refine vK ?_
 refine Db cb (n:Int) rfl (fun w2 h1=>De zf ((H1.o.2.drew.keeps h1 kI).cell (i:=0) rfl)) (vS ?_);iterate 2 refine vK ?_
 refine Hi (fun w2 h2=>?_);have K:Af w w2:=H1.o.1.trans ((Ao _).trans h2);have a0:=H.o.1.keeps K kI;have b5:=a0.cell (i:=1) (v:=.slice none 0 0) vF;have H2:=J (bA K (bA a0 (H.o.2.keeps K kI)));clear h2 K a0 q1;go_wp2_with (at_builtin;go_loud (refine Qm Lr (Ar.nil 166 2 ((Aa w2).alloc (.cells #[key,()] 166))) (.tmp 45) (.tmp 48) rfl rfl rfl (Jx (Ae.new w2 _)) (news:=[key,()]) (by intro u hu;simp at hu;rcases hu with rfl|rfl<;>rfl) rfl rfl zi vO fun v5 w5 O r2 r3=>?_);obtain⟨a5,c5,rfl⟩:=O.sl;have q:=H2.o.2.1.keeps O.ext kI;have q5:=q.cell (i:=1) (v:=.slice none 0 0) vF;have f5:w5.frozen? ⟨cb,1,none⟩=false:=q.frozen;have H5:=J (bA O q);clear O r2 r3 q)
 obtain⟨O,q⟩:=H5.o
 have a1:=q.set_same (i:=1) (.slice a5 (0+1) c5);have k6:=Ad.oneSet w5 ⟨cb,1,none⟩ (.slice a5 (0+1) c5)
 obtain⟨_,⟨e,_⟩|⟨A,b6,a2,e,_,a3,b2,_,b3,a4⟩⟩:=O.own
 ·cases e
 cases e;have b7:w2.heap.size<=A:=O.new A rfl;have b8:=H2.o.1.size;have a7:cb≠A:=vO
 have X:Ae w5 A (.cells (([key,()]:List vV)++a2.toList.drop 2).toArray 166):=by have h2:a2.toList.take 2=[Value.string key,.string ⟨#[]⟩]:=a4;rw[<-h2,cX];show w5.heap[A]?=_;simpa using a3
 have a8:Qt (w5.setCell ⟨cb,1,none⟩ (.slice (some ⟨A,0,none⟩) (0+1) c5)) cb mb n k A c5 key ():=⟨by simpa using a1,b2,_,X.keeps k6 fun e=>a7 e.symm⟩;refine (oN _ cb mb n k A c5 a7 key () val a8).mono ?_;rintro e w7 ⟨rfl,a9,h7⟩;have H7:=J (bA ((((H2.o.1.trans O.ext).mono (G:=fun z=>z=cb) fun _ _ e=>e.elim).trans k6).trans' a9 kJ) (bA h7 (show w.heap.size<=A by omega)));clear a9 h7 a8 X a3 a1 k6 q O q5 f5 b3 a4;go_wp2_with fail
 go_ret
 exact⟨rfl,H7.o.1,A,c5,H7.o.2⟩
attribute [local go_sem] Oper.semAt_some
theorem f3(s:vN):(s == s)=true:=by simp
theorem jzg(g:Nat)(hk:w.cell? g=some (.string key)):vR 135 #[.agg #[key,val],g] w true:=by
 have e:=Am hk ((Aa w).alloc (.cells #[key,val] 166));have E:=f3 key.toList;clear hk;unfold vR vQ;go_in;go_wp2_with fail
 go_ret
 exact⟨rfl,(Aa w).alloc _⟩
theorem H1(tg c:Nat)(key val:vB)(q0:w.cell? tg=some (.string key))(q1:w.cell? ⟨tg,1,none⟩=some (.string val))(g:Nat)(hk:w.cell? g=some (.string key)):vR 134 #[.slice (some tg) 1 c,.func (.func 135) #[] #[g]] w qa:=by
 unfold vR vQ;go_in;go_wp2_with fail
 go_loopw [8] (fun i wr=>i=.int .i64 0/\Af w wr) (fun i _=>1)
 case atStart=>exact⟨rfl,Aa w⟩
 case round =>obtain⟨rfl,e⟩:=hrel;(have H:=J e;have K:=Am q0 e;have O:=Am q1 e;have q:=Am hk e;clear e q0 q1 hk;go_wp2_with fail);(refine vH (jzg wr key val g q) fun X e=>?_;have A:=J (H.o.trans e);go_wp2_with fail);go_ret;exact⟨rfl,A.o⟩
theorem O3(n:Int)(k tg c:Nat)(key val:vB)(h:Qt w cb mb n k tg c key val):vR 86 #[cb,key] w qa:=by
 obtain⟨A,h1,K,O⟩:=h
 have e:=(Aa w).alloc (.cells #[key] 9);have q1:=Am (A.cell (i:=1) (v:=.slice (some tg) 1 c) vF) e;have H:=J (bA (O.keeps e fun h=>h) (Ae.new w (.cells #[key] 9)));have q:=J e;clear e A O;unfold vR vQ;go_in;go_wp2_with fail
 refine vH (H1 _ tg c key val (H.o.1.cellL rfl) (H.o.1.cellL rfl) _ (H.o.2.cell (i:=0) rfl)) fun w1 X=>?_;have Z:=J (q.o.trans X);go_wp2_with fail
 go_ret
 exact⟨rfl,Z.o⟩
def tX:Option (Nat × Nat × vB)->vV
 |none=>.slice none 0 0
 |some (tg,c,_)=>.slice (some tg) 1 c
def YE:Option (Nat × Nat × vB)->vB
 |none=>⟨#[]⟩
 |some (_,_,v)=>v
def AS(cb mb:Nat)(o:Option (Nat × Nat × vB))(z:Nat):Prop:=z=cb\/z=mb\/∃ c v,o=some (z,c,v)
def thP(W:vW)(cb mb:Nat)(key:vB):Option (Nat × Nat × vB)->Prop
 |none=>True
 |some (tg,c,v)=>1<=c/\tg≠cb/\tg≠mb/\∃ rest,Ae W tg (.cells ([.string key,.string v]++rest).toArray 166)
def DP(W:vW)(cb mb:Nat)(n:Int)(k:Nat)(key:vB)(o:Option (Nat × Nat × vB)):Prop:=Sk W cb mb n k key (tX o)/\thP W cb mb key o
theorem Qt.keeps{W:vW}{cb mb:Nat}{k tg:Nat}{key val:vB}(h:Qt W cb mb n k tg c key val)(e:Af W W'):Qt W' cb mb n k tg c key val:=⟨h.1.keeps e fun h=>h,h.2.1,h.2.2.imp fun _ h=>h.keeps e fun h=>h⟩
theorem P8(hne:cb≠mb)(n k:Nat)(hn:1<=n)(hn64:n<=64)(hk:k<=13)(hkn:k+1<10*n)(key:vB)(o:Option (Nat × Nat × vB))(h:DP w cb mb n k key o):vQ 39 #[cb,key] w fun e w'=>e=.returned (.tuple #[YE o,o.isSome])/\Ad (AS cb mb o) w w'/\DP w' cb mb n (k+1) key o:=by
 obtain⟨tv,a2⟩:=vE (tX o)
 have HT:=J (bA a2 h.2)
 obtain⟨h, -⟩:=h
 rw[<-a2]at h;clear a2;have b0:((n:Int) == 0)=false:=by simp;omega
 have bw:RowKit.wrap64 ((k:Int)+1)=(k:Int)+1:=by unfold RowKit.wrap64;omega
 have bm:¬(15:Int)<(k:Int)+1:=vO
 have H:=J h;have q0:=h.1.cell (i:=0) (v:=.int .i64 (n:Int)) vF;clear h;unfold vQ;go_in;go_wp2_with fail
 refine BF [0,1,2,3,4,5,6,7,8,9,10,11,12] 13 [] Af Af Aa Ap Ap (fun x y h=>h) vY vY vY ?_
 refine vZ ?_
 refine Qs _ cb rfl zf (vS ?_)
 refine vZ ?_
 refine Vi ⟨cb,2,none⟩ (.map (some mb)) rfl (fun w1 X=>De zf ((H.o.1.drew.keeps X kI).cell (i:=2) rfl)) (vS ?_);iterate 2 refine vZ ?_
 refine Qs _ cb rfl zf (vS ?_)
 refine vZ ?_
 refine Vi ⟨cb,2,none⟩ (.map (some mb)) rfl (fun w1 X=>De zf ((H.o.1.drew.keeps X kI).cell (i:=2) rfl)) (vS ?_)
 refine vZ ?_
 refine UV _ (k:Int) rfl vY vY rfl (fun w3 h3=>by have:=Wx Al Bf (H.o.2.drew.keeps h3 kI) (Cz w3) key.data.toList false;rw[xB]at this;exact ZJ this) ?_
 refine vS ?_
 refine vZ ?_
 refine Qs _ (.int .i64 ((k:Int)+1)) rfl (fun w1=>i4 rfl rfl vO) (vS ?_);refine BJ _ rfl vY rfl (fun wc hc K hK=>?_);have kc:Af w wc:=(Ao _).trans hc;have a3:=H.o.2.keeps kc kI
 obtain⟨W2,Z⟩:=vE (wc.putObj mb (.map (Al.arr (AZ key (k+1))) (min (k+1) 1)))
 have b3:(Instr.mapUpdate 125 (.map (some mb)) key (.int .i64 ((k:Int)+1))).run prog wc=.ok () W2:=by have:=Yq Al Bf a3 key.data.toList (.int .i64 ((k:Int)+1));rw[Z];rw[(sO key k).1,(sO key k).2]at this;exact this
 have a9:Ae W2 mb (.map (Al.arr (AZ key (k+1))) (min (k+1) 1)):=by rw[Z];exact a3.put_same _
 have K2:Ad (fun z=>z=mb) wc W2:=by rw[Z];exact Ad.onePut _ _ _
 have a0:=(H.o.1.keeps kc kI).keeps K2 hne;have H2:=J (bA a9 (bA ((kc.mono (G:=fun z=>z=mb) fun _ _ e=>e.elim).trans K2) a0));clear Z a9 K2 a3 kc hc;go_simp;refine hK _ _ ?_;clear hK K b3;have q3:W2.cell? ⟨cb,3,none⟩=some (.int .i64 (k:Int)):=a0.cell (i:=3) rfl;have f3:W2.frozen? ⟨cb,3,none⟩=false:=a0.frozen;clear a0;go_wp2_with fail
 have A:=H2.o.2.2.set_same (i:=3) (.int .i64 ((k:Int)+1));have k3:=Ad.oneSet W2 ⟨cb,3,none⟩ (.int .i64 ((k:Int)+1));have a4:=H2.o.1.keeps k3 (fun e=>hne e.symm);generalize W2.setCell ⟨cb,3,none⟩ (.int .i64 ((k:Int)+1))=w3 at A k3 a4 ⊢;refine Hs [0,1,2,3,4,5,6,7,8,9] Af Aa Ap vY vY vY ?_
 refine vK ?_
 refine Jf _ cb rfl zh (vS ?_)
 refine vK ?_
 refine Db ⟨cb,3,none⟩ (.int .i64 ((k:Int)+1)) rfl (fun w1 X=>De zf ((A.drew.keeps X kI).cell (i:=3) rfl)) (vS ?_)
 refine vK ?_
 refine Jf _ cb rfl zh (vS ?_)
 refine vK ?_
 refine Db cb (n:Int) rfl (fun w1 X=>De zf ((A.drew.keeps X kI).cell (i:=0) rfl)) (vS ?_);iterate 2 refine vK ?_
 refine Hi (fun w4 h4=>?_);have a1:Af w3 w4:=(Ao _).trans h4;have b1:=A.keeps a1 kI;have kA:Ad (fun z=>z=cb\/z=mb) w w4:=(H2.o.2.1.mono (G:=fun z=>z=cb\/z=mb) fun z _ e=>.inr e).trans ((k3.mono fun z _ e=>.inl e).trans (a1.mono kZ));have b2:=a4.keeps a1 kI;have HM:=J (bA kA (show Sk w4 cb mb n (k+1) key tv from⟨by simpa using b1,b2⟩));clear h4 a1 A k3 a4 b1 q3 f3 kA b2;cases o with
 |none =>(obtain rfl:=HT.o.1;go_wp2_with fail);(refine vC (OR w4 cb key (HM.o.2.1.cell (i:=1) rfl)) fun w5 hE=>?_;have H5:=J (bA ((HM.o.1.mono (G:=AS cb mb none) fun z _ e=>e.elim .inl fun e=>.inr (.inl e)).trans (hE.mono kZ)) (bA (HM.o.2.1.keeps hE kI) (HM.o.2.2.keeps hE kI)));clear hE;go_wp2_with fail);go_ret2;exact⟨rfl,H5.o.1,H5.o.2,trivial⟩
 |some x =>obtain⟨tg,c,q⟩:=x;obtain⟨rfl,hT⟩:=HT.o;obtain⟨X,n1,n2,a8,ht⟩:=hT;(have a5:Qt w4 cb mb n (k+1) tg c key q:=⟨HM.o.2.1,X,a8,ht.keeps HM.o.1 fun e=>e.elim n1 n2⟩;go_wp2_with fail);(refine vC (O3 w4 cb mb n (k+1) tg c key q a5) fun w5 hE=>?_;have O:=a5.keeps hE;have q1:=O.1.cell (i:=1) (v:=.slice (some tg) 1 c) vF;have t0:w5.cell? tg=some (.string key):=O.2.2.choose_spec.cellL rfl;have t1:w5.cell? ⟨tg,1,none⟩=some (.string q):=O.2.2.choose_spec.cellL rfl;have H5:=J (bA ((HM.o.1.mono (G:=AS cb mb (some (tg,c,q))) fun z _ e=>e.elim .inl fun e=>.inr (.inl e)).trans (hE.mono kZ)) (bA O (HM.o.2.2.keeps hE fun h=>h)));clear hE O a5 ht;go_wp2_with fail);(refine (oN _ cb mb n (k+1) tg c (fun e=>n1 e.symm) key q q H5.o.2.1).mono ?_;rintro e w6 ⟨rfl,hK,a7⟩;go_wp2_with fail);go_ret2;exact⟨rfl,H5.o.1.trans (hK.mono fun z _ e=>.inr (.inr ⟨c,q,by rw[show z=tg from e]⟩)),⟨a7.1,H5.o.2.2.keeps hK fun e=>n2 e.symm⟩,a7.2.1,n1,n2,a7.2.2⟩
end
section
open Go Go.RowKit
def QO(P:Program)(gf:FuncId)(pre lb:Array vV)(N:Nat)(vals:Nat->Array vV)(M:Bd)(S:Bd->vW->Prop)(SE:Nat->Bd->vW->Prop):Prop:=
 ∀ (l:Nat) (C:Nat->Bd->vW->Prop) (Cx:Nat->Bd->vW->Prop),(∀ k,Mg (C k))->(∀ k D W,¬ Cx k D W) ->
  ∀ D O W,(∀ k D' W',k<N->C k D' W'->Ad (fun b=>D b\/M b) W W'->f5 P l (vals k) D' W' (C (k+1)) (Cx (k+1))) ->
   C 0 D W->S O W->(∀ b,D b->¬ O b) ->
   CallsIn Fence.wide 0 P gf ((pre++#[.func (.yield l) #[] #[]])++lb) W (VF W M D O N C Cx SE)
def Z2(D:Bd)(W:vW)(Ct:Bd->vW->Prop):Exit->Act->vW->Prop
 |.normal,_,W'=>∃ D':Bd,Ad D W W'/\(∀ b,D' b->D b\/W.heap.size<=b)/\Ct D' W'
 |_,_,_=>False
theorem lH{g:Operand}{ps:Array Tmp}{Q:Exit->Act->vW->Prop}{w:vW}
  {gf:Nat}  (hg:a.eval g=.func (.func gf) pre lb) (eg:∀ args w,(callFunc gf args).run P w=.ok (.enter gf args) w)
   {vals:Nat->Array vV}  {S:Bd->vW->Prop} {SE:Nat->Bd->vW->Prop} (IS:QO P gf pre lb N vals M S SE)
  (hS:Mg S) (hps:∀ k,(vals k).size=ps.size)
  (C:Nat->Bd->vW->Prop) (hC:∀ k,Mg (C k))
  (D₀ O₀:Bd) (h0:C 0 D₀ w) (hS0:S O₀ w) (hdis:∀ b,D₀ b->¬ O₀ b)
  (hround:∀ (l k:Nat) (D:Bd) (W:vW) (K:Act->vW->Prop),k<N->C k D W->w.heap.size+1<W.heap.size ->
   (∀ a1 W1,Af W W1->(∀ W2,C k D W2->Ad (fun b=>b=w.heap.size+1) W1 W2->Ad (fun b=>D₀ b\/M b) w W2->body.wpIn (Fence.wide.inRound l) 0 P (Z2 D W2 (C (k+1))) a1 W2)->K a1 W1) ->
   assign.wpIn (Fence.wide.inRound l) 0 P (Exit.then K fun _ _ _=>False) { tmps:=(ps.zip (vals k)).foldl (fun t (p,v)=>t.setIfInBounds p v) a.tmps,defers:=[] } W)
  (hdone:∀ (D O:Bd) (W:vW),Ad (fun b=>D₀ b\/M b) w W->C N D W->SE N O W->Ae W w (.deferred (some [])) ->
   Q .normal { a with defers:={ target:=.collected w,args:=#[] }::a.defers } W)
  (hSE:∀ k,Mg (SE k)) :
  (Code.rangeFunc g ps assign body).wpIn Fence.wide 0 P Q a w:=by
 refine TV hg eg fun a3 W1 a8 a4 b8 b2=>?_;have a9:∀ b,D₀ b->b<w.heap.size:=(hC 0).lt _ _ h0;have b3:∀ b,O₀ b->b<w.heap.size:=hS.lt _ _ hS0
 let CC:Nat->Bd->vW->Prop:=fun k D W=>∃ Z:Bd,C k Z W/\(∀ b,D b↔Z b\/b=w.heap.size+1\/b=w.heap.size)/\¬ Z (w.heap.size+1)/\¬ Z w.heap.size/\Mc a3 w .ready none W
 have b4:∀ k,Mg (CC k):=fun k=>⟨fun D W ⟨Z,h1,H,_,_,q⟩ b hb=>by rcases (H b).1 hb with h|rfl|rfl;{exact (hC k).lt _ _ h1 b h};{exact q.loop.lt};exact q.dfr.lt,fun D W W' ⟨Z,h1,H,h5,h6,q⟩ hs hb=>⟨Z,(hC k).st _ _ _ h1 hs fun b h=>hb b ((H b).2 (.inl h)),H,h5,h6,(hb _ ((H _).2 (.inr (.inl rfl)))).trans q.loop,(hb _ ((H _).2 (.inr (.inr rfl)))).trans q.dfr⟩⟩
 have b0:∀ {W},Ad (fun b=>(D₀ b\/b=w.heap.size+1\/b=w.heap.size)\/M b) W1 W->Ad (fun b=>D₀ b\/M b) w W:=fun hk=>(a4.mono kZ).trans' hk (fun x hx h=>by rcases h with (h|rfl|rfl)|h;{exact .inl h};{omega};{omega};exact .inr h)
 refine CallsIn.mono (IS (w.heap.size+1) CC (fun _ _ _=>False) b4 (fun _ _ _ h=>h) (fun b=>D₀ b\/b=w.heap.size+1\/b=w.heap.size) O₀ W1 ?_ ⟨D₀,(hC 0).keeps h0 a4 fun _ _ h=>h,fun _=>Iff.rfl,fun h=>kL (a9 _ h),fun h=>kL (a9 _ h),b2⟩ (hS.keeps hS0 a4 fun _ _ h=>h) (fun b hb ho=>by have:=b3 b ho;rcases hb with h|rfl|rfl;{exact hdis b h ho};{omega};omega)) ?_
 ·rintro k D W hk ⟨Z,h1,H,h5,h6,q⟩ b5;have a5:D (w.heap.size+1):=(H _).2 (.inr (.inl rfl));refine TW a8 q (hps k) (hround _ k Z W _ hk h1 q.loop.lt fun a1 W2 hX b6=>?_);have h1:=(hC k).keeps h1 hX (fun _ _ h=>h);have q:=q.keeps hX kI kI;have a2:=Ad.onePut W2 (w.heap.size+1) (.loop (a3 .busy none));refine⟨q,Code.wpIn_mono ?_ (b6 _ ((hC k).keeps h1 a2 fun b hb e=>h5 (e ▸ hb)) a2 (((b0 b5).trans' hX kZ).trans' a2 fun x hx e=>by omega))⟩;intro e a' W' hq;cases e with| normal =>obtain⟨X,hK,A,hc⟩:=hq;rw[World.putObj_size]at A;have b9:=q.loop.lt;have n1:¬ X (w.heap.size+1):=fun h=>(A _ h).elim h5 vO;have n2:¬ X w.heap.size:=fun h=>(A _ h).elim h6 vO;have b1:=Ad.onePut W' (w.heap.size+1) (.loop (a3 .ready none));refine⟨none,rfl,hK.mono fun b _ h=>⟨fun e=>h6 (e ▸ h),fun e=>h5 (e ▸ h)⟩,fun hb=>⟨fun b=>X b\/b=w.heap.size+1\/b=w.heap.size,(hX.mono kZ).trans (((a2.mono fun x _ e=>e ▸ a5).trans' hK fun x hx h=>(H x).2 (.inl h)).trans' b1 fun x hx e=>e ▸ a5),?_,.inl ⟨rfl,X,(hC _).keeps hc b1 fun b hb e=>n1 (e ▸ hb),fun _=>Iff.rfl,n1,n2,hb⟩⟩⟩;rintro b (h|rfl|rfl);{exact (A b h).imp (fun h=>(H b).2 (.inl h)) (fun h=>bF hX.size h)};{exact .inl a5};exact .inl ((H _).2 (.inr (.inr rfl)))| _=>exact hq.elim
 ·rintro e W' ⟨hv,Z,O',hk,c0,c1,a0,⟨⟨X,h1,H,h5,h6,q⟩,b7⟩|⟨_,_,_,h,_⟩⟩;{refine⟨hv,.inl ⟨q,fun o hd=>?_⟩⟩;have a7:=Ad.onePut W' (w.heap.size+1) o;exact hdone X O' _ ((b0 hk).trans' a7 fun x hx e=>by omega) ((hC N).keeps h1 a7 fun b hb e=>h5 (e ▸ hb)) ((hSE N).keeps b7 a7 fun b hb e=>a0 _ ((H _).2 (.inr (.inl rfl))) (e ▸ hb)) hd};exact h.elim
end
section
open Go Go.RowKit
attribute [local go_sem] Oper.semAt_some
end
section
open Go Go.RowKit
end
section
open Go Go.RowKit
attribute [local go_sem] Oper.semAt_some
structure DX(t:Nat)(to:vB)(limit:Int)(W:World):Prop where
 b0:Ae W t (.cells #[to] 9)
 b1:Ae W (t+1) (.cells #[.int .i64 limit] 3)
 b2:Ae W (t+2) (.cells #[qe] 47)
 b3:Ae W (t+3) (.cells #[false] 4)
 b4:Ae W (t+4) (.cells #[qa] 27)
theorem DX.keeps{to:vB}{W:vW}(h:DX t to limit W)(k:Ad F W W')(hF:∀ b,t<=b->b<=t+4->¬ F b):DX t to limit W':=
 ⟨h.b0.keeps k (hF _ vO vO),h.b1.keeps k (hF _ vO vO),h.b2.keeps k (hF _ vO vO),h.b3.keeps k (hF _ vO vO),h.b4.keeps k (hF _ vO vO)⟩
theorem DX.new(limit:Int):DX W to limit (((((W.alloc (.cells #[to] 9)).alloc (.cells #[.int .i64 limit] 3)).alloc (.cells #[qe] 47)).alloc (.cells #[false] 4)).alloc (.cells #[qa] 27)):=by
 refine⟨?_,?_,?_,?_,?_⟩
 ·exact ((((Ae.new W _).alloc _).alloc _).alloc _).alloc _
 ·have:=(((Ae.new (W.alloc (.cells #[to] 9)) (.cells #[.int .i64 limit] 3)).alloc (.cells #[qe] 47)).alloc (.cells #[false] 4)).alloc (.cells #[qa] 27);rwa [bG]at this
 ·have:=((Ae.new ((W.alloc (.cells #[to] 9)).alloc (.cells #[.int .i64 limit] 3)) (.cells #[qe] 47)).alloc (.cells #[false] 4)).alloc (.cells #[qa] 27);rwa [bG,bG]at this
 ·have:=(Ae.new (((W.alloc (.cells #[to] 9)).alloc (.cells #[.int .i64 limit] 3)).alloc (.cells #[qe] 47)) (.cells #[false] 4)).alloc (.cells #[qa] 27);rwa [bG,bG,bG]at this
 ·have:=Ae.new ((((W.alloc (.cells #[to] 9)).alloc (.cells #[.int .i64 limit] 3)).alloc (.cells #[qe] 47)).alloc (.cells #[false] 4)) (.cells #[qa] 27);rwa [bG,bG,bG,bG]at this
theorem v_{fn:Func}{t u x:Tmp}{ty ty2 ty3:TypeId}(h:fn.results=#[.cell t ty,.cell u ty2,.cell x ty3]){a b c:Addr}(ha:tmps.getD t undef=.pointer (some a))(hb:tmps.getD u undef=.pointer (some b))(hc:tmps.getD x undef=.pointer (some c)){w:vW}
  (l1:(loadVar ty a).run P w=.ok v1 w) (l2:(loadVar ty2 b).run P w=.ok v2 w) (l3:(loadVar ty3 c).run P w=.ok v3 w):(results fn tmps).run P w=.ok (.tuple #[v1,v2,v3]) w:=by
 have e:tmps[t]?.getD undef=.pointer (some a):=by simpa using ha
 have q:tmps[u]?.getD undef=.pointer (some b):=by simpa using hb
 have A:tmps[x]?.getD undef=.pointer (some c):=by simpa using hc
 simp[results,h,e,q,A,asAddr,bQ,Result.andThen,l1,l2,l3]
theorem SX{W:vW}{p:Addr}{t:TypeId}{d:TypeDesc}(hu:P.underlying t=some d)(hd:(match d with | .struct _ | .array _ _=>true|_=>false)=false)(h:W.cell? p=some v):(loadVar t p).run P W=.ok v W:=by
 have:=Bv hu hd h
 simpa [Instr.loadAt,Instr.sureAddr,bQ,Result.andThen]using this
theorem zC(y2 y3 y4:vV)(h2:Ae w1 (t+2) (.cells #[x2] 47))(h3:Ae w1 (t+3) (.cells #[x3] 4))(h4:Ae w1 (t+4) (.cells #[x4] 27)):Ae (((w1.setCell (t+1+1:) y2).setCell (t+1+1+1:) y3).setCell (t+1+1+1+1:) y4) (t+2) (.cells #[y2] 47) /\
  Ae (((w1.setCell (t+1+1:) y2).setCell (t+1+1+1:) y3).setCell (t+1+1+1+1:) y4) (t+3) (.cells #[y3] 4) /\
  Ae (((w1.setCell (t+1+1:) y2).setCell (t+1+1+1:) y3).setCell (t+1+1+1+1:) y4) (t+4) (.cells #[y4] 27) /\
  Ad (fun b=>b=t+2\/b=t+3\/b=t+4) w1 (((w1.setCell (t+1+1:) y2).setCell (t+1+1+1:) y3).setCell (t+1+1+1+1:) y4):=by
 have q:=Ad.oneSet w1 (t+1+1:) y2;have A:=Ad.oneSet (w1.setCell (t+1+1:) y2) (t+1+1+1:) y3;have H:=Ad.oneSet ((w1.setCell (t+1+1:) y2).setCell (t+1+1+1:) y3) (t+1+1+1+1:) y4
 refine⟨?_,?_,?_,((q.mono fun b _ e=>.inl e).trans' A fun b _ e=>.inr (.inl e)).trans' H fun b _ e=>.inr (.inr e)⟩
 ·exact ((h2.set_same (i:=0) y2).set_other (p:=(t+1+1+1:)) (by show t+2≠t+3;omega) _).set_other (p:=(t+1+1+1+1:)) (by show t+2≠t+4;omega) _
 ·exact ((h3.set_other (p:=(t+1+1:)) (by show t+3≠t+2;omega) _).set_same (i:=0) y3).set_other (p:=(t+1+1+1+1:)) (by show t+3≠t+4;omega) _
 ·exact ((h4.set_other (p:=(t+1+1:)) (by show t+4≠t+2;omega) _).set_other (p:=(t+1+1+1:)) (by show t+4≠t+3;omega) _).set_same (i:=0) y4
theorem T2{W:vW}{y2 y3 y4:vV}(h2:Ae W (t+2) (.cells #[y2] 47))(h3:Ae W (t+3) (.cells #[y3] 4))(h4:Ae W (t+4) (.cells #[y4] 27))
  (ha:tmps.getD 10 undef=.pointer (some (t+2:))) (hb:tmps.getD 11 undef=.pointer (some (t+3:))) (hc:tmps.getD 12 undef=.pointer (some (t+4:))):(results f52 tmps).run prog W=.ok (.tuple #[y2,y3,y4]) W:=
 v_ rfl ha hb hc (SX Kw rfl (h2.cell (i:=0) vF)) (SX underlying4 rfl (h3.cell (i:=0) vF)) (SX underlying27 rfl (h4.cell (i:=0) vF))
def Ye(c s:Nat)(fr:vB)(v:vV)(W:vW):Prop:=Ae W c (.cells #[s,fr,v,.int .i64 1] 292)
structure AW(g:Nat)(p x:vB)(W:World):Prop where
 p0:W.cell? g=some (.string p)
 p1:W.cell? ⟨g,1,none⟩=some (.string x)
 p2:W.cell? ⟨g,2,none⟩=some (.string ⟨#[]⟩)
 lt:g<W.heap.size
theorem AW.keeps{W:vW}{p x:vB}(h:AW g p x W)(k:Ad F W W')(hF:¬ F g):AW g p x W':=⟨Ed h.p0 k hF,Ed h.p1 k hF,Ed h.p2 k hF,bD h.lt k.size⟩
def MJ(W:vW)(c s:Nat)(fr p x:vB)(w':vW):Prop:=∃ g cp,Ye c s fr (.slice (some ⟨g,0,none⟩) 1 cp) w'/\AW g p x w'/\W.heap.size<=g/\c<g/\1<=cp
theorem J6(c s:Nat)(fr p x:vB)(h:Ye c s fr qe W)(hx:x.toList.isEmpty=false)(hl:Op.bytesLess p.toList fr.toList=false)(hk:Mo p=true)(hp:p.size<=1000000):vQ 184 #[c,p,x] W fun e w'=>e=.returned (.tuple #[])/\MJ W c s fr p x w'/\Ad (fun b=>b=c) W w':=by
 have q1:=Ae.cell (i:=1) (v:=.string fr) h vF;have q2:=Ae.cell (i:=2) (v:=.slice none 0 0) h vF;have H:=J h;have X:=FI W p hp;unfold Lg at X;rw[hk]at X;have a0:=J X;clear h X hk hp;unfold vQ;go_in;go_wp2_with fail
 refine a0.o.mono ?_;rintro e w1 ⟨rfl,hE⟩;simp only[if_true];have q2:=Am q2 hE;have Z:=J hE;clear hE;go_wp2_with (at_builtin;(refine Qm Wt (Ar.nil _ _ (Z.o.alloc _)) (.tmp 28) (.tmp 32) rfl rfl rfl (Jx (Ae.new w1 _)) (news:=[p,x,()]) (V8 ⟨p,x,⟨#[]⟩⟩) rfl rfl vI vI ?_;intro v' w' A O r3;have q:Af w1 w':=((Aa w1).alloc _).trans' O (fun x _ e=>by cases e);have q3:=Am q2 q;have qf:w'.frozen? ⟨c,2,none⟩=false:=(Ae.keeps H.o (Z.o.trans q) kI).frozen;have HR:=J (bA A q);obtain⟨a2,K,a1⟩:=A.sl;subst a1;clear A O r3 q))
 refine bodyPost_end (results_none rfl _ _ _) rfl ?_
 obtain⟨A,O⟩:=HR.o
 obtain⟨_,⟨_,h3⟩|⟨g,a3,a4,h2,h3,h4,h5,h6⟩⟩:=A.own
 ·cases h3
 obtain⟨rfl,_,rfl⟩:=dH h2
 have hc:=fun j u hj=>World.ownsRow.cells (g:=g) A.own rfl j u hj;simp only[Addr.add_lit,bX]at hc;have hg:=A.new g rfl;have a5:=Ae.lt H.o;have h1:0+1<=K:=h5;have ks:=Ad.oneSet w' ⟨c,2,none⟩ (.slice (some g) 1 K)
 exact⟨rfl,⟨g,K,Ae.set_same (i:=2) (Ae.keeps H.o (Z.o.trans O) kI) _,AW.keeps ⟨hc 0 _ rfl,hc 1 _ rfl,hc 2 _ rfl,Ae.lt h4⟩ ks (by show ¬ g=c;omega),hg,by omega,by omega⟩,((Z.o.trans O).mono kZ).trans ks⟩
theorem wF(c s:Nat)(fr pa va:vB)(rs:vM)(hr:rs.length=16)(h:Ye c s fr qe W)(hx:va.toList.isEmpty=false)(hl:Op.bytesLess pa.toList fr.toList=false)(hk:Mo pa=true)(hp:pa.size<=1000000):vQ 152 #[c,(Ai.mk 1 pa va rs).V,()] W fun e w'=>e=.returned (.tuple #[])/\MJ W c s fr pa va w'/\Ad (fun b=>b=c) W w':=by
 have q:=(Aa W).alloc (.cells (Ai.cells ⟨1,pa,va,rs⟩).toArray 214);have O:=J (J6 _ c s fr pa va (Ae.keeps h q kI) hx hl hk hp);have A:=J q;clear h hx hl hk q;unfold Ai.V;have e0:(Ai.cells ⟨1,pa,va,rs⟩)[0]?=some (.int .i64 1):=rfl;have e1:(Ai.cells ⟨1,pa,va,rs⟩)[1]?=some (.string pa):=rfl;have e2:(Ai.cells ⟨1,pa,va,rs⟩)[2]?=some (.string va):=rfl;unfold vQ;go_in;go_wp2_with fail
 rw[U7];refine O.o.mono ?_;rintro e w1 ⟨rfl,H,K⟩;have X:=J H;have Z:=J ((A.o.mono kZ).trans K);clear H K;go_wp2_with fail
 refine bodyPost_end (results_none rfl _ _ _) rfl ?_
 obtain⟨g,cp,h1,h2,h3,h4⟩:=X.o
 exact⟨rfl,⟨g,cp,h1,h2,bF A.o.size h3,h4⟩,Z.o⟩
theorem jzh(s bm:Nat)(room:Int)(S:vT)(fr k pa va:vB)(rs:vM)(hf:fr.size<=100000)(hs:Ev W s bm room S)(y:Gk)(hy:Be S k.data.toList=some y)(d:Nat)(n:Ai)(hg:Gn (Bx d) n)(htx:y.2.2.text=Cu n)(hn:n=⟨1,pa,va,rs⟩)(hx:va.toList.isEmpty=false)(hlow:Op.bytesLess pa.toList (Bw fr).toList=false)(hk:Mo pa=true)(hp:pa.size<=1000000):vQ 109 #[s,k,fr] W fun e w'=>∃ c,e=.returned (.tuple #[.pointer (some ⟨c,0,none⟩),qa])/\W.heap.size<=c/\MJ W c s (Bw fr) pa va w'/\Af W w':=by
 have O:=hg.one (Bm d);have q:=fun w (h:Ev w s bm room S)=>AL w s bm room S k h;rw[hy]at q
 obtain⟨t,ht⟩:=vE y.2.2.text
 rw[<-ht]at htx;have a2:(some y).map (fun z:Gk=>z.2.2.text)=some t:=by rw[ht];rfl
 simp only[a2]at q;have c0:=J q;have HS:=J hs;have HG:=J hg;have a3:=J htx;have a4:=J O.refs;have a5:=J (n.cells_len O.refs);have a7:=J hlow;have HN:=J hn;clear hs hy hg htx ht q a2 O hlow hn;unfold vQ;go_in;go_wp2_with fail
 refine vH (c0.o W HS.o) fun w1 a8=>?_;unfold Cw;go_wp2_with fail
 rw[a3.o];refine vH (AJ (Bm d) w1 n HG.o) fun w2 hE=>?_;rw[<-a3.o];have c1:=J (a8.o.trans hE);clear a8;unfold Ai.V;go_wp2_with (refine Di Ac rfl rfl ?_;intro W5 a9 b0;refine Bt (vs:=n.cells) rfl rfl rfl rfl a9 (by rw[a5.o];rfl) (by rw[a5.o];exact Ab) n.one ?_;intro W6 b1 b2)
 have b3:Af w2 W6:=b0.trans' b2 kJ;refine vC (Zc W6 fr vO) fun A hE=>?_;have X:=J ((c1.o.trans b3).trans hE);have b4:=J (b1.keeps hE kI)
 obtain⟨pf,Z⟩:=vE (Bw fr)
 have c2:=J Z;rw[<-Z]at a7 ⊢;clear hE b3 b1 b2 b0 a9 Z;go_wp2_with fail
 obtain⟨W8,H⟩:=vE (A.alloc (.cells #[s,pf,qe,.int .i64 1] 292))
 have b5:Ae W8 A (.cells #[s,pf,qe,.int .i64 1] 292):=by rw[H];exact Ae.new A _
 have a0:Af A W8:=by rw[H];exact (Aa A).alloc _
 rw[<-H];have c3:Hid (Ye A s pf qe W8):=b5;have c4:=J (X.o.trans a0);have c5:=J X.o.size;have c7:=J (b4.o.keeps a0 kI);clear H b5 a0 b4 X;refine Lc [0,1,2,3,4] [4] Af Aa Ap vY vY vY ?_
 refine vP ?_
 refine qA _ A rfl zf (vS ?_)
 refine vP ?_
 refine qL w2 n.V rfl (fun w1 h1=>Ka w1 _ n a4.o (c7.o.keeps ((Ao _).trans h1) kI)) (vS ?_);refine qH _ rfl (fun w4 he K hK=>?_);have b6:=J (show Af W8 w4 from(Ao _).trans he);clear he;have hl:=wF w4 A s pf pa va rs (by have:=a4.o;rw[HN.o]at this;exact this) (Ae.keeps c3.o b6.o kI) hx a7.o hk hp;rw[<-HN.o]at hl;refine Ou (Fb (vX 152) vY) (hl.mono ?_);rintro e w5 ⟨rfl,b7,b8⟩
 refine⟨_,rfl,hK _ _ ?_⟩
 have H5:=J (bA b7 b8);clear hK K b7 b8 hl;refine qE (fun w6 he=>?_);have a1:=J he;clear he;refine vS ?_;go_wp2_with fail
 go_ret2
 obtain⟨⟨g,cp,h1,h2,h3,h4⟩,h5⟩:=H5.o
 have hz:=c5.o;have b9:=c4.o.trans b6.o;rw[c2.o]at h1
 exact⟨A.heap.size,rfl,hz,⟨g,cp,Ae.keeps h1 a1.o kI,h2.keeps a1.o kI,bF b9.size h3,h4⟩,(b9.trans' h5 fun x hx e=>by omega).trans a1.o⟩
theorem y1(c s g n cp:Nat)(fr p x:vB)(h:Ye c s fr (.slice (some g) n cp) W)(hn:n=0\/n=1/\1<=cp/\AW g p x W/\x.toList.isEmpty=false):vR 223 #[c] W (n == 1:):=by
 have H:=J h;have A:=J hn;clear h hn;unfold vR vQ;go_in;go_wp2_with fail
 go_loopw [2] (fun K wr=>K=.bool false/\Af W wr) (fun _ _=>0)
 case atStart=>exact⟨rfl,Aa W⟩
 case round =>obtain⟨rfl,q⟩:=hrel;have e:=J q;have O:=Ae.cell (i:=2) (v:=.slice (some g) n cp) (Ae.keeps H.o q kI) vF;clear q;rcases A.o with rfl|⟨rfl,hcp,hP,hx⟩;{(go_wp2_with fail);go_ret;exact⟨rfl,e.o⟩};have X:=Am hP.p0 e.o;(have Z:=Am hP.p1 e.o;have p3:=Am hP.p2 e.o;clear hP;go_wp2_with fail);go_ret;exact⟨rfl,e.o.alloc _⟩
def ME(p x:vB):Nat->vV
 |0=>.tuple #[.agg #[(),()],false]
 |_=>.tuple #[.agg #[Jh p,x],true]
theorem U6(c s g n cp:Nat)(fr p x:vB)(h:Ye c s fr (.slice (some g) n cp) W)(hn:n=0\/n=1/\1<=cp/\AW g p x W/\x.toList.isEmpty=false)(hk:Mo p=true)(hp:p.size<=1000000):vR 186 #[c] W (ME p x n):=by
 have Z:=(Aa W).alloc (.cells #[(),()] 46);have hB:=Ae.new W (.cells #[(),()] 46);have hs:=y1 _ c s g n cp fr p x (Ae.keeps h Z kI) (hn.imp id fun ⟨h1,X,h3,h4⟩=>⟨h1,X,h3.keeps Z kI,h4⟩);have HS:=J hs;have HB:=J hB;have HE:=J Z;have H:=J h;have HN:=J hn;have b6:=J (show ∀ w,vQ 177 #[p] w fun e w'=>e=.returned (.tuple #[Jh p,true])/\Af w w' from fun w=>by have:=FI w p hp;unfold Lg at this;rw[hk]at this;exact this)
 clear h hn hk hp Z hB hs;unfold vR vQ;go_in;go_wp2_with fail
 refine HS.o.mono ?_;rintro e w1 ⟨rfl,a0⟩;have A:=J (HE.o.trans a0);have a7:=J (HB.o.keeps a0 kI);clear a0;rcases HN.o with rfl|⟨rfl,hcp,hP,hx⟩
 ·(go_wp2_with (refine Bt (old:=[(),()]) (vs:=[(),()]) rfl rfl rfl rfl a7.o rfl Dq (by intro u hu;simp at hu;rcases hu with rfl|rfl<;>rfl) ?_;intro W8 a1 a2));refine bodyPost_ret (Ot rfl rfl rfl (MR a1)) rfl ?_;exact⟨rfl,A.o.trans' a2 kJ⟩
 have Q2:=J (Ae.cell (i:=2) (v:=.slice (some g) 1 cp) (Ae.keeps H.o A.o kI) vF);have HP:=J (hP.keeps A.o kI);have a8:Hid (c<w1.heap.size):=bD (Ae.lt H.o) A.o.size;clear hP hx;go_wp2_with fail
 refine Na [0,1,2,3,4,5,6,7,8,9,10,11,12,13] [12,13] Af (Ad fun b=>w1.heap.size<=b) Aa Ap (fun x y z h k=>Ad.trans h k) (fun x y h=>h.mono kZ) vY vY vY ?_
 refine vD ?_
 refine Lx _ c rfl zh (vS ?_)
 refine vD ?_
 refine Fa ⟨c,2,none⟩ _ rfl (fun q X=>Bv Hx rfl (Ed (Am Q2.o (Ao _)) X (by have:=a8.o;exact fun e=>absurd e (Nat.not_le.2 this)))) ?_;refine vS ?_
 refine vD ?_
 refine Lx _ c rfl zh (vS ?_)
 refine vD ?_
 refine Fa ⟨c,2,none⟩ _ rfl (fun q X=>Bv Hx rfl (Ed (Am Q2.o (Ao _)) X (by have:=a8.o;exact fun e=>absurd e (Nat.not_le.2 this)))) ?_;refine vS ?_;iterate 3 refine vD ?_
 refine Fa g _ rfl (fun q X=>by have a3:¬ w1.heap.size<=g:=Nat.not_le.2 HP.o.lt;exact T9 (Ed (Am HP.o.p0 (Ao _)) X a3) (Ed (Am HP.o.p1 (Ao _)) X a3) (Ed (Am HP.o.p2 (Ao _)) X a3)) ?_
 refine vS ?_;refine Hh _ rfl (fun q O K hK=>?_);have a9:=J (show Af w1 q from(Ao _).trans O);clear O;refine Ro (v:=.pointer (some q)) (w':=q.alloc (.cells [Value.string ⟨#[]⟩,.string ⟨#[]⟩,.string ⟨#[]⟩].toArray 364)) (by simp only[execOp,bQ,Qx,Result.andThen,cV]) (hK _ _ ((Ad.refl _ q).alloc _) ?_);clear hK K;refine vS ?_;refine Hh _ rfl (fun w3 O K hK=>?_);refine Yw (b:=q.heap.size) (old:=[Value.string ⟨#[]⟩,(),()]) (vs:=[p,x,()]) rfl rfl rfl ((Ae.new q _).keeps O kI) rfl Qi (by intro u hu;simp at hu;rcases hu with rfl|rfl|rfl<;>rfl) (fun w4 b0 a4=>hK _ _ (a4.mono fun x _ e=>by have:=a9.o.size;have e:x=q.heap.size:=e;omega) ?_);have b1:Hid (Af w1 w4):=(a9.o.trans ((((Aa q).alloc _).trans O).trans' a4 kJ));have b2:=J b0;clear hK K O b0 a4;refine vS ?_;refine Mt (fun w5 O=>?_);have b3:=J (b1.o.trans O);have a5:=b2.o.keeps O kI;have c0:=a5.cell (i:=0) (v:=.string p) vF;have b4:=J a5;clear O b1 b2 a5;go_wp2_with fail
 refine vC (b6.o w5) fun w6 Z=>?_;have c1:=(b4.o.keeps Z kI).cell (i:=1) (v:=.string x) vF;have b5:=J (b3.o.trans Z);have b7:=J (a7.o.keeps b5.o kI);clear Z b3 b4;go_wp2_with (refine Bt (old:=[(),()]) (vs:=[Jh p,x]) rfl rfl rfl rfl b7.o rfl Dq (by intro u hu;simp at hu;rcases hu with rfl|rfl<;>rfl) ?_;intro W8 a1 a2)
 refine bodyPost_ret (Ot rfl rfl rfl (MR a1)) rfl ?_
 exact⟨rfl,(A.o.trans b5.o).trans' a2 kJ⟩
theorem xC(c s g cp:Nat)(fr:vB)(h:Ye c s fr (.slice (some g) 1 cp) W):vQ 187 #[c] W fun e w'=>e=.returned (.tuple #[])/\Ye c s fr (.slice (some g) 0 cp) w'/\Ad (fun b=>b=c) W w':=by
 have Z:=J (Ae.cell (i:=2) (v:=.slice (some g) 1 cp) h vF);have H:=J h;clear h;unfold vQ;go_in;go_wp2_with fail
 refine Lc [0,1,2,3,4,5,6,7,8,9,10,11,12,13,14] [14] Af Aa Ap vY vY vY ?_;iterate 2 refine vP ?_
 refine qA _ c rfl zf (vS ?_)
 refine vP ?_
 refine qL ⟨c,2,none⟩ _ rfl (fun w1 O=>Bv Hx rfl (Am Z.o ((Ao _).trans O))) (vS ?_)
 refine vP ?_
 refine qA _ c rfl zf (vS ?_)
 refine vP ?_
 refine qL ⟨c,2,none⟩ _ rfl (fun w1 O=>Bv Hx rfl (Am Z.o ((Ao _).trans O))) (vS ?_);iterate 3 refine vP ?_
 refine qA _ c rfl zf (vS ?_)
 refine vP ?_
 refine qH _ rfl (fun X q K hK=>?_);have A:=Ae.keeps H.o ((Ao _).trans q) kI;have q1:X.cell? ⟨c,2,none⟩=some (.slice (some g) 1 cp):=A.cell (i:=2) vF;have f1:X.frozen? ⟨c,2,none⟩=false:=A.frozen;have HC:=J (bA ((Ao _).trans q) (A.set_same (i:=2) (.slice (some g) 0 cp)));clear q A;go_simp;refine hK _ _ ?_;clear hK K q1 f1;refine qE (fun w5 q=>?_);have HF:=J q;clear q;refine bodyPost_end (results_none rfl _ _ _) rfl ?_
 exact⟨rfl,Ae.keeps HC.o.2 HF.o kI,((HC.o.1.mono kZ).trans (Ad.oneSet X ⟨c,2,none⟩ _)).trans (HF.o.mono kZ)⟩
theorem mD(c s g n cp:Nat)(fr p x:vB)(h:Ye c s fr (.slice (some g) n cp) W)(hn:n=0\/n=1/\1<=cp/\AW g p x W/\x.toList.isEmpty=false)(hk:Mo p=true)(hp:p.size<=1000000):vQ 153 #[c] W fun e w'=>e=.returned (ME p x n)/\Ye c s fr (.slice (some g) 0 cp) w'/\Ad (fun b=>b=c) W w':=by
 have HC:=J (Ae.lt h);have H:=J h;have b4:=J (fun w (e:Af W w)=>U6 w c s g n cp fr p x (Ae.keeps h e kI) (hn.imp id fun ⟨h1,h2,h3,h4⟩=>⟨h1,h2,h3.keeps e kI,h4⟩) hk hp);have hn:n=0\/n=1:=hn.imp id (·.1);clear h hk hp;unfold vQ;go_in;go_wp2_with (refine Di Hk rfl rfl ?_;intro W1 a9 a2)
 refine vC (b4.o W1 a2) fun w2 a3=>?_;have K:=J (a2.trans a3);have b0:=J (a9.keeps a3 kI);have b5:=J (Ae.keeps H.o K.o kI);clear a9 a2 a3
 obtain⟨y,hy⟩:=vE (Jh p)
 rcases hn with rfl|rfl
 ·unfold ME;(go_wp2_with (first|(refine Di Hk rfl rfl ?_;intro W5 O X;refine Bt (vs:=[(),()]) rfl rfl rfl rfl O rfl Dq (LO _ _) ?_;intro W6 A Z;have q:Af w2 W6:=X.trans' Z kJ;have a4:=b0.o.keeps q kI;have a5:=UF (b:=w2.heap.size) (o:=0) (A.cell (i:=0) vF) (A.cell (i:=1) vF))|(refine Gz 46 (.tmp 4) rfl rfl _ _ rfl a5 ?_)|(refine Bt (vs:=[(),()]) rfl rfl rfl rfl a4 rfl Dq (LO _ _) ?_;intro W8 a7 a0)));refine bodyPost_ret (Ot rfl rfl rfl (MR a7)) rfl ?_;have b1:Af W W8:=(K.o.trans q).trans' a0 kJ;exact⟨rfl,Ae.keeps H.o b1 kI,b1.mono kZ⟩
 ·unfold ME;(rw[<-hy];have HY:=J hy;clear hy;go_wp2_with (first|(refine Di Hk rfl rfl ?_;intro W5 O X;refine Bt (vs:=[y,x]) rfl rfl rfl rfl O rfl Dq (LO _ _) ?_;intro W6 A Z)));(have q:Af w2 W6:=X.trans' Z kJ;refine (xC W6 c s g cp fr (Ae.keeps b5.o q kI)).mono ?_;rintro e w7 ⟨rfl,b2,a1⟩;have b3:=HC.o;have b6:=K.o.size;have a8:=A.keeps a1 vO;have a5:=UF (b:=w2.heap.size) (o:=0) (a8.cell (i:=0) vF) (a8.cell (i:=1) vF);have a4:=(b0.o.keeps q kI).keeps a1 vO;have b7:=J (((K.o.trans q).mono kZ).trans a1);have b8:=J b2;clear a1 a8 A Z X O q b3 b6 b2;go_wp2_with (first|(refine Gz 46 (.tmp 4) rfl rfl _ _ rfl a5 ?_)|(refine Bt (vs:=[y,x]) rfl rfl rfl rfl a4 rfl Dq (LO _ _) ?_;intro W8 a7 a0)));refine bodyPost_ret (Ot rfl rfl rfl (MR a7)) rfl ?_;have b3:=HC.o;exact⟨by rw[HY.o];rfl,Ae.keeps b8.o a0 vO,b7.o.trans' a0 kJ⟩
def Yh(c s:Nat)(fr p x:vB)(g cp:Nat)(O:Bd)(W:vW):Prop:=(∀ b,O b↔b=c\/b=g)/\Ye c s fr (.slice (some g) 1 cp) W/\AW g p x W
theorem Yh.supp(c s:Nat)(fr p x:vB)(g cp:Nat):Mg (Yh c s fr p x g cp):=by
 refine⟨fun D W h b hb=>?_,fun D W A h H hb=>?_⟩
 ·rcases (h.1 b).1 hb with rfl|rfl;{exact Ae.lt h.2.1};exact h.2.2.lt
 ·have K:=hb g ((h.1 g).2 (.inr rfl));have e:=fun i v (q:W.cell? ⟨g,i,none⟩=some v)=>(show A.cell? ⟨g,i,none⟩=some v by unfold World.cell? at *;rw[K];exact q);exact⟨h.1,(hb c ((h.1 c).2 (.inl rfl))).trans h.2.1,e _ _ h.2.2.p0,e _ _ h.2.2.p1,e _ _ h.2.2.p2,bD h.2.2.lt H⟩
def MD(_:Nat)(O:Bd)(_:vW):Prop:=∀ b,¬ O b
theorem MD.supp:Mg (MD k):=⟨fun D W h b hb=>absurd hb (h b),fun D W e h _ _=>h⟩
theorem l3(c s:Nat)(fr p x:vB)(g cp:Nat)(hcp:1<=cp)(hx:x.toList.isEmpty=false)(hk:Mo p=true)(hp:p.size<=1000000) :
  QO prog 110 #[c] #[] 1 (fun _=>#[Jh p,x]) (fun b=>b=c) (Yh c s fr p x g cp) MD:=by
 intro y C Cx hC b0 D O W hY h0 hS Z;have a0:=J (mD W c s g 1 cp fr p x hS.2.1 (.inr ⟨rfl,hcp,hS.2.2,hx⟩) hk hp);have b1:=J (fun W' h=>mD W' c s g 0 cp fr p x h (.inl rfl) hk hp);have a1:Hid (¬ D c):=fun h=>Z c h ((hS.1 c).2 (.inl rfl));have b2:Hid (c<W.heap.size):=Ae.lt hS.2.1;have HY:=J hY;have HC:=J hC;have c2:=J b0;have H0:=J h0
 obtain⟨q,hq⟩:=vE (Jh p)
 unfold ME at a0 b1;rw[<-hq]at a0 HY;clear hY hC b0 h0 hS Z hcp hx hk hp hq;refine callsIn_of_wp func110 rfl trivial ?_ rfl;simp only[ntmps110,cQ,bR,cZ,Nat.reduceAdd,Nat.reduceSub,cU,cT,dC,cW,cL,cS];gi_wp2_with fail
 refine⟨trivial,rfl,CallsIn.mono (callsIn_wide.2 a0.o) ?_⟩
 rintro e w1 ⟨rfl,b3,b4⟩;have c3:=J b3;have a2:=J b4;clear b3 b4;gi_wp2_with fail
 have hX:Af w1 (w1.alloc (.cells #[q,x] 46)):=(Aa w1).alloc _;have hB:Ae (w1.alloc (.cells #[q,x] 46)) w1 (.cells #[q,x] 46):=Ae.new w1 _;generalize w1.alloc (.cells #[q,x] 46)=w2 at hX hB ⊢;have HX:=J hX;have HB:=J hB;clear hX hB
 obtain⟨g1,a3⟩:=vE w1.heap.size
 rw[<-a3]at HB ⊢;have HG:=J a3;clear a3;gi_loopw [4,5] (fun gv bv wr=>(bv=.bool true/\gv=.pointer (some g1)/\wr=w2)\/(bv=.bool false/\∃ D5,C 1 D5 wr/\Ad (fun b=>D b\/b=c) W wr/\∀ b,D5 b->D b\/W.heap.size<=b)) (fun _ bv _=>match bv with | .bool true=>1|_=>0)
 case atStart=>exact .inl ⟨rfl,rfl,rfl⟩
 case round =>have X:Ad (fun b=>D b\/b=c) W w2:=(a2.o.mono fun b _ h=>.inr h).trans' HX.o (fun _ _ h=>h.elim);have hD:=fun b h=>(HC.o 0).lt _ _ H0.o b h;rcases hrel with⟨rfl,rfl,rfl⟩|⟨rfl,D5,hC5,hK5,hS5⟩;{have b5:C 0 D wr:=(HC.o 0).keeps ((HC.o 0).keeps H0.o a2.o fun b hb e=>a1.o (by rw[<-show b=c from e];exact hb)) HX.o (fun _ _ h=>h);obtain⟨fn,tm,c9,bd,d0,b6⟩:=HY.o 0 D wr vO b5 X;(have q0:=HB.o.cell (i:=0) (v:=.string q) vF;have q1:=HB.o.cell (i:=1) (v:=.string x) vF;have c4:=J b6;have a4:=J X;have HD:=J hD;clear b6 b5 X hD;gi_wp2_with fail);refine⟨rfl,c4.o.mono ?_⟩;rintro e A ⟨D5,k5,s5,H⟩;obtain⟨rfl,C5⟩:=H.resolve_right fun h=>c2.o _ _ _ h.2;(have a5:=k5;have a7:=HB.o.keeps k5 (fun h=>by have:=HD.o _ h;have:=a2.o.size;have:=HG.o;omega);have q0:=a7.cell (i:=0) (v:=.string q) vF;have q1:=a7.cell (i:=1) (v:=.string x) vF;have c7:=J (bA C5 (bA k5 s5));clear C5 k5 s5 a7 H;gi_wp2_with fail);have a8:Af A (A.alloc (.cells #[q,x] 46)):=(Aa A).alloc _;have b7:Ae (A.alloc (.cells #[q,x] 46)) A (.cells #[q,x] 46):=Ae.new A _;have b8:=Ae.keeps (Ae.keeps (Ae.keeps c3.o HX.o fun h=>h) a5 a1.o) a8 (fun h=>h);refine⟨trivial,rfl,CallsIn.mono (callsIn_wide.2 (b1.o _ b8)) ?_⟩;(rintro e w7 ⟨rfl, -,a9⟩;have b9:A.heap.size≠c:=by have:=b2.o;have:=a4.o.size;have:=a5.size;omega);(have K:=b7.keeps a9 b9;have p0:=K.cell (i:=0) (v:=.string q) vF;have p1:=K.cell (i:=1) (v:=.string x) vF;have f0:w7.frozen? A=false:=K.frozen;have f1:w7.frozen? ⟨A.heap.size,1,none⟩=false:=K.frozen;have c0:=J (bA a8 a9);clear a8 b7 b8 a9 b9 K q0 q1 a5;gi_wp2_with fail);obtain⟨c5,k5,s5⟩:=c7.o;(have ks:=(Ad.oneSet w7 A ()).trans (Ad.oneSet (w7.setCell A ()) ⟨A.heap.size,1,none⟩ ());have hz:=a4.o.size;have c1:=((c0.o.1.mono fun _ _ e=>e.elim).trans c0.o.2).trans' ks (F:=fun b=>b=c) (fun b hb e=>by have e:b=A.heap.size:=e;omega);have c8:¬ D5 c:=fun h=>by have:=b2.o;rcases s5 c h with h|h;{exact a1.o h};omega);refine⟨.inr ⟨rfl,D5,(HC.o 1).keeps c5 c1 fun b hb e=>c8 (by rw[<-show b=c from e];exact hb),((a4.o.trans' k5 fun b _ h=>.inl h)).trans' c1 fun b _ h=>.inr h,fun b hb=>(s5 b hb).imp id fun h=>by omega⟩,by decide⟩};have HF:Hid (VF W (fun b=>b=c) D O 1 C Cx MD (.returned (.tuple #[])) wr):=J ⟨⟨_,rfl⟩,D5,fun _=>False,hK5,hS5,fun b h=>h.elim,fun b _ h=>h,.inl ⟨hC5,fun b h=>h⟩⟩;clear hC5 hK5 hS5 X hD;gi_wp2;refine bodyPost_end (results_none rfl _ _ _) rfl ?_;exact HF.o
structure JL(t t5:Nat)(to:vB)(k:Nat)(D:Bd)(W:World):Prop where
 is:∀ b,D b↔(t<=b/\b<=t+4)\/b=t5
 a:DX t to 1 W
 b5:∃ a c,Ae W t5 (.cells #[.slice a k c] 47)/\(k=0->a=none/\c=0)
theorem JL.supp(t t5:Nat)(to:vB)(k:Nat):Mg (JL t t5 to k):=by
 refine⟨fun D W h b hb=>?_,fun D W H h Z hb=>?_⟩
 ·obtain⟨a,c,A, -⟩:=h.b5;rcases (h.is b).1 hb with e|rfl;{have:=h.a.b4.lt;omega};exact A.lt
 ·obtain⟨a,c,A,K⟩:=h.b5;have q:∀ b,t<=b->b<=t+4->H.heap[b]?=W.heap[b]?:=fun b O X=>hb b ((h.is b).2 (.inl ⟨O,X⟩));exact⟨h.is,⟨(q _ vO vO).trans h.a.b0,(q _ vO vO).trans h.a.b1,(q _ vO vO).trans h.a.b2,(q _ vO vO).trans h.a.b3,(q _ vO vO).trans h.a.b4⟩,a,c,(hb t5 ((h.is t5).2 (.inr rfl))).trans A,K⟩
theorem O7(s:Nat)(fr to k p x:vB)(hSK:∀ w,Af W w->vQ 109 #[s,k,fr] w fun e w'=>∃ c,e=.returned (.tuple #[.pointer (some ⟨c,0,none⟩),qa])/\w.heap.size<=c/\MJ w c s (Bw fr) p x w'/\Af w w')(hx:x.toList.isEmpty=false)(hk:Mo p=true)(hp:p.size<=1000000)(hlt:Op.bytesLess (Jh p).toList to.toList=true):vQ 52 #[s,k,fr,to,.int .i64 1] W fun e w'=>(∃ la lc,e=.returned (.tuple #[.slice la 1 lc,false,qa]))/\Af W w':=by
 have c9:=J hSK;have a9:=J (fun c s fr g cp h=>l3 c s fr p x g cp h hx hk hp);clear hSK hx hk hp
 obtain⟨q,hq⟩:=vE (Jh p)
 rw[<-hq]at hlt a9;clear hq;refine (callsIn_wide (n:=0)).1 ?_;refine callsIn_of_wp_marks func52 rfl trivial ?_ rfl;simp only[ntmps52,cQ,bR,cZ,Nat.reduceAdd,Nat.reduceSub,cU,cT,dC,cW,cL,cS];gi_wp2_with fail
 have hA:=DX.new W to 1;have a1:Af W (((((W.alloc (.cells #[to] 9)).alloc (.cells #[.int .i64 1] 3)).alloc (.cells #[qe] 47)).alloc (.cells #[false] 4)).alloc (.cells #[qa] 27)):=((((((Aa W).alloc _).alloc _).alloc _).alloc _)).alloc _
 refine⟨trivial,rfl,CallsIn.mono (callsIn_wide.2 (c9.o _ a1)) ?_⟩
 rintro e w1 ⟨c,rfl,hc,⟨g,cp,hC,hP,hg,b6,b7⟩,hX⟩;have b8:W.heap.size+5<=c:=by simpa using hc
 have HX:=J (a1.trans hX);have HA:=J (hA.keeps hX fun _ _ _ h=>h);have p1:w1.cell? (W.heap.size+1:)=some (.int .i64 1):=HA.o.b1.cell (i:=0) vF;have HC:=J (bA b8 (bA hC (bA hP (bA b6 b7))));clear hA a1 hX hc hC hP hg b6 b7 b8;gi_wp2_with fail
 clear p1
 obtain⟨w2,Z⟩:=vE (w1.alloc (.cells #[qe] 47))
 have X:Af w1 w2:=by rw[Z];exact (Aa w1).alloc _
 have a2:Ae w2 w1 (.cells #[qe] 47):=by rw[Z];exact Ae.new w1 _
 rw[<-Z];have a3:=HC.o.1;have d0:=HC.o.2.2.1.lt;have b9:=HC.o.2.2.2.1;have c0:=HA.o.keeps X (fun _ _ _ h=>h);have c1:=J (HX.o.trans X);have d1:=X.size;have d2:=HA.o.b4.lt
 obtain⟨t5,c2⟩:=vE w1.heap.size
 rw[<-c2]at a2 ⊢;have a4:JL W t5 to 0 (fun b=>(W.heap.size<=b/\b<=W.heap.size+4)\/b=t5) w2:=⟨fun _=>Iff.rfl,c0,_,_,a2,fun _=>⟨rfl,rfl⟩⟩;have a5:Yh c s (Bw fr) p x g cp (fun b=>b=c\/b=g) w2:=⟨fun _=>Iff.rfl,Ae.keeps HC.o.2.1 X kI,HC.o.2.2.1.keeps X kI⟩;have HZ:=J (show W.heap.size+5<=c/\W.heap.size+5<=t5/\W.heap.size+5<=w2.heap.size from⟨a3,by omega,by omega⟩);have HD:=J (show W.heap.size+5<=c/\c<g/\g<t5 from⟨a3,b9,by omega⟩);clear Z X a2 c0 d1 a3 d0 b9 d2 c2;refine lH (gf:=110) (pre:=#[.pointer (some ⟨c,0,none⟩)]) (lb:=#[]) rfl (vX 110) (a9.o c s (Bw fr) g cp HC.o.2.2.2.2) (Yh.supp c s (Bw fr) p x g cp) (fun k=>rfl) (JL W t5 to) (JL.supp W t5 to) _ _ a4 a5 (fun b hb ho=>by have:=HD.o;rcases ho with rfl|rfl<;>rcases hb with hb|hb<;>omega) ?hround ?hdone MD.supp
 case hround =>intro y j D W8 K hj A hz hK;simp only[FG];gi_wp2;refine hK _ _ (Aa W8) fun H A _ _=>?_;obtain rfl:j=0:=vO;obtain⟨_,_,h5,h6⟩:=A.b5;obtain⟨rfl,rfl⟩:=h6 rfl;(have HG:=J A;have H5:=J h5;have p0:=A.a.b0.cell (i:=0) (v:=.string to) vF;have p1:H.cell? (W.heap.size+1:)=some (.int .i64 1):=A.a.b1.cell (i:=0) vF;have p5:=h5.cell (i:=0) (v:=.slice none 0 0) vF;clear A h5 h6 a4 a5;gi_wp2_with (gi_at_builtin;refine Z_ Fk (Ar.nil _ _ ((Aa H).alloc _)) (.tmp 46) (.tmp 50) rfl rfl rfl (Jx (Ae.new H _)) (news:=[q,x]) (LO _ _) rfl rfl vI vI ?_;intro d8 w' r1 r2 r3;have a0:=(H5.o.keeps ((Aa H).alloc (.cells #[q,x] 46)) kI).keeps r2 (fun e=>by cases e);have p5:=a0.cell (i:=0) (v:=.slice none 0 0) vF;have f5:w'.frozen? t5=false:=a0.frozen;have a7:=J (bA (((Aa H).alloc _).trans' r2 (fun _ _ e=>by cases e):Af H w') a0);obtain⟨c3,c4,d3⟩:=r1.sl;subst d3;clear r1 r2 r3 a0));have ks:=Ad.oneSet w' t5 (.slice c3 1 c4);have ha:=HZ.o;refine⟨D,(a7.o.1.mono kZ).trans' ks fun b _ e=>(HG.o.is b).2 (.inr e),fun b hb=>.inl hb,HG.o.is,HG.o.a.keeps ((a7.o.1.mono kZ).trans ks) fun b h1 h2 e=>by have e:b=t5:=e;omega,c3,c4,a7.o.2.set_same (i:=0) _,fun e=>by cases e⟩
 case hdone =>intro D O H c5 A d4 c7;obtain⟨la,lc,h5, -⟩:=A.b5;have a8:=J A.a;have d5:=J c7;have c8:Af W H:=c1.o.trans' c5 (fun b hb e=>by have:=HZ.o;rcases e with (e|e)|e<;>omega);(have d6:=J c8;have p5:=h5.cell (i:=0) (v:=.slice la 1 lc) vF;have p2:H.cell? (W.heap.size+1+1:)=some (.slice none 0 0):=A.a.b2.cell (i:=0) vF;have p3:H.cell? (W.heap.size+1+1+1:)=some (.bool false):=A.a.b3.cell (i:=0) vF;have p4:H.cell? (W.heap.size+1+1+1+1:)=some (.int .i64 0):=A.a.b4.cell (i:=0) vF;have f2:H.frozen? (W.heap.size+1+1:)=false:=A.a.b2.frozen;have f3:H.frozen? (W.heap.size+1+1+1:)=false:=A.a.b3.frozen;have f4:H.frozen? (W.heap.size+1+1+1+1:)=false:=A.a.b4.frozen;clear A c5 d4 c7 a4 a5 c8 h5;gi_wp2_with fail);obtain⟨g2,g3,g4,gk⟩:=zC (.slice la 1 lc) false qa a8.o.b2 a8.o.b3 a8.o.b4;have d7:=d5.o.keeps gk (kL HZ.o);refine⟨by simp,.inl ⟨_,_,rfl,run_takeDeferred d7,?_⟩⟩;have d9:=HZ.o;refine⟨_,T2 (g2.put_other vO _) (g3.put_other vO _) (g4.put_other vO _) rfl rfl rfl,⟨_,_,rfl⟩,?_⟩;exact (d6.o.trans' gk fun b hb e=>by omega).trans' (Ad.onePut _ w2 (.deferred none)) (fun b hb e=>kL c1.o.size)
structure RU(W0 W:World)(wb:Nat)(v:Value)(nodes:vM):Prop where
 cubes:Ha W0
 rd:Ie W0 v nodes
 ext:Af W0 W
 lo:W0.heap.size<=wb
 few:nodes.length<=1000000
structure ML(W0:World)(wb:Nat)(v:Value)(nodes:vM):Prop where
 cubes:Ha W0
 rd:Ie W0 v nodes
 lo:W0.heap.size<=wb
 few:nodes.length<=1000000
theorem ML.at'{W0 W:vW}{wb:Nat}(h:ML W0 wb v nodes)(hz:W0.heap.size<=W.heap.size)(hb:∀ b,b<W0.heap.size->W.heap[b]?=W0.heap[b]?):RU { W with heap:=W0.heap } W wb v nodes:=
 ⟨h.cubes,h.rd,⟨rfl,rfl,rfl,hz,fun b e _=>hb b e⟩,h.lo,h.few⟩
def IP(wb:Nat)(root:vB)(v:vV)(_:Nat)(O:Bd)(W:vW):Prop:=(∀ b,O b->b<W.heap.size)/\O wb/\Nw W wb root v 1 .nilIface
theorem IP.supp(root:vB)(v:vV)(k:Nat):Mg (IP wb root v k):=
 ⟨fun D W h b hb=>h.1 b hb,fun D W K ⟨q,e,A⟩ H hb=>⟨fun b h=>bD (q b h) H,e,(hb _ e).trans A⟩⟩
structure sE(w w':World)(wb:Nat)(root:vB)(v:Value):Prop where
 kp:Ad (fun b=>b=wb) w w'
 way:Nw w' wb root v 1 .nilIface
structure jzN(W w':World)(wb:Nat)(root:vB)(v:Value)(L:Nat)(m:Ai):Prop where
 kp:Ad (fun b=>b=wb) W w'
 new:W.heap.size<=L
 var:Ae w' L (.cells m.cells.toArray 214)
 way:Nw w' wb root v 1 .nilIface
theorem jzr(root:vB)(v:vV)(nodes:vM)(u:Nat)(ev:vV)(t:vB)(m:Ai)(hB:RU W0 W wb v nodes)(hW:Nw W wb root v u ev)(hu:nodes[u]?=some t)(hm:m.refs.length=16)(hG:∀ w,Af W0 w->vR 113 #[t] w (.tuple #[m.V,qa])):vQ 181 #[wb,Aj t] W (yL W wb root v u ev (some m)):=by
 have a3:u<nodes.length:=(bI.1 hu).1;have b2:=hB.few
 obtain⟨b,o,c,hv,b3,b4,O⟩:∃ b o c,v=.slice (some ⟨b,o,none⟩) nodes.length c/\b<W0.heap.size/\nodes.length<=c/\∀ (j:Nat) x,nodes[j]?=some x->W0.cell? ⟨b,o+j,none⟩=some (.string x):=by rcases hB.rd with⟨a,c,q,h2⟩|h;{rw[h2]at a3;cases a3};exact h
 unfold Nw at hW;have qt:=Am (O u t hu) hB.ext;have q1:=hW.cell (i:=1) (v:=v) vF;have q2:=hW.cell (i:=2) (v:=.int .i64 (u:Int)) vF;have b5:=J hW.lt;have HW:=J hW;have HB:=J hB
 obtain⟨n,hn⟩:=vE nodes.length
 rw[<-hn]at hv a3 b4 b2;have c1:¬(n:Int)<=(u:Int):=vO
 have c2:(u:Int)<(n:Int):=vO
 have c3:(0:Int)<=(u:Int):=vO
 have c4:decide (n<=u)=false:=decide_eq_false vO;have c5:(u:Int)<=1000000:=vO
 have HV:=J hv;have HG:=J hG;have HM:=J hm;have e3:=J (show u<=1000000 by omega);have d5:=J qt;have d6:=J (show b<W.heap.size/\b≠wb from⟨bD b3 hB.ext.size,kL hB.lo⟩)
 obtain⟨sh,a5⟩:=vE (Aj t)
 have d7:=J a5;rw[<-a5];clear hB hW hu hn hv a3 b2 b3 b4 O hG hm a5;have e4:(sh.toList == sh.toList)=true:=by simp
 unfold vQ;go_in;go_wp2_with (refine Di Ac rfl rfl ?_;intro W1 b6 X)
 have Q1:=J (Am q1 X);have Q2:=J (Am q2 X);have QT:=J (Am qt X);have b7:=J b6;have b8:=J X;clear b6 X q1 q2 qt;rw[HV.o]at Q1;refine Hs [0,1,2,3,4,5,6,7,8,9,10,11,12,13,14,15,16,17,18,19,20,23,21,22,24,25] Af Aa Ap vY vY vY ?_
 refine vK ?_
 refine Jf _ wb rfl zh (vS ?_)
 refine vK ?_
 refine Db ⟨wb,2,none⟩ (u:Int) rfl (fun w1 q=>Bv underlying3 rfl (Am (by exact Q2.o) q)) (vS ?_)
 refine vK ?_
 refine Jf _ wb rfl zh (vS ?_)
 refine vK ?_
 refine Db ⟨wb,1,none⟩ (.slice (some ⟨b,o,none⟩) n c) rfl (fun w1 q=>Bv underlying48 rfl (Am (by exact Q1.o) q)) (vS ?_);iterate 4 refine vK ?_
 refine Jf _ wb rfl zh (vS ?_)
 refine vK ?_
 refine Db ⟨wb,1,none⟩ (.slice (some ⟨b,o,none⟩) n c) rfl (fun w1 q=>Bv underlying48 rfl (Am (by exact Q1.o) q)) (vS ?_)
 refine vK ?_
 refine Jf _ wb rfl zh (vS ?_)
 refine vK ?_
 refine Db ⟨wb,2,none⟩ (u:Int) rfl (fun w1 q=>Bv underlying3 rfl (Am (by exact Q2.o) q)) (vS ?_)
 refine vK ?_
 refine Db ⟨b,o+u,none⟩ t rfl (fun w1 q=>Bv underlying9 rfl (Am (by exact QT.o) q)) (vS ?_)
 refine vK ?_
 refine CW _ rfl vY rfl (fun w2 h2 K hK=>?_);have b9:=J (show Af W1 w2 from(Ao W1).trans h2);have c0:=J (BS w2 [t] 9);clear h2;go_simp;refine hK _ _ ((Aa w2).alloc _) ?_;clear hK K;have Z:=J (show Af W1 (w2.alloc (.cells #[t] 9))from b9.o.trans ((Aa w2).alloc _));refine Ma _ 45 _ (Aj (Aw [t])) rfl (fun w1=>Fb (vX 45) vY) (fun w4 h4=>Tr w4 _ [t] (by simp) (c0.o.ext (by exact h4)) (HB.o.cubes.ext (HB.o.ext.trans (b8.o.trans (Z.o.trans h4))))) ?_;rw[CX, <-d7.o];refine vS ?_;iterate 2 refine vK ?_
 refine Hi (fun w3 h3=>?_);have a7:=Z.o.trans h3;have a8:=J (b7.o.keeps a7 kI);have A:=J (b8.o.trans a7);have a0:Hid (Nw w3 wb root v u ev):=Ae.keeps HW.o A.o kI;clear h3 a7 b7 Q1 Q2 QT b9 Z c0;go_wp2_with fail
 have q2:=a0.o.cell (i:=2) (v:=.int .i64 (u:Int)) vF;have q1:=a0.o.cell (i:=1) (v:=v) vF;rw[HV.o]at q1;have Q1:=J q1;have Q2:=J q2;have QT:=J (Am d5.o A.o);have NA:=J (show ¬ w3.heap.size<=wb by have:=a0.o.lt;omega);have NB:=J (show ¬ w3.heap.size<=b by have:=d6.o.1;have:=A.o.size;omega);clear q1 q2;refine Na [0,1,2,3,4,5,6,7,8,9,10,11,12,13,14,15,16] [14,15] Af (Ad fun b=>w3.heap.size<=b) Aa Ap (fun x y z h k=>Ad.trans h k) (fun x y h=>h.mono kZ) vY vY vY ?_
 refine vD ?_
 refine Lx _ wb rfl zh (vS ?_)
 refine vD ?_
 refine Fa ⟨wb,1,none⟩ (.slice (some ⟨b,o,none⟩) n c) rfl (fun w1 q=>Bv underlying48 rfl (Ed (by exact Q1.o) q NA.o)) (vS ?_)
 refine vD ?_
 refine Lx _ wb rfl zh (vS ?_)
 refine vD ?_
 refine Fa ⟨wb,2,none⟩ (u:Int) rfl (fun w1 q=>Bv underlying3 rfl (Ed (by exact Q2.o) q NA.o)) (vS ?_)
 refine vD ?_
 refine Fa ⟨b,o+u,none⟩ t rfl (fun w1 q=>Bv underlying9 rfl (Ed (by exact QT.o) q NB.o)) (vS ?_);refine GA _ 113 _ (.tuple #[m.V,qa]) rfl vY rfl (fun w1=>Fb (vX 113) vY) (fun w1 q=>HG.o w1 (((HB.o.ext.trans A.o).trans (Ao w3)).trans' q fun x hx hw=>kL ((HB.o.ext.trans A.o).size))) (vS ?_);iterate 3 refine vD ?_
 refine Hh _ rfl (fun w4 h4 K hK=>?_);have a1:=(Ao w3).trans h4;refine WN Ac rfl ?_;intro W5 c7 a9;refine hK _ _ (Lk a9) ?_;clear hK K h4;refine vS ?_;refine Hh _ rfl (fun w6 h6 K hK=>?_);refine Yw (vs:=m.cells) rfl rfl rfl (c7.keeps h6 kI) (by rw[m.cells_len HM.o];rfl) (by rw[m.cells_len HM.o];exact Ab) m.one ?_;intro W7 c8 b0;have c9:=(a1.trans a9).trans h6;have d0:=c9.trans' b0 (fun x hx e=>by have e:x=w4.heap.size:=e;have:=a1.size;omega);refine hK _ _ (b0.mono fun x hx e=>by have e:x=w4.heap.size:=e;have:=a1.size;show w3.heap.size<=x;omega) ?_;clear hK K h6 b0;refine vS ?_
 refine vD ?_
 refine Mt (fun w8 h8=>?_);have a4:=J (d0.trans h8);have d8:=J (A.o.trans a4.o);have d1:=J (c8.keeps h8 kI);have d9:=J (a8.o.keeps a4.o kI);have d2:Hid (Nw w8 wb root v u ev):=Ae.keeps a0.o a4.o kI;have d3:=J (show W.heap.size<w4.heap.size/\wb<w4.heap.size by have:=a1.size;have:=a8.o.lt;have:=a0.o.lt;omega);clear a1 c7 a9 c8 c9 d0 h8 Q1 Q2 QT NA NB a8 a4
 obtain⟨mb,d4⟩:=vE w4.heap.size
 rw[<-d4]at d1 d3 ⊢;clear d4;have H:Nw w8 wb root v u ev:=d2.o;unfold Nw at H;have q2:=H.cell (i:=2) (v:=.int .i64 (u:Int)) vF;have f2:w8.frozen? ⟨wb,2,none⟩=false:=H.frozen;have e0:=d1.o.set_other (p:=⟨wb,2,none⟩) (by have:=d3.o;show mb≠wb;omega) (.int .i64 ((u:Int)+1));have e1:=d9.o.set_other (p:=⟨wb,2,none⟩) (by have:=b5.o;show W.heap.size≠wb;omega) (.int .i64 ((u:Int)+1));clear H;go_wp2_with (first|(refine Gz 214 (.tmp 6) rfl rfl _ _ rfl (Ka _ _ m HM.o e0) ?_)|(refine Bt (vs:=m.cells) rfl rfl rfl rfl e1 (by rw[m.cells_len HM.o];rfl) (by rw[m.cells_len HM.o];exact Ab) m.one ?_;intro e2 b1 a2))
 refine bodyPost_ret (Ot rfl rfl rfl (Qb e2 _ m HM.o b1)) rfl ?_;have H:Nw w8 wb root v u ev:=d2.o
 refine⟨((Lk d8.o:Ad (fun b=>b=wb) W w8).trans (Ad.oneSet w8 ⟨wb,2,none⟩ _)).trans' a2 kJ,rfl,?_,HM.o⟩
 have h9:=Ae.set_same (i:=2) H (.int .i64 ((u:Int)+1));exact Ae.keeps h9 a2 (fun e=>by have e:wb=W.heap.size:=e;have:=b5.o;omega)
theorem U2(pc:Nat)(t:vB)(v:vV)(p0:vB)(m:Ai)(hm:m.refs.length=16)(hG:∀ w,vR 113 #[t] w (.tuple #[m.V,qa]))(hST:∀ w,vR 182 #[m.V,p0] w (.tuple #[(),p0]))(hS:ML W0 wb v [t])(hne:W0.heap.size<=b1/\W0.heap.size<=pc/\b1≠wb/\b1≠pc/\wb≠pc):QO prog 180 #[] #[b1,pc] 1 (RD [(m,p0)]) (fun b=>b=wb\/b=pc) (Wm W0 b1 wb pc (Aj t) v p0) (IP wb (Aj t) v):=by
 intro y C Cx hC d4 D O W hY h0 A a0;have d5:=J (show ∀ w,Ad (fun b=>D b\/b=wb\/b=pc) W w->RU { w with heap:=W0.heap } w wb v [t]from fun w k=>hS.at' (bF A.size k.size) fun b hb=>(k.block b (bD hb A.size) (fun e=>by rcases e with e|e|e;{exact a0 b e ((A.is b).2 (.inl hb))};{have:=hS.lo;omega};omega)).trans (A.old b hb))
 have a9:=J (show ¬ D b1/\¬ D wb/\¬ D pc from⟨fun h=>a0 _ h ((A.is _).2 (.inr (.inl rfl))),fun h=>a0 _ h ((A.is _).2 (.inr (.inr (.inl rfl)))),fun h=>a0 _ h ((A.is _).2 (.inr (.inr (.inr rfl))))⟩);have Z:=J (show b1<W.heap.size/\wb<W.heap.size/\pc<W.heap.size from⟨A.cap.lt,Ae.lt A.way,A.path.lt⟩);have f5:=J (show O wb from(A.is _).2 (.inr (.inr (.inl rfl))));have Q1:=J (A.cap.cell (i:=0) (v:=.pointer (some wb)) vF);have c3:=J (fun w hB hW=>jzr { w with heap:=W0.heap } w wb (Aj t) v [t] 0 .nilIface t m hB hW rfl hm fun w _=>hG w);have HM:=J hm;have f6:=J hST
 obtain⟨H,d6⟩:=vE (Aj t)
 rw[<-d6]at c3 A ⊢;have QR:=J (Nw.root' A.way);have HY:=J hY;have HC:=J hC;have f7:=J d4;have H0:=J h0;have HS:=J A;have b8:=J hne;clear hY hC d4 h0 A a0 hS hne hm hG hST d6;have d7:=J (show ¬(b1=wb\/W.heap.size<=b1)from fun e=>by have:=b8.o;have:=Z.o;omega);refine callsIn_of_wp func180 rfl trivial ?_ rfl;simp only[ntmps180,cQ,bR,cZ,Nat.reduceAdd,Nat.reduceSub,cU,cT,dC,cW,cL,cS];gi_wp2_with fail
 refine wpIn_wide.2 (wp_mono (Q:=fun e a' w'=>e=.normal/\∃ L:Nat,a'=tA y b1 pc wb H L m true/\jzN W w' wb H v L m) (u_ [5,9,10] Af (Yg wb W) Aa Ap (Yg.trans wb W) (Yg.ext wb W) vY vY 12 vY ?_) ?_);refine UG (k:=0) b1 wb rfl vY rfl rfl (fun w1 h1=>Bv underlying330 rfl (Ed (by exact Q1.o) h1.1 d7.o)) (vS ?_);refine UG (k:=1) b1 wb rfl vY rfl rfl (fun w1 h1=>Bv underlying330 rfl (Ed (by exact Q1.o) h1.1 d7.o)) (vS ?_);refine nT (k:=2) _ wb rfl vY rfl zh (vS ?_);refine BI (k:=3) _ rfl vY rfl rfl (fun K q=>?_);go_big_quiet_op;refine q _ ?_;clear q K;refine UG (k:=4) wb H rfl vY rfl rfl (fun w1 h1=>Bv underlying9 rfl (h1.2 _ (by exact QR.o))) (vS ?_);refine F2 5 9 _ _ vY rfl rfl rfl rfl (fun w2 h2 K q=>?_) (fun w2 h2 K q=>?_)
 ·have a3:=(Ao W).trans h2;refine Ou (Fb (vX 181) vY) ((c3.o w2 (d5.o w2 (Lk a3)) (Ae.keeps HS.o.way a3 kI)).mono ?_);rintro e w3 ⟨c4,rfl,c5, -⟩;have X:sE w2 w3 wb H v:=⟨c4,c5⟩;refine⟨_,rfl,q _ _ ⟨X.kp.mono fun _ _ h=>.inl h,fun rt e=>?_⟩ ?_⟩;{have hr:=Nw.root' (Ae.keeps HS.o.way a3 kI);rw[hr]at e;rw[Nw.root' X.way];exact e};clear q K;have HF:=J X;have HX:=J a3;clear X a3 h2;refine vS ?_;refine BI (k:=6) _ rfl vY rfl rfl (fun K q=>?_);go_big_quiet_op;refine q _ ?_;clear q K;refine BI (k:=7) _ rfl vY rfl rfl (fun K q=>?_);go_big_quiet_op;refine q _ ?_;clear q K;refine BI (k:=8) _ rfl vY rfl rfl (fun K q=>?_);go_big_quiet_op;refine q _ ?_;clear q K;refine NV (k:=9) _ rfl vY rfl (fun w4 h4 K q=>?_);refine WN Ac rfl ?_;intro W5 b2 b0;refine q _ _ (Yg.ext _ _ _ _ b0) ?_;clear q K;refine vS ?_;refine NV (k:=10) _ rfl vY rfl (fun w6 h6 K q=>?_);refine Yw (vs:=m.cells) rfl rfl rfl (b2.keeps h6 kI) (by rw[m.cells_len HM.o];rfl) (by rw[m.cells_len HM.o];exact Ab) m.one ?_;intro W7 c7 a5;have d8:Af w3 w4:=h4;have g8:W.heap.size<=w3.heap.size:=bF HX.o.size HF.o.kp.size;have f8:=d8.size;refine q _ _ ⟨a5.mono fun x hx e=>by have e:x=w4.heap.size:=e;exact .inr vO,fun rt e=>Ed e a5 fun e=>by have e:wb=w4.heap.size:=e;have:=Z.o;omega⟩ ?_;clear q K;refine vS ?_;refine BI (k:=11) _ rfl vY rfl rfl (fun K q=>?_);go_big_quiet_op;refine q _ ?_;clear q K;refine nS vY (fun w8 h8=>?_);have f9:Af w3 W7:=((d8.trans b0).trans h6).trans' a5 kJ;have d9:=f9.trans h8;have a4:=c7.keeps h8 kI;obtain⟨L,hL⟩:=vE w4.heap.size;rw[<-hL]at a4 f8 ⊢;refine⟨trivial,L,rfl,⟨((Lk HX.o:Ad (fun b=>b=wb) W w2).trans HF.o.kp).trans (Lk d9),by omega,a4,?_⟩⟩;have b9:=HX.o.size;exact Ae.keeps HF.o.way d9 kI
 ·have a3:=(Ao W).trans h2;refine WN Ac rfl ?_;intro W5 b2 b0;refine q _ _ (Yg.ext _ _ _ _ b0) ?_;clear q K;refine vS ?_;refine NV (k:=5) _ rfl vY rfl (fun b3 c0 K q=>?_);have a1:=(a3.trans b0).trans c0;have e0:w2.heap.size<b3.heap.size:=bD b2.lt c0.size;have b9:=a3.size;have a2:=b2.keeps c0 kI;obtain⟨L,hL⟩:=vE w2.heap.size;rw[<-hL]at a2 e0 b9 ⊢;clear hL b2 b0 h2 c0 a3 W5;refine Ou (Fb (vX 181) vY) ((c3.o b3 (d5.o b3 (Lk a1)) (Ae.keeps HS.o.way a1 kI)).mono ?_);rintro e w3 ⟨c4,rfl,c5, -⟩;have X:sE b3 w3 wb H v:=⟨c4,c5⟩;refine⟨_,rfl,q _ _ ⟨X.kp.mono fun _ _ h=>.inl h,fun rt e=>?_⟩ ?_⟩;{have hr:=Nw.root' (Ae.keeps HS.o.way a1 kI);rw[hr]at e;rw[Nw.root' X.way];exact e};clear q K;have HF:=J X;have HX:=J a1;have g9:=J (bA e0 b9);have b6:=a2.keeps X.kp (fun e=>by have e:L=wb:=e;have:=Z.o;omega);clear X a1 a2;refine vS ?_;refine BI (k:=6) _ rfl vY rfl rfl (fun K q=>?_);go_big_quiet_op;refine q _ ?_;clear q K;refine BI (k:=7) _ rfl vY rfl rfl (fun K q=>?_);go_big_quiet_op;refine q _ ?_;clear q K;refine BI (k:=8) _ rfl vY rfl rfl (fun K q=>?_);go_big_quiet_op;refine q _ ?_;clear q K;refine NV (k:=10) _ rfl vY rfl (fun w6 h6 K q=>?_);refine Yw (vs:=m.cells) rfl rfl rfl (b6.keeps h6 kI) (by rw[m.cells_len HM.o];rfl) (by rw[m.cells_len HM.o];exact Ab) m.one ?_;intro W7 c7 a5;refine q _ _ ⟨a5.mono fun x hx e=>by have e:x=L:=e;exact .inr vO,fun rt e=>Ed e a5 fun e=>by have e:wb=L:=e;have:=Z.o;omega⟩ ?_;clear q K;refine vS ?_;refine BI (k:=11) _ rfl vY rfl rfl (fun K q=>?_);go_big_quiet_op;refine q _ ?_;clear q K;refine nS vY (fun w8 h8=>?_);have a4:=c7.keeps h8 kI;have g0:Af w3 w6:=h6;have e1:Ad (fun b=>b=L) w3 w8:=((Lk g0:Ad (fun b=>b=L) w3 w6).trans a5).trans (Lk h8);have h3:=Z.o;refine⟨trivial,L,rfl,⟨((Lk HX.o:Ad (fun b=>b=wb) W b3).trans HF.o.kp).trans' e1 kJ,b9,a4,?_⟩⟩;exact Ae.keeps HF.o.way e1 vO
 rintro e a8 w8 ⟨rfl,L,rfl,X⟩;have HF:=J X;have HL:=J (m.cells_len HM.o);clear X;unfold tA;gi_wp2_with fail
 gi_loopw [5] (fun e2 wr=>e2=.bool true/\∃ Dk,uE W wb b1 pc L C D 0 Dk p0 m wr/\Nw wr wb H v 1 .nilIface) (fun e2 wr=>0)
 case atStart =>have X:=HF.o;have d2:=(HC.o 0).lt _ _ H0.o;exact⟨rfl,D,⟨(HC.o 0).keeps H0.o X.kp fun b hb e=>a9.o.2.1 (e ▸ hb),fun b h=>.inl h,X.kp.mono fun b _ e=>.inr (.inl e),HS.o.path.keeps X.kp fun e=>b8.o.2.2.2.2 e.symm,X.var,fun h=>by have:=d2 L h;have:=X.new;omega,HM.o⟩,X.way⟩
 case round =>obtain⟨rfl,Dk,hR,e3⟩:=hrel;(have g2:=J e3;have HR:=J hR;have e4:¬ Dk wb:=fun h=>by rcases hR.sub wb h with h|h;{exact a9.o.2.1 h};have:=Z.o;omega);(have e5:¬ Dk pc:=fun h=>by rcases hR.sub pc h with h|h;{exact a9.o.2.2 h};have:=Z.o;omega);(have e6:¬ Dk b1:=fun h=>by rcases hR.sub b1 h with h|h;{exact a9.o.1 h};have:=Z.o;omega);have c8:=J (bA e4 (bA e5 e6));obtain⟨fn,tm,h5,bd,c1,e7⟩:=HY.o 0 Dk wr vI hR.at' hR.kp;(have e8:atV [(m,p0)] 0=(m,p0):=rfl;unfold RD at c1;rw[e8]at c1;dsimp only at c1;clear e8;have g3:=J e7;have g4:=hR.path.cell (i:=0) (v:=.string p0) vF;clear e7 hR e4 e5 e6 e3;gi_wp2_with (refine d_ 214 (.tmp 4) rfl rfl _ _ rfl (Ka _ _ m HR.o.len HR.o.var) ?_));refine⟨rfl,g3.o.mono ?_⟩;rintro e w5 ⟨D5,k5,s5,b7⟩;rcases b7 with⟨rfl,C5⟩|⟨rfl,C5⟩;(case inr=>exact (f7.o _ _ _ C5).elim);have c9:=HR.o.var.keeps k5 HR.o.nL;have d0:=HR.o.path.keeps k5 c8.o.2.1;have e9:Nw w5 wb H v 1 .nilIface:=Ae.keeps g2.o k5 c8.o.1;have f0:=(HS.o.cap.keeps HR.o.kp (fun e=>by rcases e with e|e|e;{exact a9.o.1 e};{exact b8.o.2.2.1 e};exact b8.o.2.2.2.1 e)).keeps k5 c8.o.2.2;(have p5:=d0.cell (i:=0) (v:=.string p0) vF;have f1:=J (bA k5 s5);have g5:=J C5;have g6:=J d0;have b4:=J e9;have g7:=J f0;have b5:=c9;have h7:=J b5;clear k5 s5 C5 g4 c1 d0 e9 f0 b5;gi_wp2_with (refine BC rfl 214 (.tmp 4) rfl _ _ rfl (Ka _ _ m HR.o.len c9) ?_));refine⟨trivial,rfl,CallsIn.mono (callsIn_wide.2 (f6.o w5)) ?_⟩;rintro e w6 ⟨rfl,f2⟩;have c2:=J f2;clear f2 c9;have f3:Ad (fun b=>D b\/b=wb\/b=pc) W w6:=(HR.o.kp.trans' f1.o.1 (fun b hb h=>by rcases HR.o.sub b h with h|h;{exact .inl h};omega)).trans' c2.o kZ;(have a7:∀ b,D5 b->D b\/W.heap.size<=b:=fun b hb=>by rcases f1.o.2 b hb with h|h;{exact HR.o.sub b h};have:=HR.o.kp.size;exact .inr vO);(have f4:∀ b,b<W.heap.size->¬ D b->¬ D5 b:=fun b hb hD h=>by rcases a7 b h with h|h;{exact hD h};omega);(have d1:=J (bA f3 (bA a7 f4));clear f3 a7 f4;have h9:(⟨#[]⟩:vB).toList.isEmpty=true:=by rw[cA];rfl);have d3:Hid (VF W (fun b=>b=wb\/b=pc) D O 1 C Cx (IP wb H v) (.returned (.tuple #[])) w6):=J ⟨⟨_,rfl⟩,D5,fun b=>b=wb,d1.o.1,d1.o.2.1,fun b h=>by subst h;exact .inl f5.o,fun b hb h=>by subst h;exact d1.o.2.2 _ Z.o.2.1 a9.o.2.1 hb,.inl ⟨(HC.o 1).keeps g5.o c2.o fun _ _ h=>h,fun b h=>by subst h;exact bD (Ae.lt b4.o) c2.o.size,rfl,Ae.keeps b4.o c2.o kI⟩⟩;gi_wp2;refine bodyPost_ret (results_none rfl _ _ _) rfl ?_;exact d3.o
theorem O6(hc:Ha W)(t key:vB)(hk:key.size<=1000)(v:vV)(hv:Ie W v [t])(m:Ai)(hm:m.refs.length=16)(va:vB)(hGt:∀ w,vR 113 #[t] w (.tuple #[m.V,qa]))(hST:∀ w,vR 182 #[m.V,Bw key] w (.tuple #[(),Bw key]))(hCL:∀ w,vR 150 #[m.V,Bw key] w (Ls (some va)))(hcl:Np m (Bw key)=some va):vQ 108 #[Aj t,key,v] W (fun e w'=>Af W w'/\e=.returned (.tuple #[Ls (some va),qg])):=by
 obtain⟨a,c,b5⟩:=tE hv
 have HV:=J hv;have HC:=J hc;have X:=J (bA hm (bA hGt (bA hST (bA hCL hcl))));have HK:=J hk
 obtain⟨n,c7⟩:∃ n,n=1:=⟨_,rfl⟩
 replace b5:v=.slice a n c:=by rw[c7];exact b5
 have f9:=J c7;have c1:¬(40:Int)<(n:Int):=vO
 obtain⟨A,c8⟩:=vE (Aj t)
 have g0:=J c8;rw[<-c8]
 obtain⟨vs,e1⟩:=vE ([(m,Bw key)])
 have a0:=J e1;have i0:=J b5;clear hv hc hGt hST hCL hcl hm e1 hk c7 c8;subst b5;refine (callsIn_wide (n:=0)).1 ?_;refine callsIn_of_wp_marks func108 rfl trivial ?_ rfl;simp only[ntmps108,cQ,bR,cZ,Nat.reduceAdd,Nat.reduceSub,cU,cT,dC,cW,cL,cS];gi_wp2_with (first|(refine SC Dv rfl rfl ?_;have d4:=Z;intro W4 a1 b6)|(refine SC Dv rfl rfl ?_;intro W1 a2 c9)|(refine SC Pq rfl rfl ?_;intro W2 e2 e3)|(refine t_ (vs:=[A,.slice a n c,qa,qg]) rfl rfl rfl rfl e2 rfl Ul (by intro v hv;simp at hv;rcases hv with rfl|rfl|rfl|rfl<;>rfl) ?_;intro W3 Z e4))
 have b7:Af W1 W3:=e3.trans' e4 kJ;have e5:=(c9.trans b7).trans b6;have g2:=c9.size;have d5:=b7.size;have d6:=a2.lt;have d7:=Z.lt;have b2:=(a2.keeps b7 kI).keeps b6 kI;have b3:=Z.keeps b6 kI
 refine⟨trivial,rfl,CallsIn.mono (callsIn_wide.2 (Zc W4 key (kL HK.o))) ?_⟩
 rintro e W5 ⟨rfl,a3⟩;have e6:=e5.trans a3;have b8:=J (b2.keeps a3 kI);have d0:=J (b3.keeps a3 kI);have d1:=J (a1.keeps a3 kI);have g3:=J e6;have b4:W3.heap.size<W5.heap.size:=bD a1.lt a3.size;have HZ:=J (show W.heap.size<W1.heap.size/\W1.heap.size<W3.heap.size/\W3.heap.size<W5.heap.size from⟨by omega,by omega,b4⟩)
 obtain⟨wb,b9⟩:=vE W1.heap.size
 obtain⟨cb,q⟩:=vE W3.heap.size
 rw[<-b9, <-q]at HZ;rw[<-b9]at d0;rw[<-q]at d1;rw[<-b9, <-q];clear a2 c9 e2 e3 Z e4 d4 a1 b6 b7 e5 g2 d5 d6 d7 b2 b3 a3 e6 b4 b9 q;gi_wp2_with fail
 refine⟨trivial,rfl,CallsIn.mono (callsIn_wide.2 (xU W5 wb (Bw key))) ?_⟩
 rintro e W6 ⟨rfl,a5⟩;have a7:Af W5 W6:=by rw[a5];exact ((Aa W5).alloc _).trans ((Aa _).alloc _)
 have d2:Ae W6 W5 (.cells #[wb] 330):=by rw[a5];exact (Ae.new W5 _).alloc _
 have d3:Ae W6 (W5.heap.size+1) (.cells #[Bw key] 9):=by rw[a5];have:=Ae.new (W5.alloc (.cells #[wb] 330)) (.cells #[Bw key] 9);rwa [bG]at this
 have g4:W6.heap.size=W5.heap.size+2:=by rw[a5];simp
 clear a5
 obtain⟨b1,a8⟩:=vE W5.heap.size
 obtain⟨pc,c0⟩:=vE (W5.heap.size+1)
 have a9:=J (show b1=W5.heap.size/\pc=b1+1/\W6.heap.size=b1+2 from⟨a8,by omega,by omega⟩);rw[<-a8]at d2;rw[<-c0]at d3;rw[<-a8];rw[<-a8]at c0;rw[<-c0];have a4:=J (g3.o.trans a7);have d8:=J (b8.o.keeps a7 kI);have Z:=d0.o.keeps a7 kI;have a1:=d1.o.keeps a7 kI;clear b8 d0 d1 a8 c0 g4 a7;gi_wp2_with fail
 have e7:ML W wb (.slice a n c) [t]:=⟨HC.o,HV.o,kL HZ.o,by simp⟩;have g5:vs.length=1:=by rw[a0.o];rfl
 have e8:Wm W b1 wb pc A (.slice a n c) (Bw key) (fun b=>b<W.heap.size\/b=b1\/b=wb\/b=pc) W6:=⟨fun b=>Iff.rfl,a4.o.size,fun b hb=>a4.o.block b hb kI,Z,d2,d3⟩
 refine lH (N:=1) (gf:=180) (lb:=#[b1,pc]) rfl (vX 180) (show QO prog 180 #[] #[b1,pc] 1 (RD vs) (fun b=>b=wb\/b=pc) (Wm W b1 wb pc A (.slice a n c) (Bw key)) (IP wb A (.slice a n c))from by rw[g0.o,a0.o];exact U2 W b1 wb pc t (.slice a n c) (Bw key) m X.o.1 X.o.2.1 X.o.2.2.1 e7 (by have:=HZ.o;have:=a9.o;omega)) (Wm.supp W b1 wb pc A (.slice a n c) (Bw key)) (fun k=>rfl) (MI cb vs) (MI.supp cb vs) (fun b=>b=cb) (fun b=>b<W.heap.size\/b=b1\/b=wb\/b=pc) ⟨fun b=>Iff.rfl,a1⟩ e8 (fun b hb ho=>by have hb:b=cb:=hb;have:=HZ.o;have:=a9.o;omega) ?hround ?hdone (IP.supp wb A (.slice a n c))
 case hround =>(intro y k D W8 K hk H hz hK;unfold RD;rw[FG];have e9:(atV vs k).1.refs.length=16:=by(obtain rfl:k=0:=vO);rw[a0.o];exact X.o.1);(have f0:=J ((atV vs k).1.cells_len e9);clear H;gi_wp2_with (first|(refine ZN Ac rfl rfl ?_;intro Wa f1 f2)|(refine SB (vs:=(atV vs k).1.cells) rfl rfl rfl rfl f1 (by rw[f0.o];rfl) (by rw[f0.o];exact Ab) (atV vs k).1.one ?_;intro Wb c2 c3)));refine hK _ _ (f2.trans' c3 kJ) fun W9 H f3 b0=>?_;have hB:=c2.keeps f3 vO;obtain⟨g,hg⟩:=vE W8.heap.size;rw[<-hg]at hB ⊢;clear f1 f2 c2 c3 f3 hg hK;have f4:=J H;have g6:=J (r2 (vs:=vs) (k:=k) (by rw[g5];exact hk));have g7:=J (show ∀ w,vQ 150 #[(atV vs k).1.V,.string (atV vs k).2] w fun e w'=>e=.returned (Ls (Np (atV vs k).1 (atV vs k).2))/\Af w w' from fun w=>by obtain rfl:k=0:=vO;rw[a0.o];show Calls _ _ #[m.V,Bw key] w fun e w'=>e=.returned (Ls (Np m (Bw key)))/\_;rw[X.o.2.2.2.2];exact X.o.2.2.2.1 w);(have q:=H.blk;clear H b0 hk;gi_wp2_with (refine BC rfl 214 (.tmp 10) rfl _ _ rfl (Ka W9 g (atV vs k).1 e9 hB) ?_));refine⟨trivial,rfl,CallsIn.mono (CallsIn.inRound _ (callsIn_wide.2 (g7.o W9))) ?_⟩;(rintro e w' ⟨rfl,hE⟩;have d9:=q.keeps hE kI;unfold Ls;gi_wp2_with (refine SB (vs:=Jo (Np (atV vs k).1 (atV vs k).2)) rfl rfl rfl rfl d9 (by rw[Wy,Wy]) (by rw[Wy];exact Ej) (LL _) ?_;intro Wb c2 c3));refine⟨D,(Lk hE:Ad D W9 w').trans (c3.mono fun b _ e=>(f4.o.is b).2 e),fun b h=>.inl h,⟨f4.o.is,?_⟩⟩;rw[g6.o];exact c2
 case hdone =>intro D O W9 b0 H g8 f5;obtain⟨g9,h0,c4⟩:=g8;(have q:=H.blk;rw[show vs.take 1=vs from by rw[a0.o];rfl]at q;have h2:=J q;have h3:=J c4;have h4:=J f5;have e0:=a4.o.size;clear e0;have a2:=d8.o.keeps b0 (fun e=>by have:=HZ.o;have:=a9.o;rcases e with e|e|e <;>(try have e:W.heap.size=cb:=e)<;>omega);have b8:=J a2;have h5:Hid (Af W W9):=(a4.o.trans' b0 fun b hb e=>by have:=HZ.o;have:=a9.o;rcases e with e|e|e <;>(try have e:b=cb:=e)<;>omega);have c5:=J (show (¬ cb=W.heap.size)/\(¬ wb=W.heap.size)/\¬ W6.heap.size=W.heap.size from by have:=HZ.o;have:=a9.o;have:=a4.o.size;omega);have i1:∀ w,(binOp .eql 93 .nilIface .nilIface).run prog w=.ok true w:=fun w=>by kernel_rfl);have q3:=c4.errc;have q2:=Ae.cell (i:=2) (v:=.int .i64 ((1:Nat):Int)) c4 vF;clear q c4 a2 b0 H f5 g9 h0 e8 e7 Z a1 d2 d3;have i2:¬((1:Nat):Int)<(n:Int):=kL f9.o;(gi_wp2_with fail);refine wpIn_wide.2 (Na [0,1,2,3,4] [3] Af (Ad fun b=>b=W.heap.size) Aa Ap (fun x y z h k=>Ad.trans h k) (fun x y h=>Lk h) vY vY vY ?_);refine Fa cb (Ls (IJ vs)) rfl (fun w1 h1=>SI (Ae.keeps (by exact h2.o) h1 c5.o.1)) (vS ?_);refine vD ?_;refine Fa ⟨wb,3,none⟩ qg rfl (fun w1 h1=>Bv underlying93 rfl (Ed (by exact h3.o.errc) h1 c5.o.2.1)) (vS ?_);refine Hh _ rfl (fun wa ha K hK=>?_);have f6:Af W9 wa:=(Ao W9).trans ha;refine Yw (old:=Jo none) (vs:=Jo (IJ vs)) rfl rfl rfl (b8.o.keeps f6 kI) (by rw[Wy,Wy]) (by rw[Wy];exact Ej) (LL _) ?_;intro i3 h6 f7;refine hK _ _ f7 ?_;clear hK K;refine vS ?_;refine vD ?_;refine Mt (fun wc hc=>?_);have f8:Ad (fun b=>b=W.heap.size) W9 wc:=((Lk f6:Ad (fun b=>b=W.heap.size) W9 wa).trans f7).trans (Lk hc);have h7:=h4.o.keeps f8 c5.o.2.2;have h8:=(h6.keeps hc kI).put_other (show W.heap.size≠W6.heap.size from fun e=>c5.o.2.2 e.symm) (.deferred none);have h9:Af W wc:=h5.o.trans' f8 kJ;gi_wp2;refine⟨by simp,.inl ⟨_,_,rfl,run_takeDeferred h7,?_⟩⟩;refine⟨_,Ot rfl rfl rfl (RZ h8),h9.trans' (Ad.onePut wc W6 _) fun b hb e=>by have e:b=W6.heap.size:=e;have:=a4.o.size;omega,?_⟩;rw[show IJ vs=some va from by rw[a0.o];exact X.o.2.2.2.2];rfl
theorem D8(hc:Ha W)(t key:vB)(hk:key.size<=1000)(v:vV)(hv:Ie W v [t])(m:Ai)(hm:m.refs.length=16)(va:vB)(hGt:∀ w,vR 113 #[t] w (.tuple #[m.V,qa]))(hST:∀ w,vR 182 #[m.V,Bw key] w (.tuple #[(),Bw key]))(hCL:∀ w,vR 150 #[m.V,Bw key] w (Ls (some va)))(hcl:Np m (Bw key)=some va):vR 51 #[Aj t,key,v] W (.tuple #[Ls (some va),qa]):=by
 obtain⟨a,c,a3⟩:=tE hv
 have HP:=J (fun w (h:Af W w)=>O6 w (hc.ext h) t key hk v (hv.ext h) m hm va hGt hST hCL hcl)
 obtain⟨b1,H⟩:=vE (Aj t)
 rw[<-H]at HP ⊢
 obtain⟨o,ho⟩:=vE (some va)
 rw[<-ho]at HP ⊢;clear hc hk hv hGt hST hCL hcl hm H ho;subst a3;unfold vR vQ;go_in;go_wp2_with (refine Di Dv rfl rfl ?_;intro W1 K q)
 refine (HP.o W1 q).mono ?_;rintro e w2 ⟨hE,rfl⟩;have a4:=J (K.keeps hE kI);have a5:=J (q.trans hE);clear K q hE;unfold Ls;go_wp2_with (first|(refine Di Dv rfl rfl ?_;intro W3 O X)|(refine Bt (old:=Jo none) (vs:=Jo o) rfl rfl rfl rfl O ((Wy none).trans (Wy o).symm) (by rw[Wy];exact Ej) (LL _) ?_;intro W4 Z a2))
 have A:Af w2 W4:=X.trans' a2 kJ;have a7:=J (a5.o.trans A);have a0:=J (a4.o.keeps A kI);have a8:=J Z;clear O X Z a2 A;refine (show vQ 38 #[qg,.iface 27 (.int .i64 10)] W4 fun e w'=>e=.returned false/\W4=w' from Y5 W4).mono ?_;rintro e w5 ⟨rfl,rfl⟩;have a1:=a0.o;go_wp2_with (first|(refine Gz 113 (.tmp 8) rfl rfl _ _ rfl (SI a8.o) ?_)|(refine Bt (old:=Jo none) (vs:=Jo o) rfl rfl rfl rfl a1 ((Wy none).trans (Wy o).symm) (by rw[Wy];exact Ej) (LL _) ?_;intro W8 a9 b0))
 refine bodyPost_ret (Ot rfl rfl rfl (RZ a9)) rfl ?_
 exact⟨rfl,a7.o.trans' b0 kJ⟩
theorem jzm(pa va p:vB)(rs:vM)(hr:rs.length=16):vR 182 #[(Ai.mk 1 pa va rs).V,p] W (.tuple #[(),p]):=by
 have q:=J hr;clear hr;unfold Ai.V;have e:(⟨#[]⟩:vB).toList.isEmpty=true:=by rw[cA];rfl
 have A:(Ai.cells ⟨1,pa,va,rs⟩)[0]?=some (.int .i64 1):=rfl;have H:(Ai.cells ⟨1,pa,va,rs⟩)[1]?=some (.string pa):=rfl;unfold vR vQ;go_in;go_wp2_with fail
 go_ret2
 exact⟨rfl,(Aa W).alloc _⟩
theorem t4(s bm:Nat)(room:Int)(S:vT)(hs:Ev w0 s bm room S)(hE0:Af w0 W)(g:Nat)(v:vV)(h:Vb w0 g v [] W)(t:vB)(hH:Md S t)(pa va:vB)(rs:vM)(hgood:Gn (Bx 12) ⟨1,pa,va,rs⟩)(ht:t=Cu ⟨1,pa,va,rs⟩)(key:vB)(hk:key.size<=1000)(hp:Bw key=pa):vQ 88 #[s,Aj t,key,.func (.func 140) #[] #[g]] W (sF w0 g v W [t] (some va)):=by
 have q:=QE w0 W s bm room S hs hE0 g v [] h (by simp) t hH 12 _ hgood ht;have A:=J q;have H:rs.length=16:=(hgood.one (Bm 12)).refs;have HL:=J (Ai.cells_len ⟨1,pa,va,rs⟩ H);have HK:=J (bA hk hp)
 obtain⟨k0,K⟩:∃ k,k=Aj t:=⟨_,rfl⟩
 rw[<-K]at A ⊢;clear hs hE0 h hgood q hH hk K ht hp H;unfold vQ;go_in;go_wp2_with fail
 refine A.o.mono ?_;rintro e w1 ⟨rfl,v1,O⟩;have a5:=J O;clear O;unfold Ai.V;go_wp2_with (first|(refine Di Ac rfl rfl ?_;intro W5 X Z;refine Bt (vs:=Ai.cells ⟨1,pa,va,rs⟩) rfl rfl rfl rfl X (by rw[HL.o];rfl) (by rw[HL.o];exact Ab) (Ai.one _) ?_;intro W6 a0 a1))
 refine vC (Zc _ key (kL HK.o.1)) fun w7 hE=>?_;rw[HK.o.2];have a2:Af w1 W6:=Z.trans' a1 kJ;have a7:=J ((a5.o.ext a2).ext hE);have a3:=J (a0.keeps hE kI)
 obtain⟨L,hL⟩:=vE w1.heap.size
 rw[<-hL]at a3 ⊢;clear hL hE a2 X Z a0 a1;go_wp2_with fail
 go_loopw [11,12] (fun a4 pv wr=>a4=.bool true/\pv=.string pa/\wr=w7) (fun a4 pv _=>0)
 case atStart=>exact⟨rfl,rfl,rfl⟩
 case round =>obtain⟨rfl,rfl,rfl⟩:=hrel;(have h6:=a3.o;have q0:wr.cell? L=some (.int .i64 1):=h6.cellL (i:=0) vF;have q1:=h6.cellL (i:=1) (v:=.string pa) vF;have q2:=h6.cellL (i:=2) (v:=.string va) vF;clear h6;go_wp2_with fail);go_ret2;exact⟨rfl,v1,a7.o⟩
theorem V5(s bm:Nat)(room:Int)(S:vT)(hs:Ev W s bm room S)(t:vB)(hH:Md S t)(pa va:vB)(rs:vM)(hgood:Gn (Bx 12) ⟨1,pa,va,rs⟩)(ht:t=Cu ⟨1,pa,va,rs⟩)(key:vB)(hk:key.size<=1000)(hp:Bw key=pa):vQ 91 #[s,Aj t,key] W (IR [t] W):=by
 obtain⟨k0,O⟩:∃ k,k=Aj t:=⟨_,rfl⟩
 have HF:=J (fun w e g v h=>t4 W w s bm room S hs e g v h t hH pa va rs hgood ht key hk hp);rw[<-O]at HF ⊢;clear O hs hH hgood ht hk hp;unfold vQ;go_in;go_wp2_with fail
 have hE:=(Aa W).alloc (.cells #[qe] 48);have hB:=Ae.new W (.cells #[qe] 48);have H:Vb W W qe [] (W.alloc (.cells #[qe] 48)):=⟨bM _,hB,⟨0,rfl,.inl ⟨rfl,rfl⟩⟩,fun b hb=>by cases hb⟩;have hF:=HF.o _ hE W qe H;have a0:=J H;have HE:=J hE;clear hB H hE;refine hF.mono ?_;rintro e w2 ⟨rfl,v',K⟩;have HT:=J K
 obtain⟨n,Z⟩:=K.at'.row
 have a1:n=1:=by have:=Z.1;simpa using this.symm
 subst a1
 obtain⟨a,c,X⟩:=Ir Z
 have q:=K.at'.var.cell (i:=0) (v:=v') vF;have A:Cg W w2 v' 1 [t]:=⟨⟨a,c,X⟩,Z,K.ext0 a0.o HE.o (bM _),fun b hb=>(K.at'.own b hb).1⟩;have a2:=J A;subst X;clear hF K Z A HT;unfold Kg;go_wp2_with fail
 go_ret2
 exact⟨_,_,rfl,a2.o⟩
theorem z8(s bm:Nat)(room:Int)(S:vT)(hs:Ev W s bm room S)(t:vB)(hH:Md S t)(pa va:vB)(rs:vM)(hgood:Gn (Bx 12) ⟨1,pa,va,rs⟩)(ht:t=Cu ⟨1,pa,va,rs⟩)(key:vB)(hk:key.size<=1000)(hp:Bw key=pa):vQ 42 #[s,Aj t,key] W (IR [t] W):=by
 obtain⟨y,H,O⟩:=hH
 have q:=AL W s bm room S (Aj t) hs;have A:Be S (Aj t).data.toList=some y:=H;rw[A]at q;simp only[fR,Cw]at q;have X:=J q;have Z:=J (fun w (e:Af W w)=>V5 w s bm room S (hs.ext e) t ⟨y,H,O⟩ pa va rs hgood ht key hk hp)
 obtain⟨k0,K⟩:∃ k,k=Aj t:=⟨_,rfl⟩
 rw[<-K]at Z;rw[<-K]at X ⊢;clear K hs hk q H O A hgood ht hp;unfold vQ;go_in;go_wp2_with fail
 refine X.o.mono ?_;rintro e w1 ⟨rfl,hE⟩;have HE:=J hE;clear hE;go_wp2_with fail
 refine (Z.o w1 HE.o).mono ?_;rintro e w2 ⟨a,c,rfl,hR⟩;have HR:=J hR;clear hR;go_wp2_with fail
 go_ret2
 exact⟨_,_,rfl,HR.o.since HE.o⟩
end
section
open Go Go.RowKit
theorem F4:Md (Mf z y) Et:=⟨_,PE z y,rfl⟩
theorem s8(s bm z y:Nat)(hs:Ev W s bm 100 (Mf z y)):vQ 42 #[s,Aj Et,jCk] W (IR [Et] W):=
 z8 W s bm 100 (Mf z y) hs Et (F4 z y) (Bw jCk) Qg _ OB rfl jCk vI rfl
theorem K3(s bm z y:Nat)(hs:Ev W s bm 100 (Mf z y))(hN:AH (Mf z y)):vR 40 #[s,Aj Et,jCk] W (Kg (some Qg)):=by
 have e:Iz (Mf z y) ((Bw jCk).size+1) (Bq Et) (Bw jCk)=some Qg:=by rw[BL W (Vm PV) PV];exact OD rfl
 refine (oP W s bm 100 (Mf z y) hs hN (Aj Et) _ (PE z y) jCk vI).mono ?_;rintro A w' ⟨rfl,q⟩
 refine⟨?_,q⟩
 show Ending.returned (Kg (Iz (Mf z y) ((Bw jCk).size+1) (Bq Et) (Bw jCk)))=_;rw[e]
theorem sV:Qg.toList.isEmpty=false:=by decide +kernel
theorem t0(s bm z y:Nat)(hs:Ev W s bm 100 (Mf z y)):vQ 52 #[s,Aj Et,jCk,jCl,.int .i64 1] W fun e w'=>(∃ la lc,e=.returned (.tuple #[.slice la 1 lc,false,qa]))/\Af W w':=
 O7 W s jCk jCl (Aj Et) (Bw jCk) Qg (fun w e=>jzh w s bm 100 (Mf z y) jCk (Aj Et) (Bw jCk) Qg _ vI (hs.ext e) _ (PE z y) 12 Ya OB rfl rfl sV ze (VC jCk) ze) sV (VC jCk) ze ze
theorem kK:Op.bytesLess jCk.toList jCl.toList=true:=by decide +kernel
theorem uV:RV Ya Et jCk jCl jCk:=
 ⟨⟨12,OB⟩,rfl,rfl,by decide +kernel,by decide +kernel,by decide +kernel,by decide +kernel,by decide +kernel,by decide +kernel,by
  have h:Ya.path=Bw jCk:=rfl;rw[h];rfl⟩
def Tt:Fi:=⟨0,Aj Et,jCk,⟨#[]⟩,[Et]⟩
def Xf:Fi:=⟨1,Aj Et,jCk,jCl,[Et]⟩
theorem OZ:Vc Tt:=⟨.inl ⟨rfl,rfl⟩,Rp _,by decide +kernel,by decide +kernel,by show ([Et]:vM).length<=200;simp,fun b hb=>by
 have hb:b∈[Et]:=hb;rw[bL.1 hb];exact oE⟩
theorem rW:Vc Xf:=⟨.inr rfl,Rp _,by decide +kernel,by decide +kernel,by show ([Et]:vM).length<=200;simp,fun b hb=>by
 have hb:b∈[Et]:=hb;rw[bL.1 hb];exact oE⟩
theorem s4(h:k=0\/k=1):(Hr k).size<=1:=by
 rcases h with rfl|rfl
 ·decide +kernel
 ·decide +kernel
theorem WI{p:Fi}(h:Vc p)(hn:p.nodes.length<=50):(Fe p).size<=65536:=by
 have e:(Hr p.kind).size<=1:=s4 _ (h.kind.imp (·.1) id);have q:=AD (Hr p.kind);have A:=AD p.root;have H:=AD p.key;have K:=AD p.to;have O:=UU (p.nodes.map Av);have X:=GN p.nodes h.short;have Z:=h.root;have h8:=h.key;have h9:=h.to;unfold Fe;refine bF (UU _) ?_;rw[GP];simp only[bO,fT,gR,List.sum_nil];omega
theorem tD:(Fe Tt).size<=65536:=WI OZ (by show ([Et]:vM).length<=50;simp)
theorem yV:(Fe Xf).size<=65536:=WI rW (by show ([Et]:vM).length<=50;simp)
theorem yW(p:Fi)(hr:p.root.size=32):Fe p≠⟨#[]⟩:=fun e=>by
 have A:(Fe p).size=0:=by rw[e];rfl
 have q:=ON [Av (Hr p.kind),Av p.root,Av p.key,Av p.to,Fo (p.nodes.map Av)];rw[GP]at q;simp only[bO,fT,gR,List.sum_nil]at q;have H:(Av p.root).size ≥ 1:=by
  unfold Av;split
  ·rename_i h
   have:=h.1
   omega
  ·rw[cM];omega
 unfold Fe at A;omega
theorem xJ:vR 113 #[Et] w (.tuple #[Ya.V,qa]):=AJ (Bm 12) w Ya OB
theorem s9(hc:Ha w)(nv:vV)(hn:Ie w nv [Et]):vQ 14 #[.agg (Tt.cells nv).toArray] w fun e w'=>∃ a c,e=.returned (.tuple #[.slice a 1 c,qa])/\Af w w':=
 E0 w Tt nv hn OZ rfl Qg fun W e=>D8 W (hc.ext e) Et jCk vI nv (hn.ext e) Ya rfl Qg xJ (fun W=>jzm W _ _ _ _ rfl) (fun W=>A3 W (Bw jCk) Qg () _ rfl) rfl
theorem M_(n:Ai)(h:CG n)(k:Nat):∀ x∈Vq n k,x.size<=33:=by
 have A:∀ (l:List (Nat × vB)) (m:vM),(∀ x∈l,x.2.size<=33)->(∀ x∈m,x.size<=33)->∀ x∈l.foldl (fun l x=>l.set x.1 x.2) m,x.size<=33:=by intro l;induction l with| nil=>intro m _ H;exact H| cons y r ih =>intro m q H;rw[dP];refine ih _ (fun x e=>q x (bN _ e)) (fun x e=>?_);rcases fZ e with e|rfl;{exact H x e};exact q y (bP ..)
 intro x e;refine A _ _ (fun y K=>?_) (fun y K=>?_) x e
 ·have q:=(MX n.refs 0 y (gA K)).2.2.1;exact h.each y.2 (bE q)
 ·rw[fB K];have:=Mk ();have O:(⟨#[]⟩:vB).size=0:=rfl;omega
theorem e2(n:Ai)(h:CG n):(AF n).size<=640:=by
 have K:=CQ (Nt n);have O:(Aw (Nt n)).size<=617:=by(unfold Nt;have e:16<(Vq n n.refsL.length).length:=by rw[JS];omega);(rw[List.set_eq_take_append_cons_drop,if_pos e,List.drop_eq_nil_of_le (by rw[JS];decide),GP,bW,List.sum_append, <-GP,bO,gR,fT,List.sum_nil];have q:=WB 33 ((Vq n n.refsL.length).take 16) fun x A=>M_ n h _ x (gA A);have H:((Vq n n.refsL.length).take 16).length=16:=by rw[cR,JS];rfl);have X:=Mk n.value;have Z:=h.value;rw[H]at q;omega
 unfold AF;omega
theorem N1(n:Ai)(h:CG n):(Cu n).size<=1000:=by
 have:=e2 n h
 unfold Cu;have H:=h.path;have K:=h.value;split
 ·exact bF (Mk _) vI
 ·split;{have q:=Ux n.path true;have A:=Mk (Cl n.path true);have O:=Mk n.value;have e:=CQ [Av (Cl n.path true),Av n.value];rw[Qn,Qn,Zz]at e;unfold CD;omega};split;{have q:=Ux n.path false;have A:=Mk (Cl n.path false);have e:=CQ [Av (Cl n.path false),n.refs.getD 0 ()];rw[Qn,Qn,Zz]at e;have X:(n.refs.getD 0 ()).size<=33:=h.each _ (by rw[bK,bB (by rw[h.refs];omega)];exact dV _);unfold Py;omega};omega
theorem rZ{key:vB}(hL:Em L=0)(hk:key.size<=6):Vc ⟨0,Bi L,key,⟨#[]⟩,Kj L key⟩:=by
 have q:=Nn (Ge hL);have O:=PI 12 (Cq L) (Bw key)
 refine⟨.inl ⟨rfl,rfl⟩,Rp _,hk,by show (0:Nat)<=6;decide,?_,fun t A=>?_⟩
 ·show (Kj L key).length<=200;unfold Kj;rw[bR];omega
 ·(have H:t∈Bz (Cr L):=by rcases bU.1 (show t∈(Cr L).text::Ip 12 (Cq L) (Bw key)from A)with rfl|h;{exact Yx _};exact (M7 q (BO key) h).1);obtain⟨n,⟨e,g,K⟩,_⟩:=(RB hL).node t ((Ql _ _).2 H);rw[e];exact N1 n (K.one (Bm g))
theorem D9{key:vB}(hL:Em L=0)(hk:key.size<=6):(Fe ⟨0,Bi L,key,⟨#[]⟩,Kj L key⟩).size<=65536:=by
 have e:=PI 12 (Cq L) (Bw key);exact WI (rZ hL hk) (by show (Kj L key).length<=50;unfold Kj;rw[bR];omega)
end
section
open Go Go.RowKit
attribute [local go_sem] Oper.semAt_some
theorem Sk.keeps{W W':vW}{cb mb:Nat}{n:Int}{k:Nat}{key:vB}{tv:vV}(h:Sk W cb mb n k key tv)(e:Af W W'):Sk W' cb mb n k key tv:=⟨h.1.keeps e fun h=>h,h.2.keeps e fun h=>h⟩
theorem Rx.nought{W:vW}{cb mb:Nat}{n:Int}{key:vB}(h:Rx W cb mb n):DP W cb mb n 0 key none:=⟨h,trivial⟩
theorem l4{cb mb z:Nat}(e:AS cb mb none z):z=cb\/z=mb:=by
 rcases e with e|e|⟨_,_,e⟩
 ·exact .inl e
 ·exact .inr e
 ·cases e
noncomputable def CJ(m:vL)(key:vB):vV:=if key.size<=6 then .tuple #[Fe ⟨0,Bi m,key,⟨#[]⟩,Kj m key⟩,qa]else .tuple #[(),.int .i64 1]
section
variable {w0 w:vW} {D:Nat->Prop} {b:Nat} {M:Dm} {a:Option Addr} {c rm sb cb:Nat} {es:List (Ce Int)} {ck bm:Nat} {S:vT} {n:Nat}
theorem tH(hI:Fp w0 D w b M a c rm sb cb es ck bm 2000 S n)(hl:M.all.length<=1000)(bk:Int)(m:vL)(j:Nat)(v:Au)(hp:Jp M.all bk=some j)(hv:M.all[j]?=some v)(hr:Cp es bk=some (.string (Bi m)))(hM:Iy S m)(key:vB)(hk:key.size<=1000)(th:vB)(hth:Bi m++⟨#[32]⟩++key=th)(F:Bd)(C:vW->Prop)(hC:∀ W A,C W->Af W A->C A)
  (hB:∀ W,Ad F w W->Fp w0 D W b M a c rm sb cb es ck bm 2000 S n)
  (hG:∀ W,Af w W->vQ 39 #[cb,th] W fun e A=>e=.returned (.tuple #[(),false])/\Ad F W A/\C A)
  (hO:∀ W q,C W->vQ 41 #[cb,th,.string q] W fun e A=>(∃ t,e=.returned (.bool t))/\Ad F W A) :
  vQ 10 #[b,.int .i64 bk,key] w fun e w'=>e=.returned (Kg (Dt (Cq m) (Bw key)))/\Ad F w w':=by
 subst hth;have X:∀ W A,Ad F w W->Af W A->Ad F w A:=fun W A k e=>k.trans (e.mono kZ)
 obtain⟨q,O,Z⟩:∃ q O,Kg (Dt (Cq m) (Bw key))=.tuple #[.string q,.int .i64 O]/\(O≠0->q=⟨#[]⟩):=by cases Dt (Cq m) (Bw key)with| none=>exact⟨_,_,rfl,fun _=>rfl⟩| some u=>exact⟨_,_,rfl,fun h=>absurd rfl h⟩
 refine (pP w D b M a c rm sb cb es ck hI.m hl bk j v (Bi m) hp hv hr (by show (Aj _).size<=1000;rw[Rp];decide) key q hk O (fun W=>Ad F w W/\C W) (fun W=>Ad F w W/\C W) (fun W=>Ad F w W) (fun W k=>(hG W k).mono fun e A ⟨K,H,e3⟩=>⟨K,(k.mono kZ).trans H,e3⟩) (fun W k=>(hB W k.1).m.blk) (fun W k=>(uZ W sb bm 2000 S (hB W k.1).s.st (hB W k.1).s.all m hM key hk).mono fun e A ⟨K,H⟩=>⟨by rw[K,Z.1],X _ _ k.1 H,hC _ _ k.2 H⟩) (fun W k=>(hB W k.1).m.blk) (fun _ W k=>(hO W q k.2).mono fun e A ⟨⟨t,K⟩,H⟩=>⟨t,K,k.1.trans H⟩)).mono ?_
 intro e w' hq;rw[Z.1];rcases (show _\/_ from hq)with⟨h1,rfl,hE⟩|⟨h1,rfl,hE⟩
 ·rw[h1];exact⟨rfl,hE⟩
 ·rw[Z.2 h1];exact⟨rfl,hE.1⟩
theorem zZ(hI:Fp w0 D w b M a c rm sb cb es ck bm 2000 S n)(hl:M.all.length<=1000)(bk:Int)(m:vL)(j:Nat)(v:Au)(hp:Jp M.all bk=some j)(hv:M.all[j]?=some v)(hr:Cp es bk=some (.string (Bi m)))(hM:Iy S m)(key:vB)(hk:key.size<=1000)(mb:Nat)(hc:Rx w cb mb 0):vR 10 #[b,.int .i64 bk,key] w (Kg (Dt (Cq m) (Bw key))):=by
 refine tH hI hl bk m j v hp hv hr hM key hk _ rfl (fun _=>False) (fun W=>Rx W cb mb 0) (fun W A h e=>h.keeps e kI fun h=>h) (fun W k=>hI.ext k) (fun W k=>?_) (fun W K k=>?_)
 ·have H:=hc.keeps k kI kI;refine (P6 W cb mb H _).mono ?_;rintro e A ⟨rfl,q⟩;exact⟨rfl,q,H.keeps q kI fun h=>h⟩
 ·refine (k4 W cb mb k _ _).mono ?_;rintro e A ⟨rfl,q⟩;exact⟨⟨_,rfl⟩,q⟩
theorem a_(hI:Fp w0 D w b M a c rm sb cb es ck bm 2000 S n)(hl:M.all.length<=1000)(bk:Int)(m:vL)(j:Nat)(v:Au)(hp:Jp M.all bk=some j)(hv:M.all[j]?=some v)(hr:Cp es bk=some (.string (Bi m)))(hM:Iy S m)(key:vB)(hk:key.size<=1000)(mb N:Nat)(hN:1<=N)(hN2:N<=64)(hc:Rx w cb mb N)(hne:cb≠mb)(hB:∀ W,Ad (fun z=>z=cb\/z=mb) w W->Fp w0 D W b M a c rm sb cb es ck bm 2000 S n):vQ 10 #[b,.int .i64 bk,key] w fun e w'=>e=.returned (Kg (Dt (Cq m) (Bw key)))/\Ad (fun z=>z=cb\/z=mb) w w':=by
 obtain⟨q,A⟩:∃ q,Bi m++⟨#[32]⟩++key=q:=⟨_,rfl⟩
 refine tH hI hl bk m j v hp hv hr hM key hk q A (fun z=>z=cb\/z=mb) (fun W=>Sk W cb mb N 1 q qe) (fun W O h e=>Sk.keeps h e) hB (fun W k=>?_) (fun W H k=>?_)
 ·refine (P8 W cb mb hne N 0 hN hN2 vO vO q none (Rx.nought (hc.keeps k kI kI))).mono ?_;rintro e O ⟨rfl,K,X⟩;exact⟨rfl,K.mono fun z _ e=>l4 e,X.1⟩
 ·refine (k5 W cb mb N 1 hN hN2 q H k).mono ?_;rintro e O ⟨rfl,K, -⟩;exact⟨⟨_,rfl⟩,K.mono fun z _ e=>.inl e⟩
end
end
section
open Go Go.RowKit
attribute [local go_sem] Oper.semAt_some
theorem S_(D:Nat->Prop)(b:Nat)(M:Dm)(a:Option Addr)(c rm sb cb:Nat)(es:List (Ce Int))(ck:Nat)(h:Kk D w b M a c rm sb cb es ck)(hl:M.all.length<=1000)(bk:Int)(i:Nat)(v:Au)(r:vB)(hp:Jp M.all bk=some i)(hv:M.all[i]?=some v)(hr:Cp es bk=some (.string r))(key:vB)(hk:¬ key.size<=6):vR 11 #[b,.int .i64 bk,key] w (.tuple #[(),.int .i64 1]):=by
 have HC:=J (EY w D b M a c rm sb cb es ck h hl bk i v r hp hv hr);have a5:(6:Int)<(key.size:Int):=vO
 clear h hp hv hr hl hk;unfold vR vQ;go_in;go_wp2_with fail
 refine HC.o.mono ?_;rintro e w1 ⟨x,rfl,q,h1,h2,hE⟩
 obtain⟨K,ev,cv⟩:=x
 have q:K=v:=q;subst q
 obtain⟨a1,c1,A⟩:=h1.1.sl
 obtain⟨a2,c2,H⟩:=h2.1.sl
 have A:ev=_:=A;have H:cv=_:=H;subst A H;have HE:=J hE;have a7:=hE.size;clear h1 h2 hE HC;unfold VX.cells;go_wp2_with (first|(refine Di Cb rfl rfl ?_;intro W2 O X)|(refine Bt (vs:=[(K.block:Int),.slice a1 K.ents.length c1,.slice a2 K.chgs.length c2,(K.pins:Int)]) rfl rfl rfl rfl O rfl Bo zc ?_;intro W3 a3 Z))
 refine (EP W3).mono ?_;rintro e w4 ⟨rfl,rfl⟩;have a0:Af w W3:=(HE.o.trans X).trans' Z kJ
 have a4:=J a0;clear X Z O a3 a0;go_wp2_with fail
 go_ret2
 exact⟨rfl,a4.o⟩
theorem tJ{w0 w:vW}{D:Nat->Prop}{b:Nat}{M:Dm}{a:Option Addr}{cb:Nat}{n:Nat}(hI:Fp w0 D w b M a c rm sb cb es ck bm 2000 S n)(hl:M.all.length<=1000)(bk:Int)(m:vL)(j:Nat)(v:Au)(hp:Jp M.all bk=some j)(hv:M.all[j]?=some v)(hr:Cp es bk=some (.string (Bi m)))(hM:Iy S m)(key:vB):vR 11 #[b,.int .i64 bk,key] w (CJ m key):=by
 unfold CJ
 by_cases hk:key.size<=6
 ·rw[if_pos hk];exact jT w D b M a c rm sb cb es ck hI.m hl bk j v (Bi m) hp hv hr key (Kj m key) (fun W e=>o0 W sb bm 2000 S (hI.ext e).s.st m hM key vO) (rZ hM.ok hk) (D9 hM.ok hk)
 ·rw[if_neg hk];exact S_ w D b M a c rm sb cb es ck hI.m hl bk j v (Bi m) hp hv hr key hk
end
section
open Go Go.RowKit
theorem Jg.first{w0 w W:vW}{D:Nat->Prop}{b:Nat}{window N:Int}{a:Option Addr}{c rm sb cb mb bm z:Nat}{U:vM}{H:Int->vL->Prop}(hw:Af w0 w)(hU:Gf∈U)(hH:H 0 [])(h1:Fp w D W b (Js window) a c rm sb cb Tv 1 bm 2000 (Pn z) 1)(h2:Af w W)(hC:Rx W cb mb N)(h3:∀ x,x=cb\/x=mb->¬ Sb b rm bm (Pn z) x/\w.heap.size<=x/\¬ D x/\x≠sb)(h5:w.heap.size<=b)(h6:w.heap.size<=rm)(h7:∀ z,z=sb\/D z->w.heap.size<=z):Jg (fun z=>w.heap.size<=z/\z<W.heap.size) w0 W b rm sb cb mb bm N U H [] (Js window) Tv (Pn z) 0:=by
 have A:=hw.size
 obtain⟨K,O,X,Z,l5⟩:=h1.lt'
 refine⟨⟨D,a,c,1,1,h1.low A,by omega,fun x q=>?_,fun x q=>⟨(h3 x q).2.2.1,(h3 x q).2.2.2⟩⟩,hC,fun x q=>(h3 x q).1,fun x q=>?_,by show 1<=0+1;omega,hw.trans h2,⟨by omega,by omega⟩,JF.first hU h1.s,by show 1<=1+119*0;omega,rfl,by show 1<=0+1;omega,fun x q=>?_⟩
 ·rcases q with (rfl|rfl|rfl|e)|rfl|rfl|rfl|e;{exact⟨h5,K⟩};{exact⟨h6,O⟩};{exact⟨h1.s.bnew,Z⟩};{obtain⟨y,hy,e'⟩:=bC.1 e;exact⟨by rw[<-e'];exact h1.s.new y hy,l5 _ e⟩};{exact⟨h7 _ (.inl rfl),X⟩};{exact⟨(h3 _ (.inl rfl)).2.1,hC.1.lt⟩};{exact⟨(h3 _ (.inr rfl)).2.1,hC.2.lt⟩};exact⟨h7 _ (.inr e),(h1.dr x e).2⟩
 ·have q:x∈[((0:Int),Value.string (Aj Gf),0)]:=q;rw[bL.1 q];rfl
 ·have q:x∈[((0:Int),Value.string (Aj Gf),0)]:=q;rw[bL.1 q];exact⟨[],hH,rfl⟩
structure Ke(w0 W:World)(b rm sb cb mb bm:Nat)(N:Int)(b' rm' sb' cb' mb' bm':Nat)(N':Int)(U:vM)(H:Int->vL->Prop)(L:vL)(k i:Nat)(L':vL)(k' i':Nat):Prop where
 two:∃ Q Q' M es S M' es' S',Jg Q w0 W b rm sb cb mb bm N U H L M es S i/\Jg Q' w0 W b' rm' sb' cb' mb' bm' N' U H L' M' es' S' i'/\(∀ z,Q z->¬ Q' z)/\(∀ z,Q z->z<W.heap.size)/\(∀ z,Q' z->z<W.heap.size)/\M.next=k/\M'.next=k'
section
variable {w0 W W':vW} {b rm sb cb mb bm:Nat} {N:Int} {b' rm' sb' cb' mb' bm':Nat} {N':Int} {U:vM} {H:Int->vL->Prop} {L:vL} {k i:Nat} {L':vL} {k' i':Nat}
theorem Ke.grow(h:Ke w0 W b rm sb cb mb bm N b' rm' sb' cb' mb' bm' N' U H L k i L' k' i')(e:Af W W'):Ke w0 W' b rm sb cb mb bm N b' rm' sb' cb' mb' bm' N' U H L k i L' k' i':=by
 obtain⟨Q,K,M,O,S,X,q,Z,h1,h2,h3,h4,h5,h6⟩:=h.two
 exact⟨Q,K,M,O,S,X,q,Z,h1.grow e,h2.grow e,h3,fun z A=>bD (h4 z A) e.size,fun z A=>bD (h5 z A) e.size,h6⟩
theorem Ke.swap(h:Ke w0 W b rm sb cb mb bm N b' rm' sb' cb' mb' bm' N' U H L k i L' k' i'):Ke w0 W b' rm' sb' cb' mb' bm' N' b rm sb cb mb bm N U H L' k' i' L k i:=by
 obtain⟨Q,A,M,K,S,O,q,X,Z,h2,h3,h4,h5,h6,h7⟩:=h.two
 exact⟨A,Q,O,q,X,M,K,S,h2,Z,fun z hz e=>h3 z e hz,h5,h4,h7,h6⟩
theorem Ke.ext(h:Ke w0 W b rm sb cb mb bm N b' rm' sb' cb' mb' bm' N' U H L k i L' k' i'):Af w0 W:=by
 obtain⟨Q,A,M,K,S,O,e,X,q, -⟩:=h.two
 exact q.ext
end
theorem TD(w0 w:vW)(hc:Ha w0)(he:Gh w0)(b rm sb cb mb bm:Nat)(N:Int)(b' rm' sb' cb' mb' bm':Nat)(N':Int)(U:vM)(hU:Gi U)(hN:IQ U)(H:Int->vL->Prop)(L:vL)(k i:Nat)(L':vL)(k' i':Nat)(h:Ke w0 w b rm sb cb mb bm N b' rm' sb' cb' mb' bm' N' U H L k i L' k' i')(hi:i<=11)(u:vV)(cs:List Br)(hu:Jj w0 u cs)(hnc:cs.length<=1000)(hsc:∀ c∈cs,c.key.size<=1000/\c.value.size<=1000)(hL:∀ t∈Ld L,t∈U)(hs:Ez L cs=0->∀ t∈Ld (Gp L cs),t∈U)(hH:Ez L cs=0->H k (Gp L cs)):vQ 8 #[b,u] w fun e w'=>(Ez L cs≠0/\e=.returned (.tuple #[qa,.int .i64 (Ez L cs)])/\Ke w0 w' b rm sb cb mb bm N b' rm' sb' cb' mb' bm' N' U H L k (i+1) L' k' i') \/
   (Ez L cs=0/\e=.returned (.tuple #[(k:Int),qa])/\Ke w0 w' b rm sb cb mb bm N b' rm' sb' cb' mb' bm' N' U H (Gp L cs) (k+1) (i+1) L' k' i'):=by
 obtain⟨Q,Q',M,es,S,M',A,S',K,h2,O,h4,X,rfl,h7⟩:=h.two
 refine (S7 Q w0 w hc he b rm sb cb mb bm N U hU hN H L M es S i K hi u cs hu hnc hsc hL hs hH).mono ?_;rintro e w' ⟨Z,hP⟩;have hd:=h2.past Z (fun z hz e=>O z (K.own z e) hz) K.noRow (K.over Z);have hz:=Z.size;rcases hP with⟨h0,rfl,hF⟩|⟨h0,rfl,M1,Tv,S1,hF,hn⟩
 ·exact .inl ⟨h0,rfl,Q,Q',M,es,S,M',A,S',hF,hd,O,fun z q=>kL (h4 z q),fun z q=>kL (X z q),rfl,h7⟩
 ·refine .inr ⟨h0,rfl,_,Q',M1,Tv,S1,M',A,S',hF,hd,fun z q hq=>?_,fun z q=>?_,fun z q=>kL (X z q),hn,h7⟩;{rcases q with e|e;{exact O z e hq};have:=X z hq;omega};rcases q with e|e;{have:=h4 z e;omega};exact e.2
end
section
open Go Go.RowKit
section
variable {Q:Nat->Prop} {w0 W W':vW} {b rm sb cb mb bm:Nat} {N:Int} {U:vM} {H:Int->vL->Prop} {L:vL} {M:Dm} {es:List (Ce Int)} {S:vT} {i:Nat}
theorem Jg.cacRow(h:Jg Q w0 W b rm sb cb mb bm N U H L M es S i):Mm W (fun z=>z=cb\/z=mb):=fun z q A e hb=>by
 rcases e with e|e
 ·exact KX h.cac.1 vI z q A e hb
 ·exact KN h.cac.2 z q A e hb
theorem Jg.cacOwn(h:Jg Q w0 W b rm sb cb mb bm N U H L M es S i):∀ z,z=cb\/z=mb->Q z:=fun z q=>by
 obtain⟨D,a,c,A,n,K,O,e,X⟩:=h.inv
 rcases q with rfl|rfl
 ·exact e _ (.inr (.inr (.inl rfl)))
 ·exact e _ (.inr (.inr (.inr (.inl rfl))))
theorem Jg.open(h:Jg Q w0 W b rm sb cb mb bm N U H L M es S i):∃ D a c O n,Fp w0 D W b M a c rm sb cb es O bm 2000 S n/\(∀ A,Ad (fun z=>z=cb\/z=mb) W A->Fp w0 D A b M a c rm sb cb es O bm 2000 S n)/\∀ (F:Bd) A,(∀ z,Q z->¬ F z)->Mm W F->Ad F W A->Fp w0 D A b M a c rm sb cb es O bm 2000 S n:=by
 obtain⟨D,a,c,O,n,X,hn,hq,hd⟩:=h.inv
 refine⟨D,a,c,O,n,X,fun A k=>?_,fun F A hF hR k=>?_⟩
 ·have q:∀ z,Sb b rm bm S z->¬(z=cb\/z=mb):=fun z K e=>h.far z e K;exact X.byF k (q _ (.inl rfl)) (q _ (.inr (.inl rfl))) (fun e=>(hd _ e).2 rfl) (q _ (.inr (.inr (.inl rfl)))) (fun x Z=>q _ (.inr (.inr (.inr (bC.2 ⟨x,Z,rfl⟩))))) (fun z K e=>(hd _ e).1 K) h.cacRow
 ·have q:∀ z,DS b rm sb cb mb bm S D z->¬ F z:=fun z K=>hF z (hq z K);exact X.byF k (q _ (.inl (.inl rfl))) (q _ (.inl (.inr (.inl rfl)))) (q _ (.inr (.inl rfl))) (q _ (.inl (.inr (.inr (.inl rfl))))) (fun x Z=>q _ (.inl (.inr (.inr (.inr (bC.2 ⟨x,Z,rfl⟩)))))) (fun z K=>q _ (.inr (.inr (.inr (.inr K))))) hR
end
end
section
open Go Go.RowKit
attribute [local go_sem] Oper.semAt_some
end
