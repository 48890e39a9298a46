/- Lemmas. -/
import Derived.Test.YtgmmpefjadjajaaGreatDoorPa0
import Derived.Test.YtgmmpefjadjajaaGreatDoorPa25
namespace Go.Proofs.YtgmmpefjadjajaaGreatDoor
open Go.Proofs.Tryz
set_option linter.unusedSimpArgs false
set_option linter.unusedVariables false
set_option maxRecDepth 100000
set_option maxHeartbeats 16000000
open Go Go.RowKit
variable (z y:Nat)(W w0 w:vW){p:Eu}{l:List Eu}{i f:Nat}{n m:Ai}{U T:vM}
theorem jT(D:Nat->Prop)(b:Nat)(M:Dm)(a:Option Addr)(c rm sb cb:Nat)(es:List (Ce Int))(ck:Nat)(h:Kk D w b M a c rm sb cb es ck)(hl:M.all.length<=1000)(bk:Int)(i:Nat)(v:Au)(r:vB)(hp:Jp M.all bk=some i)(hv:M.all[i]?=some v)(hr:Cp es bk=some (.string r))(key:vB)(nodes:vM)(hT:∀ W,Af w W->vQ 40 #[sb,r,key] W (IR nodes W))(hk:Vc ⟨0,r,key,⟨#[]⟩,nodes⟩)(hs:(Fe ⟨0,r,key,⟨#[]⟩,nodes⟩).size<=65536):vR 12 #[b,.int .i64 bk,key] w (.tuple #[Fe ⟨0,r,key,⟨#[]⟩,nodes⟩,qa]):=by
 have HC:=J (EY w D b M a c rm sb cb es ck h hl bk i v r hp hv hr);have HB:=J h.blk;have HT:=J hT;have b0:key.size<=6:=hk.key;have O:=J (λW nv (hn:Ie W nv nodes)=>XS W ⟨0,r,key,⟨#[]⟩,nodes⟩ nv hn hk hs)
 obtain⟨pb,X⟩:=vE (Fe ⟨0,r,key,⟨#[]⟩,nodes⟩)
 rw[<-X]at O ⊢;clear hT hk hs X;clear h hp hv hr hl;unfold vR vQ;go_in;go_wp2_with fail
 refine HC.o.mono ?_;rintro e w1 ⟨x,rfl,q,h1,h2,hE⟩
 obtain⟨Z,ev,cv⟩:=x
 have q:Z=v:=q;subst q;have b1:=J h2
 obtain⟨a1,c1,A⟩:=h1.1.sl
 obtain⟨a2,c2,H⟩:=h2.1.sl
 have A:ev=_:=A;have H:cv=_:=H;subst A H;have HE:=J hE;have b2:=hE.size;clear h1 h2 hE HC;unfold VX.cells;go_wp2_with (first|(refine Di Cb rfl rfl ?_;intro W2 a0 a3)|(refine Bt (vs:=[(Z.block:Int),.slice a1 Z.ents.length c1,.slice a2 Z.chgs.length c2,(Z.pins:Int)]) rfl rfl rfl rfl a0 rfl Bo zc ?_;intro W3 a8 a4))
 refine (EP W3).mono ?_;rintro e w4 ⟨rfl,rfl⟩;have K:Af w W3:=(HE.o.trans a3).O a4 kJ
 have a5:=J K;have a7:=HB.o.Z K kI;have q4:W3.cell? ⟨b,4,none⟩=some (.pointer (some sb)):=a7.z1 rfl;clear a3 a4 a0 a8 K a7;go_wp2_with fail
 refine (HT.o W3 a5.o).mono ?_;rintro e w5 ⟨an,cn,rfl,hR⟩;have H5:=J (bA (a5.o.trans hR.ext) hR.rd);clear hR;go_wp2_with fail
 refine vH (O.o w5 _ H5.o.2) λw6 a9=>?_;have H6:=J (H5.o.1.trans a9);go_wp2
 go_ret2
 exact⟨rfl,H6.o⟩
theorem o9(D:Nat->Prop)(b:Nat)(M:Dm)(a:Option Addr)(c rm sb cb:Nat)(es:List (Ce Int))(ck:Nat)(h:Kk D w b M a c rm sb cb es ck)(hl:M.all.length<=1000)(bk:Int)(i:Nat)(v:Au)(r:vB)(hp:Jp M.all bk=some i)(hv:M.all[i]?=some v)(hr:Cp es bk=some (.string r))(fr to:vB)(limit:Int)(P:vW->Ending->vW->Prop)(hP:∀ W e w',P W e w'->∃ (lv:vV) (m:Bool) (k:Int),e=.returned (.tuple #[lv,m,.int .i64 k]))(hT:∀ W,Af w W->vQ 55 #[sb,r,fr,to,.int .i64 limit] W (P W)):vQ 19 #[b,.int .i64 bk,fr,to,.int .i64 limit] w λe w'=>∃ W,Af w W/\P W e w':=by
 have HC:=J (EY w D b M a c rm sb cb es ck h hl bk i v r hp hv hr);have HB:=J h.blk;have HT:=J hT;have a5:=J hP;clear hT hP;clear h hp hv hr hl;unfold vQ;go_in;go_wp2_with fail
 refine HC.o.mono ?_;rintro e w1 ⟨x,rfl,q,h1,h2,hE⟩
 obtain⟨O,ev,cv⟩:=x
 have q:O=v:=q;subst q;have a8:=J h2
 obtain⟨a1,c1,A⟩:=h1.1.sl
 obtain⟨a2,c2,H⟩:=h2.1.sl
 have A:ev=_:=A;have H:cv=_:=H;subst A H;have HE:=J hE;have a9:=hE.size;clear h1 h2 hE HC;unfold VX.cells;go_wp2_with (first|(refine Di Cb rfl rfl ?_;intro W2 X Z)|(refine Bt (vs:=[(O.block:Int),.slice a1 O.ents.length c1,.slice a2 O.chgs.length c2,(O.pins:Int)]) rfl rfl rfl rfl X rfl Bo zc ?_;intro W3 a7 a0))
 refine (EP W3).mono ?_;rintro e w4 ⟨rfl,rfl⟩;have K:Af w W3:=(HE.o.trans Z).O a0 kJ
 have a3:=J K;have a4:=HB.o.Z K kI;have q4:W3.cell? ⟨b,4,none⟩=some (.pointer (some sb)):=a4.z1 rfl;clear Z a0 X a7 K a4;go_wp2_with fail
 refine (HT.o W3 a3.o).mono ?_;intro e w5 hR
 obtain⟨lv,m,k,rfl⟩:=a5.o _ _ _ hR
 have H5:=J hR;clear hR;go_wp2_with fail
 refine bodyPost_ret (results_tmp3 rfl _ _ _) rfl ?_
 exact⟨W3,a3.o,H5.o⟩
theorem Kv:(prog.info? 63).map (·.size)=some 5:=vY
theorem Ug:Xq (prog.underlying 63)=true:=vY
theorem o_(b:Nat)(vs:List vV)(hl:vs.length=5){T:TypeId}{fz:Nat × Nat}(hB:Ae W b (.cells vs.toArray T fz)):(loadVar 63 b).run prog W=.ok (.agg vs.toArray) W:=by
 obtain⟨A,e⟩:=Yo Ug
 have:(Instr.loadAt 63 b).run prog W=.ok (.agg vs.toArray) W:=Yr e (by rw[hl];exact Kv) (λj v q=>by rw[Go.WideShapes.add_plain,bX];exact hB.z1 q)
 simpa [Instr.loadAt,Instr.sureAddr,bS,Result.andThen]using this
theorem o4(D:Nat->Prop)(b:Nat)(M:Dm)(a:Option Addr)(c rm sb cb:Nat)(es:List (Ce Int))(ck:Nat)(h:Kk D w b M a c rm sb cb es ck)(hl:M.all.length<=1000)(bk:Int)(i:Nat)(v:Au)(r:vB)(hp:Jp M.all bk=some i)(hv:M.all[i]?=some v)(hr:Cp es bk=some (.string r))(hcl:v.chgs.length<=1000):vQ 20 #[b,.int .i64 bk] w λe w'=>∃ cv,e=.returned (.tuple #[.agg #[qa,qa,.int .i64 bk,r,cv],qa])/\Af w w'/\Jj w' cv v.chgs:=by
 have HC:=J (λW (e:Af w W)=>EY W D b M a c rm sb cb es ck (h.ext e) hl bk i v r hp hv hr);have HB:=J h.blk;have b4:=J hcl;clear hcl;clear h hp hv hr hl;unfold vQ;go_in;go_wp2_with fail
 have q:=(Aa w).alloc (.cells #[qa,qa,qa,(),qe] 63);have A:=Ae.new w (.cells #[qa,qa,qa,(),qe] 63);generalize w.alloc (.cells #[qa,qa,qa,(),qe] 63)=w0 at q A ⊢;have H0:=J (bA q A);have b8:=A.lt;clear A;refine (HC.o w0 q).mono ?_;rintro e w1 ⟨x,rfl,Z,h1,h2,hE⟩
 obtain⟨xv,ev,cv⟩:=x
 have Z:xv=v:=Z;subst Z;have b5:=J h2
 obtain⟨a1,c1,a0⟩:=h1.1.sl
 obtain⟨a2,c2,a3⟩:=h2.1.sl
 have a0:ev=_:=a0;have a3:cv=_:=a3;subst a0 a3;have HE:=J hE;have b9:=hE.size;clear h1 h2 hE HC;unfold VX.cells;go_wp2_with (first|(refine Di Cb rfl rfl ?_;intro W2 a8 H)|(refine Bt (vs:=[(xv.block:Int),.slice a1 xv.ents.length c1,.slice a2 xv.chgs.length c2,(xv.pins:Int)]) rfl rfl rfl rfl a8 rfl Bo zc ?_;intro W3 a9 K))
 refine (EP W3).mono ?_;rintro e w4 ⟨rfl,rfl⟩;have a4:Af w W3:=(q.trans (HE.o.trans H)).O K λx hx e=>by have e:x=(w1:Nat):=e;have:=q.size;omega
 have b0:=J a4;have b1:=HB.o.Z a4 kI;have q4:W3.cell? ⟨b,4,none⟩=some (.pointer (some sb)):=b1.z1 rfl;have q2:W3.cell? ⟨↑w1,2,none⟩=some (.slice a2 xv.chgs.length c2):=a9.z1 rfl;have b2:=(H0.o.2.Z HE.o kI).Z (H.O K kJ) kI;have X:=(b5.o.1.ext HE.o).ext (H.O K kJ);have H3:=J (bA b2 X);clear H K a8 a9 a4 b1 b2 X q;go_wp2_with fail
 refine (jU W3 _ _ H3.o.2 b4.o).mono ?_;rintro e w5 ⟨v5,rfl,a7,O⟩
 obtain⟨a5,c5,b6⟩:=a7.1.sl
 subst b6;have H5:=J (kU (b0.o.trans O) (H3.o.1.Z O kI) a7 O.size);clear O a7;go_wp2_with (refine Bt (vs:=[qa,qa,.int .i64 bk,r,.slice a5 xv.chgs.length c5]) rfl rfl rfl rfl H5.o.b rfl Kv zc ?_;intro W6 b7 b3)
 refine bodyPost_ret (EH rfl rfl rfl (o_ W6 w _ rfl b7)) rfl ?_;have c0:=b0.o.size
 refine⟨_,rfl,H5.o.1.O b3 kJ,H5.o.2.2.1.1.Z b3 λb hb e=>?_⟩
 have h1:=(H5.o.2.2.1.2 b hb).1;have h2:=H3.o.1.lt;have e:b=(w:Nat):=e;omega
theorem o3(D:Nat->Prop)(b:Nat)(M:Dm)(a:Option Addr)(c rm sb cb mb tg tc:Nat)(es:List (Ce Int))(ck:Nat)(h:Kk D w b M a c rm sb cb es ck)(key val:vB)(hc:Pj w cb mb tg tc key val):vR 23 #[b] w (.int .i64 1):=by
 have H:=J (bA h hc);clear h hc;unfold vR vQ;go_in;go_wp2_with fail
 refine vC (DC w D b M a c rm sb cb es ck H.o.1) λX q=>?_;have q5:X.cell? ⟨b,5,none⟩=some (.pointer (some cb)):=(H.o.1.ext q).blk.z1 rfl;have A:Pj X cb mb tg tc key val:=by obtain⟨g1,g2,K,g3⟩:=H.o.2;exact⟨g1.Z q kI,g2,K,g3.Z q kI⟩
 have Z:=J (bA q A);clear q A;go_wp2_with fail
 refine (A2 X cb mb tg tc key val Z.o.2).mono ?_;rintro e w3 ⟨ak,a0,rfl,O⟩;have H3:=J (Z.o.1.trans O);clear O;go_wp2
 go_ret
 exact⟨rfl,H3.o⟩
theorem o5(D:Nat->Prop)(b:Nat)(M:Dm)(a:Option Addr)(c rm sb cb:Nat)(es:List (Ce Int))(ck:Nat)(h:Kk D w b M a c rm sb cb es ck)(hl:M.all.length<=1000)(bk:Int)(i:Nat)(v:Au)(r:vB)(hp:Jp M.all bk=some i)(hv:M.all[i]?=some v)(hr:Cp es bk=some (.string r))(fr to t:vB)(limit:Int)(hft:Op.bytesLess fr.toList to.toList=true)(hR:∀ W,Af w W->vQ 55 #[sb,r,fr,to,.int .i64 limit] W λe w'=>(∃ la n lc,e=.returned (.tuple #[.slice la n lc,false,qa]))/\Af W w')
  (hBd:∀ W,Af w W->vQ 56 #[sb,r,.agg #[fr,to]] W λe w'=>∃ g c,e=.returned (.tuple #[.slice (some ⟨g,0,none⟩) 1 c,qa])/\Af W w'/\Ie w' (.slice (some ⟨g,0,none⟩) 1 c) [t])
  (hk:Vc ⟨1,r,fr,to,[t]⟩) (hs:(Fe ⟨1,r,fr,to,[t]⟩).size<=65536) :
  vR 18 #[b,.int .i64 bk,fr,to,.int .i64 limit] w (.tuple #[Fe ⟨1,r,fr,to,[t]⟩,false,qa]):=by
 have HC:=J (EY w D b M a c rm sb cb es ck h hl bk i v r hp hv hr);have HB:=J h.blk;have HR:=J hR;have b0:=J hBd;have b3:fr.size<=6:=hk.key;have b4:to.size<=6:=hk.to;have X:=J (λW nv (hn:Ie W nv [t])=>XS W ⟨1,r,fr,to,[t]⟩ nv hn hk hs)
 obtain⟨pb,Z⟩:=vE (Fe ⟨1,r,fr,to,[t]⟩)
 rw[<-Z]at X ⊢;clear hR hBd hk hs Z;clear h hp hv hr hl;unfold vR vQ;go_in;go_wp2_with fail
 refine HC.o.mono ?_;rintro e w1 ⟨x,rfl,A,h1,h2,hE⟩
 obtain⟨xv,ev,cv⟩:=x
 have A:xv=v:=A;subst A;have b5:=J h2
 obtain⟨a1,c1,H⟩:=h1.1.sl
 obtain⟨a2,c2,K⟩:=h2.1.sl
 have H:ev=_:=H;have K:cv=_:=K;subst H K;have HE:=J hE;have b6:=hE.size;clear h1 h2 hE HC;unfold VX.cells;go_wp2_with (first|(refine Di Cb rfl rfl ?_;intro W2 a0 a3)|(refine Bt (vs:=[(xv.block:Int),.slice a1 xv.ents.length c1,.slice a2 xv.chgs.length c2,(xv.pins:Int)]) rfl rfl rfl rfl a0 rfl Bo zc ?_;intro W3 b1 a4))
 refine (EP W3).mono ?_;rintro e w4 ⟨rfl,rfl⟩;have O:Af w W3:=(HE.o.trans a3).O a4 kJ
 have a5:=J O;have a7:=HB.o.Z O kI;have q4:W3.cell? ⟨b,4,none⟩=some (.pointer (some sb)):=a7.z1 rfl;clear a3 a4 a0 b1 O a7;go_wp2_with fail
 refine (HR.o W3 a5.o).mono ?_;rintro e w5 ⟨⟨la,n,lc,rfl⟩,q⟩;have q:=a5.o.trans q;have q5:w5.cell? ⟨b,4,none⟩=some (.pointer (some sb)):=(HB.o.Z q kI).z1 rfl;have H5:=J q;clear q;go_wp2_with fail
 refine (b0.o w5 H5.o).mono ?_;rintro e w6 ⟨g,c6,rfl,a8,a9⟩;have H6:=J (bA (H5.o.trans a8) a9);clear a8 a9;go_wp2_with fail
 refine vH (X.o w6 _ H6.o.2) λw7 b2=>?_;have H7:=J (H6.o.1.trans b2);go_wp2_with fail
 refine bodyPost_ret (results_tmp3 rfl _ _ _) rfl ?_
 exact⟨rfl,H7.o⟩
def jDo:vB:=⟨#[97]⟩
def jDp:vB:=⟨#[98]⟩
def Qg:vB:=⟨#[49]⟩
def Ki:vL:=[(jDo,Qg)]
def Ju:List Br:=[⟨jDo,Qg,false⟩]
def Ya:Ai:=⟨1,Bw jDo,Qg,List.replicate 16 ()⟩
def Et:vB:=Cu Ya
theorem rA:Ez [] Ju=0:=by decide +kernel
theorem rC:Jc (Pf [] Ju)=Ki:=by decide +kernel
theorem LF:Em Ki=0:=by decide +kernel
theorem z1(h1:n.kind=m.kind)(h2:n.path=m.path)(h3:n.value=m.value)(h4:n.refs=m.refs):n=m:=by
 cases n;cases m;simp_all
theorem VO:Bj (An 12) (Cq Ki)=Ya:=z1 ze ze ze ze
theorem oF:(Cr Ki).text=Et:=by show Cu (Bj (An 12) (Cq Ki))=_;rw[VO];rfl
theorem K1:Ph [] Ki=Ju:=by
 unfold Ph;rw[if_pos ⟨PU,LF⟩];unfold Ki Ju;simp[Fv]
theorem PV:Hv Et Ya:=⟨rfl,12,by rw[<-VO];exact (good 12 (Cq Ki) (Nn (Ge LF))).1⟩
theorem YN:Gc Ya=[]:=by
 unfold Gc;refine iU.2 λr e=>?_;have e:r∈List.replicate 16 (⟨#[]⟩:vB):=e;rw[(List.mem_replicate.1 e).2];exact GH
theorem uU:ky Et≠ky Gf:=by
 unfold ky;decide +kernel
theorem oE:Et.size<=1000:=by decide +kernel
theorem OB:Gn (Bx 12) Ya:=by rw[<-VO];exact (good 12 (Cq Ki) (Nn (Ge LF))).1
theorem sU:Be (Pn z) (ky Et)=none:=by
 rw[EJ];intro x e;have e:x∈[(ky Gf,z,(⟨Gf,[],0,1⟩:It))]:=e;rw[bG.1 e];exact uU
noncomputable def Mf(z y:Nat):vT:=Pn z++[(ky Et,y,⟨Et,[],0,1⟩)]
theorem PE:Be (Mf z y) (Aj Et).data.toList=some (ky Et,y,⟨Et,[],0,1⟩):=by
 show Be (Mf z y) (ky Et)=_;unfold Mf;have e:=sU z;unfold Be at e ⊢;rw[iX,e]
 simp
theorem F7:ER Tv (Js 2)=Aj Gf:=rfl
def Qv:Dm:=⟨2,2,[⟨0,[],[],0⟩,⟨1,Ki,Ju,0⟩]⟩
def AV:Dm:=⟨2,2,[⟨0,[],[],0⟩,⟨1,Ki,Ju,1⟩]⟩
theorem X1:Hn (Js 2) Ju=(Qv,1,0):=by
 have e:(Nu (Js 2)).ents=[]:=rfl;unfold Hn;rw[e,if_neg (by rw[rA];simp),if_neg vI,rC,K1];rfl
theorem X2:Gd Qv (-1)=(AV,1,0):=by
 unfold Gd;rfl
theorem t1:Nv AV 1=(Qv,0):=by
 unfold Nv;rfl
theorem GG:Jp Qv.all 1=some 1:=rfl
noncomputable def Gb:List (Ce Int):=[(0,.string (Aj Gf),0),(1,.string (Aj Et),1)]
theorem rB:Rz Tv (Js 2) (Aj Et) 1=Gb:=rfl
theorem K0:∀ x∈Tv,Co (Js 2).all x.1=true:=by
 intro x e;have e:x∈[((0:Int),Value.string (Aj Gf),0)]:=e;rw[bG.1 e];rfl
theorem OA:∀ x∈Gb,Co Qv.all x.1=true:=by
 intro x e;have e:x∈[((0:Int),Value.string (Aj Gf),0),((1:Int),Value.string (Aj Et),1)]:=e;rcases bU.1 e with rfl|e
 ·rfl
 ·rw[bG.1 e];rfl
theorem GS:Cp Gb 1=some (.string (Aj Et)):=rfl
theorem K2:Cp Gb 5=none:=rfl
theorem lP:Bz (Cr [])=[Gf]:=by decide +kernel
theorem lQ:(Cr []).text=Gf:=by decide +kernel
theorem F6:Iy (Pn z) []:=by
 refine⟨PU,λx e=>?_⟩
 rw[lP,bG]at e;subst e
 exact⟨(ky Gf,z,⟨Gf,[],0,1⟩),by unfold Be Pn;simp,rfl⟩
theorem F5(S:vT):Ho S (Gp [] Ju)=[Et]:=by
 have h:Gp [] Ju=Ki:=rC;have e:En (Dc (An 12) (Cq Ki))=[]:=by decide +kernel
 unfold Ho;rw[h,oF,VH LF,e];rfl
theorem o7(q:Ha w)(he:Gh w)(s bm z:Nat)(hA:Kq w0 s bm 100 (Pn z) w 1)(hw0:(w0:Nat)<=↑w)(u:vV)(hu:Jj w u Ju):vQ 46 #[s,Aj Gf,u] w (RM w0 w s bm 100 (Pn z) 1 (λ_=>False) λt K=>t=Aj Et/\∃ y,K=Mf z y):=by
 have hb:=hA.bds vI;have H:=nV w q he s bm 100 (Pn z) hA.st hA.all [] (F6 z) u Ju hu vI (λc q=>by have q:c∈[(⟨jDo,Qg,false⟩:Br)]:=q;rw[bG.1 q];decide) vI vI hb.1 hb.2.1 hb.2.2
 rw[show Bi []=Aj Gf by unfold Bi;rw[lQ]]at H;refine H.mono ?_;rintro e w' (⟨h,_⟩|⟨_,w1,A,h⟩)
 ·exact absurd rA h
 rw[F5]at h;rcases h with⟨k,hwy,_,_,_⟩|⟨top,G,M,htop,hY⟩
 ·refine absurd (hwy.imp (λh=>⟨h.1,h.2.elim⟩) id) (rU (k:=k) w PV YN (by show ((1:Nat):Int)+1<=100;decide))
 ·obtain rfl:Et=top:=bV htop;obtain⟨y,O⟩:=rT w PV YN hY.given hY.path (sU z);refine .inr ⟨Aj Et,_,⟨rfl,y,by rw[O];rfl⟩,hY.res,((hA.ext A).add (bH hw0 A.size) vI vI hY).mono vI,(A.mono kZ).trans hY.kp,λx X=>(hY.newS x X).imp id λh=>bH A.size h⟩
theorem NM{l:List Eu}:∀ i,Em (Iw l i)=0
 |0=>PU
 |i+1=>by
  cases h:l[i]? with
  |none =>
   have e:l.length<=i:=List.getElem?_eq_none_iff.1 h
   have:Iw l (i+1)=Iw l i:=by unfold Iw;rw[cG e,cG vO]
   rw[this];exact NM i
  |some p =>
   rw[NU h];unfold IV;split
   ·rename_i h0;exact Zo h0.2
   ·exact NM i
noncomputable def Df(l:List Eu):Nat->vM
 |0=>[Gf]
 |i+1=>Df l i++match l[i]? with
  |some p=>if p.k=0/\Ez (Iw l i) p.cs=0 then Ld (Gp (Iw l i) p.cs)else []
  |none=>[]
theorem JW(h:l[i]?=some p)(h1:p.k=0)(h2:Ez (Iw l i) p.cs=0):Df l (i+1)=Df l i++Ld (Gp (Iw l i) p.cs)/\Iw l (i+1)=Gp (Iw l i) p.cs:=by
 refine⟨?_,?_⟩
 ·show Df l i++_=_;rw[h];show Df l i++(if _ then _ else _)=_;rw[if_pos ⟨h1,h2⟩]
 ·rw[NU h];unfold IV;rw[if_pos ⟨h1,h2⟩]
theorem UN(h:l[i]?=some p)(h1:¬(p.k=0/\Ez (Iw l i) p.cs=0)):Df l (i+1)=Df l i/\Iw l (i+1)=Iw l i:=by
 refine⟨?_,?_⟩
 ·show Df l i++_=_;rw[h];show Df l i++(if _ then _ else _)=_;rw[if_neg h1,cC]
 ·rw[NU h];unfold IV;rw[if_neg h1]
theorem eL:Ld []=[Gf]:=by
 unfold Ld;rw[lP];decide +kernel
theorem UM{l:List Eu}:∀ {i j:Nat},j<=i->i<=l.length->∀ t∈Ld (Iw l j),t∈Df l i
 |0,j,hj,_,t,ht=>by
  obtain rfl:j=0:=vO
  have:Iw l 0=[]:=rfl
  rw[this,eL]at ht;exact ht
 |i+1,j,hj,hi,t,ht=>by
  by_cases e:j=i+1
  ·subst e
   obtain⟨p,H⟩:∃ p,l[i]?=some p:=⟨_,bB vO⟩
   by_cases h:p.k=0/\Ez (Iw l i) p.cs=0
   ·obtain⟨q,A⟩:=JW H h.1 h.2
    rw[A]at ht;rw[q];exact List.mem_append_right _ ht
   ·obtain⟨q,A⟩:=UN H h
    rw[A]at ht;rw[q];exact UM (bO i) vO t ht
  ·exact gR _ (UM vO vO t ht)
theorem ZM{l:List Eu}:∀ i,IQ (Df l i)
 |0=>λt e=>by
  have e:t∈[Gf]:=e;rw[bG.1 e]
  exact⟨_,ID⟩
 |i+1=>λt e=>by
  rcases bR.1 e with h|h
  ·exact ZM i t h
  ·split at h
   ·split at h
    ·rename_i h0
     exact b6 (Zo h0.2) t h
    ·cases h
   ·cases h
theorem jkf{l:List Eu}:∀ i,(Df l i).length<=1+121*i
 |0=>bO _
 |i+1=>by
  have h:=jkf (l:=l) i;show (Df l i++_).length<=_;rw[bK];split
  ·split
   ·rename_i h0
    have:=n_ (l:=Gp (Iw l i) _) (Zo h0.2)
    omega
   ·show _+0<=_;omega
  ·show _+0<=_;omega
theorem JF.first(hU:Gf∈U){w W:vW}{s bm z n:Nat}{room:Int}(h:Kq w s bm room (Pn z) W n):JF U [(0,[])] Tv (Pn z):=by
 refine⟨⟨λx A=>?_,h.cnt,h.full⟩,by unfold Tv;simp,λr=>?_,λq H=>⟨0,?_⟩⟩
 ·have A:x∈[(ky Gf,z,(⟨Gf,[],0,1⟩:It))]:=A;rw[bG.1 A];refine⟨Gf,hU,rfl,rfl,?_⟩;rw[show Bq Gf=Cv from BL W (Vm ID) ID];exact XQ.symm
 ·unfold Tv Rl;rw[jH];by_cases e:r=Aj Gf;{(have:Be (Pn z) r.data.toList=some (ky Gf,z,⟨Gf,[],0,1⟩):=by rw[e];unfold Be Pn ky;simp);rw[this];show ((if _ then 1 else 0:Nat):Int)<=1;split<;>decide};(have K:BB r (Aj Gf)=false:=by simp[BB];exact λh=>e h.symm);rw[K];show (0:Int)<=_;cases ha:Be (Pn z) r.data.toList with| none=>exact jA _| some x=>exact h.cnt.held x (Fd ha).1
 ·rw[bG.1 H];unfold Tv Bi;rw[lQ];simp
structure UJ(U:vM)(f:Nat)(l:vL)(t:vB):Prop where
 ok:Ep f l
 text:t=(An (f+1) l).text
 sub:∀ x∈Bz (An (f+1) l),x∈U
theorem l_{l:vL}{t:vB}(h:UJ U f l t):UJ U 12 l t:=by
 have q:Ep 12 l:=⟨λp A=>⟨(h.ok.size p A).2.1,(h.ok.size p A).2⟩,h.ok.rise⟩;have e:An (f+1) l=An (12+1) l:=by rcases Nat.le_total f 12 with hf|hf;{exact (d2 f 12 l h.ok hf).2};exact (d2 12 f l q hf).2.symm
 exact⟨q,by rw[<-e];exact h.text,by rw[<-e];exact h.sub⟩
theorem jDn(U:vM):∀ (f:Nat) (l:vL),Ep f l->(∀ x∈Bz (An (f+1) l),x∈U)->∀ t∈Bz (An (f+1) l),∃ g m,UJ U g m t:=by
 intro f;induction f with
 |zero =>(intro l h A t q;have H:Bz (An (0+1) l)=(An (0+1) l).text::En (Dc (An 0) l):=by show Bz (.mk (Cu (Bj (An 0) l)) (Dc (An 0) l))=_;rw[Bz];rfl);(have X:Dc (An 0) l=[]:=by have:=Vt h;unfold Dc;rw[if_pos vO]);rw[H,X]at q;simp[En]at q;exact⟨0,l,h,q,A⟩
 |succ f ih =>(intro l h A t q;have H:Bz (An (f+1+1) l)=(An (f+1+1) l).text::En (Dc (An (f+1)) l):=by show Bz (.mk (Cu (Bj (An (f+1)) l)) (Dc (An (f+1)) l))=_;rw[Bz];rfl);rw[H]at q;rcases bU.1 q with e|q;{exact⟨f+1,l,h,e,A⟩};obtain⟨K,O,q⟩:=Zw.1 q;obtain⟨g,m,e,rfl,Z,_⟩:=uI h O;obtain rfl:f=g:=vO;exact ih m Z (λx hx=>A x (by rw[H];exact bM _ (Zw.2 ⟨_,O,hx⟩))) t q
theorem jDl{k:Eo}(h:0<cK T k):∃ r∈T,r.data.toList=k:=by
 unfold cK at h
 obtain⟨r,q,e⟩:=bC.1 (gB.1 h)
 exact⟨r,q,e⟩
theorem jC9(w:vW)(hU:Gi U){S:vT}(hK:Kp U S)(hin:∀ x∈S,∃ m,Em m=0/\(∀ t∈Ld m,t∈U)/\∃ t∈Ld m,x.1=ky t)(G:Eo->Prop)(hG:∀ x∈S,0<x.2.2.held->G x.1)(hcl:∀ x∈S,G x.1->∀ r∈x.2.2.refs,G r.data.toList):∀ x∈S,G x.1:=by
 have a1:∀ x∈S,∃ f l,UJ U f l x.2.2.text:=λx q=>by obtain⟨m,H,hs,t,ht,e⟩:=hin x q;obtain⟨t',a8,e1,e2,_⟩:=hK.is x q;have:t'=t:=wE hU a8 (hs t ht) (e1.symm.trans e);subst this;rw[e2];exact jDn U 12 (Cq m) (Nn (Ge H)) (λx q=>hs x ((Ql _ _).2 q)) t' ((Ql _ _).1 ht)
 have a4:∀ x∈S,¬ G x.1->∃ y∈S,¬ G y.1/\∃ r∈y.2.2.refs,r.data.toList=x.1:=λx q Z=>by have h1:=hK.cnt.held x q;have h2:¬ 0<x.2.2.held:=λh=>Z (hG x q h);have h3:=hK.full x q;have h4:=hK.cnt.used x q;obtain⟨r,O,e⟩:=jDl (T:=Ko S) (k:=x.1) vO;obtain⟨y,A,O⟩:=dE.1 O;exact⟨y,A,λhg=>Z (by rw[<-e];exact hcl y A hg r O),r,O,e⟩
 have a0:∀ x∈S,∀ f l,UJ U f l x.2.2.text->∀ y∈S,∀ g m,UJ U g m y.2.2.text->(∃ r∈y.2.2.refs,r.data.toList=x.1)->∃ X,g=X+1/\UJ U X l x.2.2.text:=by intro x q f l hl y A g m H ⟨r,O,e⟩;obtain⟨ty,_,_,e2,e3⟩:=hK.is y A;obtain⟨tx,a9,f1,f2,_⟩:=hK.is x q;have hI:Hv ty (Bj (An g) m):=⟨by rw[<-e2];exact H.text,g,(good g m H.ok).1⟩;rw[e3,BL w (Vm hI) hI,SM g m H.ok]at O;obtain⟨K,a5,rfl⟩:=bC.1 O;have a7:∀ z∈Bz K,z∈U:=λz hz=>H.sub z (by show z∈Bz (.mk (Cu (Bj (An g) m)) (Dc (An g) m));rw[Bz];exact bM _ (Zw.2 ⟨K,a5,hz⟩));obtain⟨X,m',rfl,rfl,b0,_⟩:=uI H.ok a5;have et:(An (X+1) m').text=tx:=wE hU (a7 _ (Yx _)) a9 (e.trans f1);have hM:UJ U X m' x.2.2.text:=⟨b0,by rw[f2,et],a7⟩;have h1:=l_ hl;have h2:=l_ hM;have:l=m':=jDa w 12 l m' h1.ok h2.ok (λa ha b hb=>hU a (h1.sub a ha) b (h2.sub b hb)) (h1.text.symm.trans h2.text);subst this;exact⟨X,rfl,hM⟩
 have a3:∀ k,(∀ x∈S,¬ G x.1->∀ f l,UJ U f l x.2.2.text->UJ U k l x.2.2.text)->∀ x∈S,¬ G x.1->False:=by intro k;induction k with| zero =>intro h x q Z;obtain⟨y,A,a2,O⟩:=a4 x q Z;obtain⟨f,l,hl⟩:=a1 x q;obtain⟨g,m,H⟩:=a1 y A;obtain⟨X,e,_⟩:=a0 x q f l hl y A 0 m (h y A a2 g m H) O;cases e| succ k ih =>intro h;refine ih λx q Z f l hl=>?_;obtain⟨y,A,a2,O⟩:=a4 x q Z;obtain⟨g,m,H⟩:=a1 y A;obtain⟨X,e,hp⟩:=a0 x q f l hl y A (k+1) m (h y A a2 g m H) O;obtain rfl:k=X:=vO;exact hp
 intro x q;exact Classical.byContradiction λZ=>a3 12 (λx q _ f l hl=>l_ hl) x q Z
