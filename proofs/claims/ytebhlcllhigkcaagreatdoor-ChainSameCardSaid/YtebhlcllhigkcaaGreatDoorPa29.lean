/- Lemmas. -/
import Derived.Test.YtebhlcllhigkcaaGreatDoorPa0
import Derived.Test.YtebhlcllhigkcaaGreatDoorPa27
namespace Go.Proofs.YtebhlcllhigkcaaGreatDoor
open Go.Proofs.Tryz
set_option linter.unusedSimpArgs false
set_option linter.unusedVariables false
set_option maxRecDepth 100000
set_option maxHeartbeats 16000000
variable (W w:vW){c rm sb cb ck bm n mb b:Nat}{fz:Nat × Nat}
section
open Go Go.RowKit
attribute [local go_sem] Oper.semAt_some
theorem Fp.past{w0 W W':vW}{D:Nat->Prop}{F:Bd}{M:Dm}{a:Option Addr}{es:List (Ce Int)}{room:Int}{S:vT}(h:Fp w0 D W b M a c rm sb cb es ck bm room S n)(k:Ad F W W')(h1:¬ F b)(h2:¬ F rm)(h3:¬ F sb)(h4:¬ F bm)(h5:∀ x∈S,¬ F x.2.1)(h6:∀ z,D z->¬ F z)(h7:Mm W F):Fp w0 D W' b M a c rm sb cb es ck bm room S n:=
 ⟨h.m.keeps k h1 h2 h6,h.s.keeps k h3 h4 h5 h7,h.sep,h.rb,h.db,fun z e=>⟨(h.dr z e).1,bD (h.dr z e).2 k.size⟩,h.ok,h.st,h.kn,h.lt,h.val⟩
theorem z0{w:vW}{x:Array vV}{T:TypeId}{y:Array MapEntry}(h:Ae w cb (.cells x T fz))(hT:T≠9)(hm:Ae w mb (.map y ck)):Mm w (fun z=>z=cb\/z=mb):=fun z q A e hb=>by
 rcases e with e|e
 ·exact KX h hT z q A e hb
 ·exact KN hm z q A e hb
theorem Pp:(Instr.alloc 50 true (.tuple #[])).run prog w=.ok w (w.alloc (.cells [Value.int .i64 0,.string ⟨#[]⟩,.string ⟨#[]⟩,.string ⟨#[]⟩,.slice none 0 0].toArray 50)):=vY
theorem Po:(Instr.alloc 60 true (.tuple #[])).run prog w=.ok w (w.alloc (.cells [Value.int .i64 0,.int .i64 0,.int .i64 0,.string ⟨#[]⟩,.slice none 0 0].toArray 60)):=vY
theorem E1(hc:Ha w)(he:Gh w):vR 4 #[] w true:=by
 have HC:=J hc;have i9:=J he;clear hc he;unfold vR vQ;go_in;go_wp2_with fail
 refine (WC w HC.o i9.o 2 100 4 vI vI vI).mono ?_;rintro e w1 ⟨D,b,a,c,O,H,A,K,Z,z,rfl,hI,b1,b5,q,g4,a4,d1, -⟩;have H1:=J (bA hI (bA b1 (bA b5 (bA q (bA g4 (bA a4 d1))))));clear hI b1 b5 q g4 a4 d1;go_wp2_with fail
 have c8:=(Aa w1).alloc (.cells (Pg Ju).toArray 43);have d2:=O8 w1 Ju 43;change Calls _ _ _ (w1.alloc (.cells (Pg Ju).toArray 43)) _;have g9:=Ae.new w1 (.cells (Pg Ju).toArray 43)
 obtain⟨ub,i3⟩:=vE w1.heap.size
 rw[<-i3]at d2 g9 ⊢;generalize w1.alloc (.cells (Pg Ju).toArray 43)=w2 at c8 d2 g9 ⊢
 obtain⟨d3,b1,b5,q,g4,a4,d1⟩:=H1.o
 have j0:=d3.ext c8;have l5:=d3.m.blk.lt;have b7:=b1.trans c8;have g5:=aR w2 w D b (Js 2) a c O H A Tv 1 Z 100 (Pn z) 1 j0 vI vI K0 (.slice (some ub) 1 1) Ju d2 vI (fun c hc=>by have hc:c∈[(⟨jCk,Qg,false⟩:Br)]:=hc;rw[bL.1 hc];decide) (fun _=>False) (fun t S'=>t=Aj Et/\∃ y,S'=Mf z y) (fun W k hS=>by rw[F7];have h0:Af w W:=b7.trans' k kJ;exact o7 w W (HC.o.ext h0) (i9.o.ext h0) H Z z hS h0.size _ (d2.keeps k fun x X e=>by have X:some ub=some x:=X;have e:x=b:=e;cases X;omega))
 unfold YF at g5;rw[X1]at g5;refine g5.mono ?_;rintro e w3 (⟨k,hk,hN,_⟩|⟨_,t,S1,S',D',a',c',⟨rfl,y,rfl⟩,rfl,g6,h4,d4,b2,j1, -⟩)
 ·rcases hN with h|⟨_,h⟩;{exact absurd h.symm hk};exact h.elim
 obtain rfl:S'=Mf z y:=b2 (by rw[rB];exact OA);have hf:(Rz Tv (Js 2) (Aj Et) 1).filter (fun x=>Co Qv.all x.1)=Gb:=by rw[rB];exact fL.2 OA
 simp only at g6;rw[hf]at g6;have j2:Rx w3 A K 4:=(show Rx w2 A K 4 from b5.keeps c8 kI kI).keeps h4 (q A (.inl rfl)).1 (q K (.inr rfl)).1;have j3:=b5.1.lt;have j4:=b5.2.lt;have i4:=c8.size;have b8:∀ x,x<w1.heap.size->¬ Sb b O Z (Pn z) x->x≠H->x≠b/\x≠O/\x≠H/\x≠Z/\(∀ y'∈Mf z y,y'.2.1≠x)/\∀ z',D' z'->z'≠x:=fun x h1 h2 h3 =>⟨fun e=>h2 (.inl e),fun e=>h2 (.inr (.inl e)),h3,fun e=>h2 (.inr (.inr (.inl e))),fun y' hy e=>by rcases d4 y' hy with h|h;{exact h2 (.inr (.inr (.inr (by rw[<-e];exact h))))};omega,fun z' hz e=>kL (j1 z' hz)⟩
 have oc:=b8 A j3 (q A (.inl rfl)).1 (q A (.inl rfl)).2.2.2;have om:=b8 K j4 (q K (.inr rfl)).1 (q K (.inr rfl)).2.2.2;have i5:w.heap.size<=Z:=d3.s.bnew;have e0:Af w w3:=b7.trans' h4 fun x X e=>by have hz:w.heap.size<=z:=d3.s.new (ky Gf,z,⟨Gf,[],0,1⟩) (by unfold Pn;exact bL.2 rfl);have e:x=b\/x=O\/x=Z\/x∈[z]:=e;rw[bL]at e;rcases e with e|e|e|e<;>omega
 have H3:=J (bA g6 (bA e0 (bA j2 (bA oc (bA om (bA d1 (bA (show w.heap.size<=A from(q A (.inl rfl)).2.1) (show w.heap.size<=K from(q K (.inr rfl)).2.1))))))));clear g6 e0 j2 oc om b8 j3 j4 i4 g5 hf h4 d4 b2 j1 d3 b1 b5 q g4 a4 d1 j0 b7 c8 d2 g9 i5 l5;go_wp2_with fail
 have h5:=(Aa w3).alloc (.cells (Qp Ki).toArray 46);refine vH (rO _ _ Ki (HC.o.ext (H3.o.2.1.trans h5)) (O9 w3 Ki 46) LF) fun w4 l6=>?_;rw[oF];have j5:=J (h5.trans l6);clear h5;go_wp2_with fail
 refine vH (mE w4 D' b Qv a' c' O H A Gb 2 (H3.o.1.m.ext j5.o) vI 1 1 _ (Aj Et) GG rfl GS) fun w5 l7=>?_;have d5:=J (j5.o.trans l7);go_wp2_with fail
 have h7:=H3.o.1.ext d5.o;have g7:Rx w5 A K 4:=H3.o.2.2.1.keeps d5.o kI kI
 obtain⟨th,j6⟩:=vE (Aj Et++⟨#[32]⟩++jCk)
 have hF:∀ W,Ad (fun z=>z=A\/z=K) w5 W->Fp w D' W b Qv a' c' O H A Gb 2 Z 100 (Mf z y) 1001:=fun W k=>by obtain⟨c1,c2,c3,c4,c5,c6⟩:=H3.o.2.2.2.1;obtain⟨m1,m2,m3,m4,m5,m6⟩:=H3.o.2.2.2.2.1;refine h7.past k ?_ ?_ ?_ ?_ ?_ ?_ (z0 g7.1 vI g7.2);{rintro (e|e);{exact c1 e.symm};exact m1 e.symm};{rintro (e|e);{exact c2 e.symm};exact m2 e.symm};{rintro (e|e);{exact c3 e.symm};exact m3 e.symm};{rintro (e|e);{exact c4 e.symm};exact m4 e.symm};{rintro x X (e|e);{exact c5 x X e};exact m5 x X e};rintro x X (e|e);{exact c6 x X e};exact m6 x X e
 have HF:=J hF;have j7:=J g7;have h8:=H3.o.2.2.2.2.2.1;refine (pP w5 D' b Qv a' c' O H A Gb 2 h7.m vI 1 1 _ (Aj Et) GG rfl GS (by rw[Rp];decide) jCk Qg vI 0 (fun W=>Ad (fun z=>z=A\/z=K) w5 W/\AR W A K th) (fun W=>Ad (fun z=>z=A\/z=K) w5 W/\AR W A K th) (fun W=>Ad (fun z=>z=A\/z=K) w5 W/\∃ tg tc,Pj W A K tg tc th Qg/\w5.heap.size<=tg) (fun W k=>by rw[<-j6];refine (P7 W A K h8 (j7.o.keeps k kI kI) th).mono ?_;rintro e w' ⟨rfl,h1,h2⟩;exact⟨rfl,(k.mono kZ).trans h1,h2⟩) (fun W k=>(HF.o W k.1).m.blk) (fun W k=>by have h:=K3 W H Z z y (HF.o W k.1).s.st (HF.o W k.1).s.all;refine h.mono ?_;rintro e w' ⟨rfl,hE⟩;exact⟨rfl,k.1.trans (hE.mono kZ),k.2.1.keeps hE kI,k.2.2.keeps hE kI⟩) (fun W k=>(HF.o W k.1).m.blk) (fun _ W k=>by rw[<-j6];refine (o6 W A K h8 th Qg k.2).mono ?_;rintro e w' ⟨rfl,h1,tg,tc,h2,h3⟩;exact⟨true,rfl,k.1.trans (h1.mono fun _ _ e=>.inl e),tg,tc,h2,bF k.1.size h3⟩)).mono ?_
 intro e w6 h6
 obtain⟨_,rfl,h9,tg,tc,j8,l8⟩:=(show _\/_ from h6).resolve_right fun h=>h.1 rfl
 clear h6;have i6:=d5.o.size;have b9:=H3.o.2.2.2.2.2.2;have e3:Af w w6:=(H3.o.2.1.trans d5.o).trans' h9 fun x X e=>by rcases e with e|e;{have:=b9.1;omega};have:=b9.2;omega
 have H6:=J (bA (hF w6 h9) (bA e3 (bA j8 (show D' tg\/tg=b\/tg=O\/tg=Z\/(∃ x∈Mf z y,x.2.1=tg)->False from fun e=>by have hl:=H3.o.1.ext d5.o;have l9:=hl.lt';rcases e with e|e|e|e|⟨x,X,e⟩;{have:=(hl.dr tg e).2;omega};{omega};{omega};{omega};have:=l9.2.2.2.2 x.2.1 (iL X);omega))))
 clear h7 g7 hF h8 h9 j8 l8 i6 b9 e3 HF j7;go_wp2_with fail
 have b6:=(jT w6 D' b Qv a' c' O H A Gb 2 H6.o.1.m vI 1 1 _ (Aj Et) GG rfl GS jCk [Et] (fun W k=>s8 W H Z z y (H6.o.1.ext k).s.st) OZ tD);change Calls _ _ _ _ (fun e w'=>e=.returned (.tuple #[Fe Tt,qa])/\Af w6 w')at b6;refine b6.mono ?_;rintro e w7 ⟨rfl,j9⟩;have m0:=J j9;clear j9 b6;go_wp2_with fail
 refine (zQ w7 Tt OZ tD).mono ?_;rintro e w8 ⟨nv,rfl,g8⟩
 obtain⟨na,nn,nc,rfl⟩:∃ a n c,nv=.slice a n c:=by rcases g8.rd with⟨a,c,e, -⟩|⟨b,o,c,e, -⟩;{exact⟨a,0,c,e⟩};exact⟨_,_,c,e⟩
 have H8:=J (bA (m0.o.trans g8.ext) g8.rd);clear g8;unfold Fi.cells Tt;go_wp2_with (first|(refine Di Pp rfl rfl ?_;intro W9 k0 k1)|(refine Bt (vs:=[qa,Aj Et,jCk,(),.slice na nn nc]) rfl rfl rfl rfl k0 rfl Gq zc ?_;intro k2 e4 e5)|(refine Gz 50 (.tmp 13) rfl rfl (.agg (Tt.cells (.slice na nn nc)).toArray) w8 rfl (ZL _ _ _ rfl e4) ?_))
 have c0:Af w8 k2:=k1.trans' e5 kJ
 have e6:=J (H8.o.1.trans c0);refine (s9 k2 (HC.o.ext (H6.o.2.1.trans e6.o)) _ (H8.o.2.ext c0)).mono ?_;rintro e i0 ⟨ja,jc,rfl,hE⟩;have a0:=J (e6.o.trans hE);clear hE c0 k0 k1 e4 e5;go_wp2_with fail
 have hR:∀ W,Af i0 W->vQ 52 #[H,Aj Et,jCk,jCl,.int .i64 1] W fun e w'=>(∃ la lc,e=.returned (.tuple #[.slice la 1 lc,false,qa]))/\Af W w':=fun W k=>t0 W H Z z y (H6.o.1.ext (a0.o.trans k)).s.st;have HR:=J hR;have b6:=(o5 i0 D' b Qv a' c' O H A Gb 2 (H6.o.1.ext a0.o).m vI 1 1 _ (Aj Et) GG rfl GS jCk jCl Et 1 kK (fun W k=>(hR W k).mono fun e w' ⟨⟨la,lc,e1⟩,e2⟩=>⟨⟨la,1,lc,e1⟩,e2⟩) (fun W k=>D0 W H jCk jCl (Aj Et) Et jCk Ya uV kK fun V kV=>by have h:=AL V H Z 100 (Mf z y) (Aj Et) (H6.o.1.ext (a0.o.trans (k.trans kV))).s.st;rw[PE]at h;exact h) rW yV)
 change Calls _ _ _ _ (fun e w'=>e=.returned (.tuple #[Fe Xf,false,qa])/\Af i0 w')at b6;refine b6.mono ?_;rintro e m7 ⟨rfl,hE⟩;have c7:=J hE;clear hE b6 hR;go_wp2_with fail
 refine (o9 m7 D' b Qv a' c' O H A Gb 2 (H6.o.1.ext (a0.o.trans c7.o)).m vI 1 1 _ (Aj Et) GG rfl GS jCk jCl 1 (fun W e w'=>(∃ la lc,e=.returned (.tuple #[.slice la 1 lc,false,qa]))/\Af W w') (fun W e w' h=>by obtain⟨⟨la,lc,h⟩, -⟩:=h;exact⟨_,_,_,h⟩) fun W k=>HR.o W (c7.o.trans k)).mono ?_;rintro e m8 ⟨W,b1,⟨la,lc,rfl⟩,k3⟩;have e7:=J (a0.o.trans (c7.o.trans (b1.trans k3)));clear b1 k3;go_wp2_with fail
 refine (o4 m8 D' b Qv a' c' O H A Gb 2 (H6.o.1.ext e7.o).m vI 1 1 _ (Aj Et) GG rfl GS vI).mono ?_;rintro e c9 ⟨cv,rfl,hE,k4⟩
 obtain⟨va,vn,vc,rfl⟩:∃ a n c,cv=.slice a n c:=by rcases k4 with⟨a,c,e, -⟩|⟨b,o,c,e, -⟩;{exact⟨a,0,c,e⟩};exact⟨_,_,c,e⟩
 have e8:=J (e7.o.trans hE);clear hE k4;go_wp2_with (first|(refine Di Po rfl rfl ?_;intro n7 e9 f0)|(refine Bt (vs:=[qa,qa,.int .i64 1,Aj Et,.slice va vn vc]) rfl rfl rfl rfl e9 rfl Kv zc ?_;intro k5 f1 f2))
 have f3:Af c9 k5:=f0.trans' f2 kJ
 have f4:=J (e8.o.trans f3);have i7:=J f1;clear e9 f0 f1 f2 f3;refine vH (A0 k5 D' b Qv a' c' O H A Gb 2 (H6.o.1.ext f4.o).m 5 K2 ⟨#[97]⟩) fun m9 f5=>?_;have i8:=J (f4.o.trans f5);go_wp2_with fail
 refine vH (A1 m9 2 0 4 vI) fun k6 f6=>?_;have a5:=J (i8.o.trans f6);go_wp2_with fail
 have i1:=Q0 k6 w D' b Qv a' c' O H A Gb 2 Z 100 (Mf z y) 1001 (H6.o.1.ext a5.o) vI (-1);rw[X2]at i1;refine i1.mono ?_;rintro e d0 ⟨rfl,a7,D2,a2,c2,a8⟩;have a8:Fp w D2 d0 b AV a2 c2 O H A Gb 2 Z 100 (Mf z y) 1001:=a8
 obtain⟨n8,n0⟩:=H1.o.2.2.2.2
 have b3:Af w k6:=H6.o.2.1.trans a5.o;have b4:Af w d0:=b3.trans' a7 kJ
 obtain⟨k7,d6⟩:=H6.o.2.2
 have f7:Pj d0 A K tg tc th Qg:=by obtain⟨p1,p2,a1,p3⟩:=k7;have c1:=H3.o.2.2.2.1.1;exact⟨(p1.keeps a5.o kI).keeps a7 c1,p2,a1,(p3.keeps a5.o kI).keeps a7 fun e=>d6 (.inr (.inl e))⟩
 have f8:Ae d0 c9 (.cells [.int .i64 0,.int .i64 0,.int .i64 1,.string (Aj Et),.slice va vn vc].toArray 60):=((i7.o.keeps (f5.o.trans f6.o) fun h=>h)).keeps a7 fun e=>by have h1:=H6.o.1.lt'.1;have h2:=e8.o.size;have e:c9.heap.size=b:=e;omega
 have q3:d0.cell? ⟨c9.heap.size,3,none⟩=some (.string (Aj Et)):=f8.cell (i:=3) rfl
 obtain⟨nb,k8⟩:=vE c9.heap.size
 rw[<-k8]at q3 ⊢;have d7:=J (bA a8 (bA b4 f7));clear a8 b4 b3 f7 f8 k7 k8;have k9:(Js 2).next=1:=rfl;have l0:Qg=⟨#[49]⟩:=rfl;have l1:¬(Fe Xf).toList=[]:=fun e=>yW Xf (Rp _) (by rw[cA]at e;exact ByteArray.ext (Array.ext' e))
 obtain⟨pb,l2⟩:=vE (Fe Xf)
 rw[<-l2]at l1 ⊢;rw[k9,l0]
 obtain⟨rt,l3⟩:=vE (Aj Et)
 rw[<-l3]at q3 ⊢;clear l2 l3 k9 l0;go_wp2_with fail
 have hU:=p4 d0 w D2 b AV a2 c2 O H A Gb 2 Z 100 (Mf z y) 1001 d7.o.1 vI vI 1;rw[t1]at hU;refine hU.mono ?_;rintro e i2 ⟨rfl,a9,D3,a3,c3,n1,S3,f9, -,l4, -,d4⟩;obtain rfl:S3=Mf z y:=d4 OA;obtain rfl:n1=Gb:=by rw[l4 rfl];exact fL.2 OA
 have g0:Af w i2:=d7.o.2.1.trans' a9 fun x X e=>by have h1:=n0.1;have h2:=d7.o.1.s.bnew;rcases e with e|e|e|e;{omega};{omega};{omega};obtain⟨x',d8,e⟩:=bC.1 e;have:=d7.o.1.s.new x' d8;omega
 have g2:Pj i2 A K tg tc th Qg:=by obtain⟨p1,p2,a1,p3⟩:=d7.o.2.2;obtain⟨c1,c2,c3,c4,c5,c6⟩:=H3.o.2.2.2.1;refine⟨p1.keeps a9 ?_,p2,a1,p3.keeps a9 ?_⟩;{rintro (e|e|e|e);{exact c1 e};{exact c2 e};{exact c4 e};obtain⟨x',d8,e⟩:=bC.1 e;exact c5 x' d8 e};rintro (e|e|e|e);{exact d6 (.inr (.inl e))};{exact d6 (.inr (.inr (.inl e)))};{exact d6 (.inr (.inr (.inr (.inl e))))};obtain⟨x',d8,e⟩:=bC.1 e;exact d6 (.inr (.inr (.inr (.inr ⟨x',d8,e⟩))))
 have d9:=J (bA f9 (bA g0 g2));clear hU a9 f9 g0 g2 l4 d4 i1;go_wp2_with fail
 refine (o2 i2 w D3 b Qv a3 c3 O H A Gb 2 Z 100 (Mf z y) 1001 d9.o.1 vI).mono ?_;rintro e n2 ⟨bv,rfl,hR⟩
 obtain⟨ba,bc,rfl⟩:=hR.sl
 have g3:=J hR.ext;clear hR;have n3:Qv.all.length=2:=rfl;rw[n3];go_wp2_with fail
 refine (o8 n2 w D3 b Qv a3 c3 O H A Gb 2 Z 100 (Mf z y) 1001 (d9.o.1.ext g3.o) (by show 2<=100000;decide)).mono ?_;rintro e n4 ⟨nv,rfl,hR⟩
 obtain⟨n9,o0,rfl⟩:=hR.sl
 have b0:=J (g3.o.trans hR.ext);clear hR;have n5:(Mf z y).length=2:=rfl;rw[n5];go_wp2_with fail
 refine vC (o3 n4 D3 b Qv a3 c3 O H A K tg tc Gb 2 (d9.o.1.ext b0.o).m th Qg (by obtain⟨p1,p2,a1,p3⟩:=d9.o.2.2;exact⟨p1.keeps b0.o kI,p2,a1,p3.keeps b0.o kI⟩)) fun o1 hE=>?_;have HE:=J (d9.o.2.1.trans (b0.o.trans hE));clear hE;go_wp2_with fail
 go_ret
 refine⟨?_,HE.o⟩
 have n6:pb.toList.isEmpty=false:=by cases h:pb.toList with| nil=>exact absurd h l1| cons _ _=>rfl
 show Ending.returned (!pb.toList.isEmpty:)=_;rw[n6];rfl
end
section
open Go Go.RowKit
end
section
open Go Go.RowKit
attribute [local go_sem] Oper.semAt_some
end
section
open Go Go.RowKit
attribute [local go_sem] Oper.semAt_some
section
variable (w0 w:vW) (b rm sb cb mb bm:Nat) (room:Int) (M:Dm) (es:List (Ce Int)) (S:vT) (i:Nat)
end
def xZ(w:vW)(k t:vB)(i:vV)(wr:vW):Prop:=(i=.int .i64 0\/(i=.int .i64 1/\k.size<=50/\t.size<=50))/\Af w wr
theorem F8(w:vW)(v:vV)(l:List Eu)(hv:AI w v l)(hn:l.length<=9223372036854775807)(hs:KR l)(g:Nat)(bk lm:Int)(k t:vB)(hk:k.size<=9223372036854775807)(ht:t.size<=9223372036854775807)(hg:Ae w g (.cells #[.int .i64 bk,k,t,.int .i64 lm] 24)):vQ 6 #[v,.slice (some g) 1 1] w (JH w ((∀ p∈l,Lu p.cs=true)/\l.length<=10/\k.size<=50)):=by
 have HF:=J (fun W (e:Af w W)=>X3 W v l (hv.ext e) hn hs);have HG:=J hg
 obtain⟨a,c,rfl⟩:=hv.sl;clear hv hs hg;unfold vQ;go_in;go_wp2_with fail
 go_loopw [5] (fun i wr=>xZ w k t i wr) (fun i _=>1-(intOf i).toNat)
 case atStart=>exact⟨.inl rfl,Aa w⟩
 case round =>obtain⟨hi,K⟩:=hrel;have O:=J K;rcases hi with rfl|⟨rfl,q,A⟩;{have q1:wr.cell? ⟨g,1,none⟩=some (.string k):=(HG.o.keeps K fun h=>h).cell (i:=1) rfl;have q2:wr.cell? ⟨g,2,none⟩=some (.string t):=(HG.o.keeps K fun h=>h).cell (i:=2) rfl;clear K;by_cases h1:50<k.size;{have b1:(50:Int)<(k.size:Int):=vO;(clear h1;go_wp2_with fail);go_ret;exact⟨⟨false,rfl,fun h=>by cases h⟩,O.o⟩};have b1:¬(50:Int)<(k.size:Int):=vO;by_cases h2:50<t.size;{have b2:(50:Int)<(t.size:Int):=vO;(clear h1 h2;go_wp2_with fail);go_ret;exact⟨⟨false,rfl,fun h=>by cases h⟩,O.o⟩};have b2:¬(50:Int)<(t.size:Int):=vO;(have q:=J h1;have A:=J h2;clear h1 h2;go_wp2_with fail);go_roundw;(case rel=>exact⟨.inr ⟨by go_num,kL q.o,kL A.o⟩,O.o⟩);case measure=>simp[intOf]};have Z:=J q;(clear K q A;go_wp2_with fail);refine (HF.o wr O.o).mono ?_;rintro e w2 ⟨⟨r,rfl,hr⟩,X⟩;have H:=J (O.o.trans X);have HR:=J hr;clear X hr;cases r with| false =>(go_wp2_with fail);go_ret;exact⟨⟨_,rfl,fun h=>by cases h⟩,H.o⟩| true =>by_cases h10:l.length<=10;{have b3:(l.length:Int)<=10:=vO;(have a0:=J h10;clear h10;go_wp2_with fail);go_ret;exact⟨⟨_,rfl,fun _=>⟨HR.o (by first|rfl|trivial),a0.o,Z.o⟩⟩,H.o⟩};have b3:¬(l.length:Int)<=10:=vO;(clear h10;go_wp2_with fail);go_ret;exact⟨⟨false,rfl,fun h=>by cases h⟩,H.o⟩
end
section
open Go Go.RowKit
theorem Ue:Xq (prog.underlying 24)=true:=vY
theorem Uk:(prog.info? 24).map (·.size)=some 4:=vY
theorem T_(b:Nat)(vs:List vV)(hl:vs.length=4){T:TypeId}(hB:Ae W b (.cells vs.toArray T fz)):(Instr.loadAt 24 b).run prog W=.ok (.agg vs.toArray) W:=by
 obtain⟨A,e⟩:=Yo Ue
 exact Yr e (by rw[hl];exact Uk) (fun j v q=>by rw[Go.WideShapes.add_plain,bX];exact hB.cellL q)
end
