/- Lemmas; each is under no condition but those that it states. -/
import Derived.Test.YtegloohdmjadoaaGreatDoorPu18
namespace Go.Proofs.YtegloohdmjadoaaGreatDoor
set_option linter.unusedSimpArgs false
set_option linter.unusedVariables false
set_option maxRecDepth 100000
set_option maxHeartbeats 16000000
section
open Go Go.RowKit
attribute [local go_sem] Oper.semAt_some
theorem jmk(w:vW)(p v:vB)(rs:vM)(hr:rs.length=16):vR 110 #[jad.V ⟨0,p,v,rs⟩] w (.string (jaO ⟨0,p,v,rs⟩)):=by
 unfold jad.V;have H:(jad.cells ⟨0,p,v,rs⟩)[0]?=some (.int .i64 0):=rfl;rw[show jaO ⟨0,p,v,rs⟩=jap ⟨#[]⟩from rfl]
 obtain⟨R,e⟩:=vE (jap ⟨#[]⟩)
 have m:=Hd (fun w1=>jd8 w1 ⟨#[]⟩ vI);rw[<-e]at m ⊢;clear e;go_enter Tryz.func110,Tryz.ntmps110;go_wp2_with fail
 refine vH (m.o _) fun w1 A=>?_;have E:=Hd (((ExtR w).alloc _).trans A);go_wp2_with fail
 go_ret
 exact⟨rfl,E.o⟩
theorem jmj(w:vW)(p v:vB)(rs:vM)(hr:rs.length=16)(hp:p.size<=12)(hv:v.size<=80)(hpv:jaz p=true):vR 110 #[jad.V ⟨1,p,v,rs⟩] w (.string (jaO ⟨1,p,v,rs⟩)):=by
 have Q:=jbm p true;have X:=jaQ (putB p true);have a3:=jaQ v;have e0:(jad.cells ⟨1,p,v,rs⟩)[0]?=some (.int .i64 1):=rfl;have e1:(jad.cells ⟨1,p,v,rs⟩)[1]?=some (.string p):=rfl;have e2:(jad.cells ⟨1,p,v,rs⟩)[2]?=some (.string v):=rfl
 obtain⟨r0,e3⟩:∃ r0,(jad.cells ⟨1,p,v,rs⟩)[3]?=some (.string r0):=by
  cases rs with
  | nil=>cases hr
  | cons r0 rs=>exact⟨r0,rfl⟩
 unfold jad.V
 obtain⟨C,hC⟩:=vE (jad.cells ⟨1,p,v,rs⟩)
 have a4:C.length=19:=by rw[hC];exact jad.cells_len _ hr
 rw[<-hC]at e0 e1 e2 e3 ⊢;have HP:=Hd (fun w1=>jmw w1 p true vO hpv)
 obtain⟨m,e⟩:=vE (putB p true)
 rw[<-e]at Q X HP;have HL:=Hd (show jaO ⟨1,p,v,rs⟩=jba [jap m,jap v] by rw[e];rfl);have Z:=Hd (fun w1=>jd8 w1 m vO);have a0:=Hd (fun w1=>jd8 w1 v vO);have J:=Hd (show (catB [jap m,jap v]).size<=1000000 by rw[ja6,ja6,jcD];omega)
 obtain⟨t1,a1⟩:=vE (jap m)
 obtain⟨t2,a2⟩:=vE (jap v)
 rw[<-a1]at HL Z J;rw[<-a2]at HL a0 J;rw[HL.o];clear Q X a3 hC a4 e a1 a2 hp hv hr;go_enter Tryz.func110,Tryz.ntmps110;go_wp2_with fail
 have A:=Blk.new w (.cells C.toArray 110)
 obtain⟨W0,K⟩:=vE (w.alloc (.cells C.toArray 110))
 have a5:=Hd (show Ext w W0 by rw[K];exact (ExtR w).alloc _);rw[<-K]at A ⊢
 obtain⟨g,hg⟩:=vE w.heap.size
 rw[<-hg]at A ⊢;have a6:=Hd A;have O:=Hd (bB e0 (bB e2 e3));clear K hg A e0 e1 e2 e3;refine vC (HP.o W0) fun w1 E=>?_;have a7:=Hd (a5.o.trans E);have H:=a6.o.keeps E (fun h=>h);have q0:=H.cellL O.o.1;have q2:=H.cellL O.o.2.1;have q3:=H.cellL O.o.2.2;clear E H;go_wp2_with fail
 refine vH (a0.o w1) fun w2 E=>?_;have a8:=Hd (a7.o.trans E);clear q0 q2 q3;go_wp2_with fail
 refine vH (Z.o w2) fun w3 E=>?_;have a9:=Hd (a8.o.trans E);go_wp2_with fail
 refine vH (jkV _ _ [t1,t2] (jdp w3 [t1,t2] 9) (by simp) J.o) fun w4 E=>?_;have b0:=Hd (a9.o.trans (((ExtR w3).alloc _).trans E))
 obtain⟨R,hR⟩:=vE (jba [t1,t2])
 rw[<-hR];go_wp2_with fail
 go_ret
 exact⟨rfl,b0.o⟩
theorem jnC(w:vW)(p v r0:vB)(rs:vM)(hp:p.size<=12)(hv:r0.size<=80)(hpv:jaz p=true):vR 110 #[jad.V ⟨2,p,v,r0 :: rs⟩] w (.string (jaO ⟨2,p,v,r0 :: rs⟩)):=by
 have O:=jbm p false;have Q:=jaQ (putB p false);have e0:(jad.cells ⟨2,p,v,r0 :: rs⟩)[0]?=some (.int .i64 2):=rfl;have e1:(jad.cells ⟨2,p,v,r0 :: rs⟩)[1]?=some (.string p):=rfl;have e2:(jad.cells ⟨2,p,v,r0 :: rs⟩)[2]?=some (.string v):=rfl;have e3:(jad.cells ⟨2,p,v,r0 :: rs⟩)[3]?=some (.string r0):=rfl;unfold jad.V
 obtain⟨C,hC⟩:=vE (jad.cells ⟨2,p,v,r0 :: rs⟩)
 rw[<-hC]at e0 e1 e2 e3 ⊢;have HP:=Hd (fun w1=>jmw w1 p false vO hpv)
 obtain⟨m,e⟩:=vE (putB p false)
 rw[<-e]at O Q HP;have HL:=Hd (show jaO ⟨2,p,v,r0 :: rs⟩=jba [jap m,r0] by rw[e];rfl);have X:=Hd (fun w1=>jd8 w1 m vO);have Z:=Hd (show (catB [jap m,r0]).size<=1000000 by rw[ja6,ja6,jcD];omega)
 obtain⟨t1,a0⟩:=vE (jap m)
 rw[<-a0]at HL X Z;rw[HL.o];clear O Q hC e a0 hp hv;go_enter Tryz.func110,Tryz.ntmps110;go_wp2_with fail
 have A:=Blk.new w (.cells C.toArray 110)
 obtain⟨W0,H⟩:=vE (w.alloc (.cells C.toArray 110))
 have a1:=Hd (show Ext w W0 by rw[H];exact (ExtR w).alloc _);rw[<-H]at A ⊢
 obtain⟨g,hg⟩:=vE w.heap.size
 rw[<-hg]at A ⊢;have a2:=Hd A;have J:=Hd (bB e0 (bB e2 e3));clear H hg A e0 e1 e2 e3;refine vC (HP.o W0) fun w1 K=>?_;have a3:=Hd (a1.o.trans K);have E:=a2.o.keeps K (fun h=>h);have q0:=E.cellL J.o.1;have q2:=E.cellL J.o.2.1;have q3:=E.cellL J.o.2.2;clear K E;go_wp2_with fail
 refine vH (X.o w1) fun w3 K=>?_;have a4:=Hd (a3.o.trans K);clear q0 q2 q3;go_wp2_with fail
 refine vH (jkV _ _ [t1,r0] (jdp w3 [t1,r0] 9) (by simp) Z.o) fun w4 K=>?_;have a5:=Hd (a4.o.trans (((ExtR w3).alloc _).trans K))
 obtain⟨R,hR⟩:=vE (jba [t1,r0])
 rw[<-hR];go_wp2_with fail
 go_ret
 exact⟨rfl,a5.o⟩
theorem jiN(v:vB)(rs:vM)(hr:rs.length=16):jaO ⟨3,⟨#[]⟩,v,rs⟩=jba (ja5 rs v):=by
 show jd5 ⟨3,⟨#[]⟩,v,rs⟩=_;unfold jd5;rw[jdy _ hr]
def itB(r:vB):vB:=if r.size=0 then jap ⟨#[]⟩else r
def Rb4R(W:vW)(rs:vM)(lv iv xv:vV)(wr:vW):Prop:=∃ k:Nat,k<=16/\iv=.int .i64 k/\ORow 9 1 W wr lv k (((rs.map itB).take k).map Value.string)
theorem jjl(w:vW)(v:vB)(rs:vM)(hr:rs.length=16)(hv:v.size<=80)(hz:(catB (ja5 rs v)).size<=100000):vR 110 #[jad.V ⟨3,⟨#[]⟩,v,rs⟩] w (.string (jaO ⟨3,⟨#[]⟩,v,rs⟩)):=by
 rw[jiN v rs hr];have a3:=Hd hr;have HZ:=Hd hz;have a4:=Hd (show ja5 rs v=rs.map itB++[jap v]from rfl);have e0:(jad.cells ⟨3,⟨#[]⟩,v,rs⟩)[0]?=some (.int .i64 3):=rfl;have e2:(jad.cells ⟨3,⟨#[]⟩,v,rs⟩)[2]?=some (.string v):=rfl;have eR:∀ (k:Nat) x,rs[k]?=some x->(jad.cells ⟨3,⟨#[]⟩,v,rs⟩)[3+k]?=some (.string x):=fun k x hx=>by
  show (Value.int .i64 3 :: .string ⟨#[]⟩ :: .string v :: rs.map Value.string)[3+k]?=_;rw[show 3+k=k+1+1+1 by omega];simp[hx]
 unfold jad.V
 obtain⟨C,hC⟩:=vE (jad.cells ⟨3,⟨#[]⟩,v,rs⟩)
 rw[<-hC]at e0 e2 eR ⊢;have b2:=Hd (fun w1=>jd8 w1 ⟨#[]⟩ vI);have a5:=Hd (fun w1=>jd8 w1 v vO);have b3:=Hd eR;clear hC hr hv hz eR;go_enter Tryz.func110,Tryz.ntmps110;go_wp2_with fail
 have E:=Blk.new w (.cells C.toArray 110)
 obtain⟨H,O⟩:=vE (w.alloc (.cells C.toArray 110))
 have b4:=Hd (show Ext w H by rw[O];exact (ExtR w).alloc _);rw[<-O]at E ⊢
 obtain⟨g,hg⟩:=vE w.heap.size
 rw[<-hg]at E ⊢;have a6:=Hd E;have b5:=Hd e2;clear O hg E e0 e2;go_loopw [6,7,8] (fun lv iv xv wr=>Rb4R H rs lv iv xv wr) (fun _ iv _ _=>16 - (intOf iv).toNat)
 case atStart=>exact⟨0,by omega,rfl,ORow.nil _ _ (ExtR H)⟩
 case round =>
  obtain⟨k,hk,rfl,hR⟩:=hrel
  have HR:=Hd hR
  obtain⟨la,lc,rfl⟩:=hR.sl;clear hR
  by_cases hlt:k < 16
  ·have b1:(k:Int) < 16:=vO
   obtain⟨x,hx⟩:∃ x,rs[k]?=some x:=⟨_,bA (by have:=a3.o;omega)⟩
   have q1:wr.cell? ⟨g,3+k,none⟩=some (.string x):=(a6.o.keeps HR.o.ext (fun h=>h)).cellL (b3.o k x hx);have A:=Hd (show (rs.map itB).take (k+1)=(rs.map itB).take k++[itB x] by rw[bS,bV,hx];rfl);have a7:k+1<=maxLen:=by unfold maxLen;omega
   have a9:(k+1) * 16<=140737488355328:=vO
   clear hx
   by_cases hx0:x=⟨#[]⟩
   ·subst hx0
    rw[show itB ⟨#[]⟩=jap ⟨#[]⟩from rfl]at A
    obtain⟨t0,Q⟩:=vE (jap ⟨#[]⟩)
    rw[<-Q]at A;have b6:=Hd Q;clear Q;go_wp2_with fail
    refine vH (b2.o wr) fun w1 hE=>?_;have X:=Hd (HR.o.mono hE);rw[<-b6.o];clear q1;go_wp2_with (at_builtin;refine jaS Tryz.sStrs (X.o.mono ((ExtR w1).alloc _)) (.tmp 50) (.tmp 52) rfl rfl rfl (jaH (Blk.new w1 _)) (news:=[.string t0]) (by intro u J;simp at J;subst J;rfl) rfl rfl a7 a9 ?_;intro Z w' K r2 r3)
    have m:ORow 9 1 H w' Z (k+1) (((rs.map itB).take (k+1)).map Value.string):=by rw[A.o,bZ];exact K
    obtain⟨a8,c8,rfl⟩:=m.sl
    have a0:=Hd m;clear K r2 r3 m;go_wp2_with fail
    go_roundw
    case rel=>exact⟨k+1,by omega,by go_num,a0.o⟩
    case measure=>exact vJ
   ·have a1:x.size≠0:=fun e=>hx0 (jbE (bD e))
    have b9:x.toList.isEmpty=false:=by
     rw[bL];cases h:x.data.toList with
     | nil=>exact absurd (show x.size=0 by show x.data.toList.length=0;rw[h];rfl) a1
     | cons=>rfl
    rw[show itB x=x by unfold itB;rw[if_neg a1]]at A;clear hx0 a1;go_wp2_with (at_builtin;refine jaS Tryz.sStrs (HR.o.mono ((ExtR wr).alloc _)) (.tmp 50) (.tmp 52) rfl rfl rfl (jaH (Blk.new wr _)) (news:=[.string x]) (by intro u J;simp at J;subst J;rfl) rfl rfl a7 a9 ?_;intro Z w' K r2 r3)
    have m:ORow 9 1 H w' Z (k+1) (((rs.map itB).take (k+1)).map Value.string):=by rw[A.o,bZ];exact K
    obtain⟨a8,c8,rfl⟩:=m.sl
    have a0:=Hd m;clear K r2 r3 m;go_wp2_with fail
    go_roundw
    case rel=>exact⟨k+1,by omega,by go_num,a0.o⟩
    case measure=>exact vJ
  ·have a2:k=16:=vO
   subst a2;have b7:=Hd (show ORow 9 1 H wr (.slice la 16 lc) 16 ((rs.map itB).map Value.string) by
    have h:=HR.o
    rwa [bQ (by rw[bU];have:=a3.o;omega)]at h)
   have q2:=(a6.o.keeps HR.o.ext (fun h=>h)).cellL b5.o;have b1:¬((16:Nat):Int) < 16:=vO
   obtain⟨tv,b0⟩:=vE (jap v)
   rw[<-b0]at a5 a4;clear HR b0;go_wp2_with fail
   refine vH (a5.o wr) fun w1 hE=>?_;have X:=Hd (b7.o.mono hE);clear q2;go_wp2_with (at_builtin;refine jaS Tryz.sStrs (X.o.mono ((ExtR w1).alloc _)) (.tmp 54) (.tmp 58) rfl rfl rfl (jaH (Blk.new w1 _)) (news:=[.string tv]) (by intro u J;simp at J;subst J;rfl) rfl rfl vI vI ?_;intro Z w' K r2 r3)
   have HF:=Hd (show SRow H w' Z 17 (ja5 rs v) by
    rw[a4.o];show ORow 9 1 H w' Z 17 _;rw[bZ];exact K)
   clear K r2 r3;refine vH (jkV w' Z (ja5 rs v) HF.o.rd (by have:=HF.o.len;simp at this;omega) (by have:=HZ.o;omega)) fun w4 hE=>?_;have b8:=Hd (b4.o.trans (HF.o.ext.trans hE))
   obtain⟨R,hR⟩:=vE (jba (ja5 rs v))
   rw[<-hR];go_wp2_with fail
   go_ret
   exact⟨rfl,b8.o⟩
end
section
open Go Go.RowKit
attribute [local go_sem] Oper.semAt_some
structure InlR(I:vB->jad->Prop):Prop where
 small:∀ r m,I r m->r.size < 32
 refs:∀ r m,I r m->m.refs.length=16
 inl:∀ r m,I r m->∀ w,vR 143 #[.string r] w (.tuple #[m.V,.bool true])
theorem ji3(w:vW)(r:vB)(hr:32<=r.size):vR 143 #[.string r] w (.tuple #[jav.V,.bool false]):=by
 have J:(32:Int)<=(r.size:Int):=vO
 go_enter Tryz.func143,Tryz.ntmps143;go_wp2_with (first |(refine jaj Tryz.allocNode rfl rfl ?_;intro K m o) |(refine jag (vs:=jav.cells) rfl rfl rfl rfl m vF Tryz.szNode jav.one ?_;intro H A E))
 refine bodyPost_ret (jaC rfl rfl rfl (jas H _ jav rfl A)) rfl ?_
 exact⟨rfl,o.trans' E (fun x O e=>by have e:x=w.heap.size:=e;omega)⟩
theorem jmr(w:vW)(s:vB)(n:jad)(h1:n.refs.length=16)(hk:n.kind≠0)(hsm:s.size < 32)(hread:∀ w,vR 165 #[.string s] w (.tuple #[n.V,.bool true])):vR 143 #[.string s] w (.tuple #[n.V,.bool true]):=by
 have c1:¬(32:Int)<=(s.size:Int):=vO
 have c2:((n.kind:Int) == 0)=false:=by simp;omega
 have c3:¬(n.kind:Int)=0:=vO
 have m:=Hd hread;have H1:=Hd h1;have X:=Hd (n.cells_len h1);clear h1 hk hread;unfold jad.V at m ⊢;go_enter Tryz.func143,Tryz.ntmps143;go_wp2_with (refine jaj Tryz.allocNode rfl rfl ?_;intro W1 A E)
 refine vC (m.o W1) fun Z hE=>?_;have H:=A.keeps hE (fun h=>h);have a0:=Hd (E.trans hE);clear A E hE;go_wp2_with (first |(refine jaj Tryz.allocNode rfl rfl ?_;intro W3 a1 J;refine jag (vs:=n.cells) rfl rfl rfl rfl a1 (by rw[X.o];rfl) (by rw[X.o];exact Tryz.szNode) n.one ?_;intro W4 K O;have q0:W4.cell? ⟨Z.heap.size,0,none⟩=some (.int .i64 (n.kind:Int)):=K.cellL vF;have Q:=(H.keeps J (fun h=>h)).keeps O (by have:=H.lt;omega)) |(refine jaf 110 (.tmp 4) rfl rfl _ _ rfl (jaq _ _ n H1.o K) ?_) |(refine jag (vs:=n.cells) rfl rfl rfl rfl Q (by rw[X.o];rfl) (by rw[X.o];exact Tryz.szNode) n.one ?_;intro W8 a2 a3))
 refine bodyPost_ret (jaC rfl rfl rfl (jas W8 _ n H1.o a2)) rfl ?_;have a4:Ext Z W4:=J.trans' O (fun x hx e=>by have e:x=Z.heap.size:=e;omega)
 exact⟨rfl,(a0.o.trans a4).trans' a3 (fun x hx e=>by have e:x=w.heap.size:=e;omega)⟩
section
variable {I:vB->jad->Prop} (HI:InlR I)
include HI
theorem jjV(w:vW)(r:vB)(hr:MayP I r):vR 144 #[.string r] w (.bool true):=by
 rcases hr with⟨h,hs,rfl⟩ |⟨m,hm⟩
 ·have K:=Hd (fun w1=>jvq w1 h hs)
  have Z:=Hd (fun w1=>ji3 w1 (jap h) (by rw[jwi hs,bY,hs];decide))
  obtain⟨t,ht⟩:=vE (jap h)
  rw[<-ht]at K Z ⊢;clear ht hs;go_enter Tryz.func144,Tryz.ntmps144;go_wp2_with fail
  refine (K.o w).mono ?_;rintro e w1 ⟨rfl,rfl⟩;go_wp2_with fail
  refine vH (Z.o w) fun O Q=>?_;unfold jad.V;go_wp2_with (first |(refine jaj Tryz.allocNode rfl rfl ?_;intro W3 A E;refine jag (vs:=jav.cells) rfl rfl rfl rfl A rfl Tryz.szNode jav.one ?_;intro W4 X H))
  go_ret
  exact⟨rfl,Q.o.trans (E.trans' H (fun x hx e=>by have e:x=O.heap.size:=e;omega))⟩
 ·have J:=HI.small r m hm
  have HM:=Hd (HI.inl r m hm);have HL:=Hd (m.cells_len (HI.refs r m hm));unfold jad.V at HM;have K:=Hd (fun w1=>js8 w1 r J);clear J hm;go_enter Tryz.func144,Tryz.ntmps144;go_wp2_with fail
  refine (K.o w).mono ?_;rintro e w1 ⟨rfl,rfl⟩;go_wp2_with fail
  refine vH (HM.o w) fun O Q=>?_;go_wp2_with (first |(refine jaj Tryz.allocNode rfl rfl ?_;intro W3 A E;refine jag (vs:=m.cells) rfl rfl rfl rfl A (by rw[HL.o];rfl) (by rw[HL.o];exact Tryz.szNode) m.one ?_;intro W4 X H))
  go_ret
  exact⟨rfl,Q.o.trans (E.trans' H (fun x hx e=>by have e:x=O.heap.size:=e;omega))⟩
end
end
section
open Go Go.RowKit
theorem jy5(d:Nat)(a b:vB)(w:vW):(Op.equalIn (d+1) 9 (.string a) (.string b)).run Tryz.prog w=.ok (a == b) w:=by
 simp[Op.equalIn,cA,run_underlying Tryz.uStr,Result.andThen,cR]
def jne(d:Option TypeDesc)(l:List (Bool × TypeId × Nat)):Bool:=match d with | some (.struct fs)=>fs.toList.map (fun f=>(f.name == "_",f.type,f.offset)) == l | _=>false
theorem jw1{d:Option TypeDesc}(h:jne d [(false,9,0),(false,9,1)]=true):∃ f g:Field,d=some (.struct #[f,g])/\f.name ≠ "_"/\f.type=9/\f.offset=0/\g.name ≠ "_"/\g.type=9/\g.offset=1:=by
 cases d with
 | none=>cases h
 | some d =>
  cases d <;> try (cases h;done)
  rename_i fs
  obtain⟨l⟩:=fs
  rcases l with _ |⟨f,_ |⟨g,_ |⟨e,r⟩⟩⟩ <;> simp[jne]at h
  obtain⟨⟨m,o,A⟩,E,H,J⟩:=h
  exact⟨f,g,rfl,m,o,A,E,H,J⟩
theorem Tryz.entFields:jne (Tryz.prog.underlying 59) [(false,9,0),(false,9,1)]=true:=vY
theorem Tryz.entHeld:Tryz.prog.stoodInHeld 59=false:=vY
theorem juY(x y x' y':vB)(w:vW):(binOp .neq 59 (.agg #[.string x,.string y]) (.agg #[.string x',.string y'])).run Tryz.prog w=.ok (.bool (!(x == x' && y == y'))) w:=by
 obtain⟨f,g,Q,A,E,H,J,K,O⟩:=jw1 Tryz.entFields
 have e:∀ (u v:vV) w,(part 9 #[u,v] 0).run Tryz.prog w=.ok u w:=fun u v w=>by
  simp[part,cA,Tryz.strAgg,Result.andThen,cR]
 have m:∀ (u v:vV) w,(part 9 #[u,v] 1).run Tryz.prog w=.ok v w:=fun u v w=>by
  simp[part,cA,Tryz.strAgg,Result.andThen,cR]
 have X:∀ d,(Op.equalIn (d+2) 59 (.agg #[.string x,.string y]) (.agg #[.string x',.string y'])).run Tryz.prog w=.ok (x == x' && y == y') w:=fun d=>by
  rw[Op.equalIn];simp only[cA,run_underlying Q,Result.andThen];simp[cA,Result.andThen,Sem.run,Tryz.entHeld,A,E,H,J,K,O,e,m,jy5];cases (x == x')with
  | false=>simp[cR]
  | true =>
   simp[cA,Result.andThen,Sem.run,Tryz.entHeld,A,E,H,J,K,O,e,m,jy5];cases (y == y') <;> simp[cR]
 have o:(Op.equal 59 (.agg #[.string x,.string y]) (.agg #[.string x',.string y'])).run Tryz.prog w=.ok (x == x' && y == y') w:=X 9998;simp only[binOp,cA,o,Result.andThen,cR]
theorem Tryz.isEntry:jhU (Tryz.prog.underlying 59)=true:=vY
theorem Tryz.szEntry:(Tryz.prog.info? 59).map (·.size)=some 2:=vY
theorem jlZ{w:vW}{b o:Nat}{x y:vB}(h1:w.cell? ⟨b,o,none⟩=some (.string x))(h2:w.cell? ⟨b,o+1,none⟩=some (.string y)):(Instr.loadAt 59 (.pointer (some ⟨b,o,none⟩))).run Tryz.prog w=.ok (.agg #[.string x,.string y]) w:=by
 obtain⟨A,m⟩:=jhs Tryz.isEntry
 refine jfj (xs:=[.string x,.string y]) m Tryz.szEntry (fun j v e=>?_);rw[Addr.add_lit]
 match j,e with
 | 0,e=>simp at e;subst e;exact h1
 | 1,e=>simp at e;subst e;exact h2
 | j+2,e=>simp at e
def eqP(p q:Pair):Bool:=p.1 == q.1 && p.2 == q.2
theorem jnc(p q:Pair):eqP p q=true↔p=q:=by
 unfold eqP;rw[jeS,jeS];simp only[cJ,decide_eq_true_eq];constructor
 ·rintro⟨e,m⟩
  obtain⟨a,b⟩:=p
  obtain⟨c,d⟩:=q
  exact Prod.ext e m
 ·rintro rfl;exact⟨rfl,rfl⟩
def jhn:vL->vL->Bool
 | [],[]=>true
 | p :: l,q :: m=>eqP p q && jhn l m
 | _,_=>false
theorem jfm:∀ (l m:vL),jhn l m=true↔l=m
 | [],[]=>by simp[jhn]
 | p :: l,[]=>by simp[jhn]
 | [],q :: m=>by simp[jhn]
 | p :: l,q :: m=>by
  unfold jhn;rw[cJ,jnc,jfm l m];simp
theorem jl7(w:vW)(v:vV)(l:vL)(hv:RdP w v l)(hn:l.length<=9223372036854775807)(hs:∀ p∈l,p.1.size<=9223372036854775807/\p.2.size<=9223372036854775807)(h:jaD l≠0):vR 8 #[v] w (.tuple #[.slice none 0 0,.int .i64 (jaD l)]):=by
 have m:=jgV w v l hv hn hs
 obtain⟨a,c,rfl⟩:=hv.sl
 obtain⟨x,A⟩:=vE (jaD l)
 rw[<-A]at h m ⊢;have H:(x == 0)=false:=by simpa using h
 have J:=Hd m;clear m hv A hs;refine (callsIn_wide (n:=0)).1 ?_;refine callsIn_of_wp_marks Tryz.func8 rfl trivial ?_ rfl;simp only[Tryz.ntmps8,dN,bP,dD,Nat.reduceAdd,Nat.reduceSub,dL,dK,dX,dP,cM,cZ];gi_wp2_with fail
 refine⟨trivial,rfl,CallsIn.mono (callsIn_wide.2 J.o) ?_⟩
 rintro e w1 ⟨rfl,E⟩;have K:=Hd E;clear E;gi_wp2_with fail
 refine⟨_,results_tmp2 rfl _ _ _,?_⟩
 exact⟨rfl,K.o⟩
def jfn(p:Pair):Bool:=decide (p.1.size<=20) && decide (p.2.size<=100)
def fewB(l:vL):Bool:=l.all jfn && decide (l.length<=45)
def jAa(w:vW)(l:vL)(i:vV)(wr:vW):Prop:=∃ k:Nat,k<=l.length/\k<=46/\i=.int .i64 k/\Ext w wr/\(l.take k).all jfn=true
theorem jtU{l:vL}{k:Nat}{p:Pair}(h:l[k]?=some p):(l.take (k+1)).all jfn=((l.take k).all jfn && jfn p):=by
 rw[bS,h,iZ];simp
theorem jqR{l:vL}{k:Nat}{p:Pair}(h:l[k]?=some p)(hb:jfn p=false):fewB l=false:=by
 unfold fewB
 have:l.all jfn=false:=by
  rw[dC];intro e
  have:=fG.1 e p (bE h)
  rw[hb]at this;cases this
 rw[this];rfl
theorem jrJ(w:vW)(v:vV)(l:vL)(hv:RdP w v l)(hn:l.length<=9223372036854775807)(hs:∀ p∈l,p.1.size<=9223372036854775807/\p.2.size<=9223372036854775807) :
  vR 7 #[v] w (.bool (fewB l)):=by
 have HV:=Hd hv;have HS:=Hd hs
 obtain⟨a,c,rfl⟩:=hv.sl;clear hv hs
 obtain⟨R,O⟩:=vE (fewB l)
 rw[<-O];have J:=Hd O;clear O;go_enter Tryz.func7,Tryz.ntmps7;go_wp2_with fail
 go_loopw [3] (fun i wr=>jAa w l i wr) (fun i _=>l.length - (intOf i).toNat)
 case atStart=>exact⟨0,by omega,by omega,rfl,ExtR w,rfl⟩
 case round =>
  obtain⟨k,hk,a1,rfl,hE,e⟩:=hrel
  have A:=Hd hE;have E:=Hd e;clear hE e
  by_cases hlt:k < l.length
  ·have b1:(k:Int) < (l.length:Int):=vO
   by_cases h45:k<=45
   ·have Q:(k:Int)<=45:=vO
    obtain⟨p,K⟩:∃ p,l[k]?=some p:=⟨_,bA hlt⟩
    rcases HV.o with⟨_,_,_,h0⟩ |⟨b,o,c1,hh,hb,hc,hcell⟩
    ·rw[h0]at hlt;cases hlt
    cases hh
    obtain⟨X,Z⟩:=hcell k p K
    have X:=jaa X A.o;have Z:=jaa Z A.o;have a0:=HS.o p (bE K);have HP:=Hd K
    obtain⟨x,y⟩:=p
    simp only at X Z a0;clear hcell hb hc K
    by_cases hx:20 < x.size
    ·have b3:(20:Int) < (x.size:Int):=vO
     have m:=Hd (show R=false by rw[J.o];exact jqR HP.o (by unfold jfn;simp;omega));clear hx;go_wp2_with fail
     go_ret
     exact⟨by rw[m.o];rfl,A.o⟩
    ·have b3:¬(20:Int) < (x.size:Int):=vO
     by_cases hy:100 < y.size
     ·have b4:(100:Int) < (y.size:Int):=vO
      have m:=Hd (show R=false by rw[J.o];exact jqR HP.o (by unfold jfn;simp;omega));clear hx hy;go_wp2_with fail
      go_ret
      exact⟨by rw[m.o];rfl,A.o⟩
     ·have b4:¬(100:Int) < (y.size:Int):=vO
      have HG:=Hd (show (l.take (k+1)).all jfn=true by rw[jtU HP.o,E.o];unfold jfn;simp;omega);clear hx hy;go_wp2_with fail
      go_roundw
      case rel=>exact⟨k+1,by omega,by omega,by go_num,A.o,HG.o⟩
      case measure=>exact vJ
   ·have Q:¬(k:Int)<=45:=vO
    have b3:¬(l.length:Int)<=45:=vO
    have m:=Hd (show R=false by rw[J.o];unfold fewB;simp;omega);clear h45;go_wp2_with fail
    go_ret
    exact⟨by rw[m.o];rfl,A.o⟩
  ·have H:k=l.length:=vO
   have b1:¬(k:Int) < (l.length:Int):=vO
   have e:=E.o;rw[H,cE]at e
   by_cases h45:l.length<=45
   ·have Q:(l.length:Int)<=45:=vO
    have m:=Hd (show R=true by rw[J.o];unfold fewB;rw[e];simp;omega);clear H e h45;go_wp2_with fail
    go_ret
    exact⟨by rw[m.o];rfl,A.o⟩
   ·have Q:¬(l.length:Int)<=45:=vO
    have m:=Hd (show R=false by rw[J.o];unfold fewB;simp;omega);clear H e h45;go_wp2_with fail
    go_ret
    exact⟨by rw[m.o];rfl,A.o⟩
def jdH(l:vL):Prop:=∀ p∈l,p.1.size<=9223372036854775807/\p.2.size<=9223372036854775807
theorem jdP(a b:vB):jch a b=true↔Lt a.data.toList b.data.toList:=by
 unfold jch;rw[bL,bL]
abbrev Pair.k(p:Pair):vN:=p.1.data.toList
def look(m:vL)(k:vN):Option vB:=(m.find? (fun p=>decide (k=p.k))).map (·.2)
theorem jgp(k:vN):look [] k=none:=rfl
theorem jaN(q:Pair)(r:vL)(k:vN):look (q :: r) k=if k=q.k then some q.2 else look r k:=by
 unfold look
 by_cases h:k=q.k <;> simp[fU,h]
end
section
open Go Go.RowKit
attribute [local go_sem] Oper.semAt_some
theorem jmP{P:Program}{w:vW}{ops:Array Oper}{rest:List Oper}{o:Oper}{a:Act}{Q:Exit->Act->vW->Prop}{b:BinOp}{T T':TypeId}(x y:Operand)(ho:o.op=.binOp b T x y T')(hw:Region.wanted o (yielded ops a.tmps)=true)(vx vy v:vV)(hx:a.eval x=vx)(hy:a.eval y=vy)
  (hg:(eqGuard b T x y vx vy).run P w=.ok () w) (hr:(binOp b T vx vy).run P w=.ok v w) (h:wpList P ops Q rest (a.put o.dst v) w):wpList P ops Q (o :: rest) a w:=by
 unfold wpList;rw[if_pos hw];refine .inl (jcu (v:=v) (w':=w) ?_ h);simp only[execOp,ho,hx,hy,cA,hg,hr,Result.andThen,cR]
end
section
open Go Go.RowKit
attribute [local go_sem] Oper.semAt_some
theorem joy{x:vB}(h:x.size≠0):x.toList.isEmpty=false:=by
 rw[bL];cases e:x.data.toList with
 | nil=>exact absurd (show x.size=0 by show x.data.toList.length=0;rw[e];rfl) h
 | cons=>rfl
def Va4R(W:vW)(rs:vM)(sv iv:vV)(wr:vW):Prop:=∃ k:Nat,k<=16/\iv=.int .i64 k/\sv=.int .i64 ((jaw 0 (rs.take k)).length:Nat)/\Ext W wr
theorem jpL(rs:vM){k:Nat}{x:vB}(h:rs[k]?=some x):(jaw 0 (rs.take (k+1))).length=(jaw 0 (rs.take k)).length+(if x.size=0 then 0 else 1):=by
 have:=ji2 ⟨0,⟨#[]⟩,⟨#[]⟩,rs⟩ h
 rw[show jaw 0 (rs.take (k+1))=_ from this,bF];split <;> rfl
theorem Tryz.eql_empty(w:vW):(binOp .eql 110 jav.V (.agg #[.int .i64 0,.string ⟨#[]⟩,.string ⟨#[]⟩,.string ⟨#[]⟩,.string ⟨#[]⟩,.string ⟨#[]⟩,.string ⟨#[]⟩,.string ⟨#[]⟩,.string ⟨#[]⟩,.string ⟨#[]⟩,.string ⟨#[]⟩,.string ⟨#[]⟩,.string ⟨#[]⟩,.string ⟨#[]⟩,.string ⟨#[]⟩,.string ⟨#[]⟩,.string ⟨#[]⟩,.string ⟨#[]⟩,.string ⟨#[]⟩])).run Tryz.prog w=.ok (.bool true) w:=vY
section
variable {I:vB->jad->Prop} (HI:InlR I)
include HI
theorem jtf(w:vW)(n:jad)(h:jbI I n)(hr:n.refs.length=16):vR 109 #[n.V] w (.bool true):=by
 have HG:=Hd h;have b4:=Hd hr;have e0:n.cells[0]?=some (.int .i64 (n.kind:Int)):=rfl;have e1:n.cells[1]?=some (.string n.path):=rfl;have e2:n.cells[2]?=some (.string n.value):=rfl;have eR:∀ (k:Nat) x,n.refs[k]?=some x->n.cells[3+k]?=some (.string x):=fun k x hx=>by
  show (Value.int .i64 (n.kind:Int) :: .string n.path :: .string n.value :: n.refs.map Value.string)[3+k]?=_;rw[show 3+k=k+1+1+1 by omega];simp[hx]
 have A:=Hd (bB e0 (bB e1 (bB e2 eR)));unfold jad.V
 obtain⟨C,hC⟩:=vE n.cells
 rw[<-hC]at A ⊢;have c6:=Hd hC;clear h hr e0 e1 e2 eR hC;go_enter Tryz.func109,Tryz.ntmps109;go_wp2_with fail
 have a7:=Blk.new w (.cells C.toArray 110)
 obtain⟨W0,a8⟩:=vE (w.alloc (.cells C.toArray 110))
 have Z:=Hd (show Ext w W0 by rw[a8];exact (ExtR w).alloc _);rw[<-a8]at a7 ⊢
 obtain⟨g,hg⟩:=vE w.heap.size
 rw[<-hg]at a7 ⊢;have b5:=Hd a7;clear a8 hg a7;go_loopw [3,4] (fun sv iv wr=>Va4R W0 n.refs sv iv wr) (fun _ iv _=>16 - (intOf iv).toNat)
 case atStart=>exact⟨0,by omega,rfl,rfl,ExtR W0⟩
 case round =>
  obtain⟨k,hk,rfl,rfl,X⟩:=hrel
  have HE:=Hd X;clear X
  by_cases hlt:k < 16
  ·have b1:(k:Int) < 16:=vO
   obtain⟨x,hx⟩:∃ x,n.refs[k]?=some x:=⟨_,bA (by have:=b4.o;omega)⟩
   have q1:wr.cell? ⟨g,3+k,none⟩=some (.string x):=(b5.o.keeps HE.o (fun h=>h)).cellL (A.o.2.2.2 k x hx);have H:=jpL n.refs hx;have J:(jaw 0 (n.refs.take k)).length<=16:=by
    have:∀ (l:vM) (i:Nat),(jaw i l).length<=l.length:=fun l=>by
     induction l with
     | nil=>intro i;exact bM _
     | cons y r ih=>intro i;unfold jaw;have:=ih (i+1);split <;> simp <;> omega
    have h2:=this (n.refs.take k) 0;have h3:(n.refs.take k).length<=16:=by rw[cL];omega
    omega
   obtain⟨c0,a1⟩:=vE (jaw 0 (n.refs.take k)).length
   rw[<-a1]at H J ⊢;clear hx a1
   by_cases hx0:x=⟨#[]⟩
   ·subst hx0
    rw[if_pos (show (⟨#[]⟩:vB).size=0 from rfl)]at H;have a9:=Hd H;clear H;go_wp2_with fail
    go_roundw
    case rel=>exact⟨k+1,by omega,by go_num,by rw[a9.o];rfl,HE.o⟩
    case measure=>exact vJ
   ·have K:x.size≠0:=fun e=>hx0 (jbE (bD e))
    have c7:=joy K;rw[if_neg K]at H;have a9:=Hd H;clear H hx0 K;go_wp2_with fail
    go_roundw
    case rel=>exact⟨k+1,by omega,by go_num,by rw[a9.o];go_num,HE.o⟩
    case measure=>exact vJ
  ·have b2:k=16:=vO
   subst b2;have a6:(jaw 0 (n.refs.take 16)).length=(jaw 0 n.refs).length:=by rw[bQ (by have:=b4.o;omega)]
   rw[a6];have b1:¬((16:Nat):Int) < 16:=vO
   have hB:=b5.o.keeps HE.o (fun h=>h);have HB:=Hd hB;have q0:=hB.cellL A.o.1;have q1:=hB.cellL A.o.2.1;have q2:=hB.cellL A.o.2.2.1;clear a6 hB hlt;have c8:=HG.o;cases c8 with
   | none =>
    have hC:C=jav.cells:=c6.o;subst hC;have c9:=jaq wr g jav rfl HB.o;have d0:=Tryz.eql_empty wr;go_wp2_with (first |(refine jaf 110 (.tmp 1) rfl rfl _ _ rfl c9 ?_) |(refine jmP (.tmp 23) (.tmp 24) rfl rfl _ _ (.bool true) rfl rfl vY d0 ?_))
    go_ret
    exact⟨rfl,Z.o.trans HE.o⟩
   | leaf p v h2 h3 h4 =>
    rw[show (jaw 0 (jam 16)).length=0 by rw[jdT];rfl]
    obtain⟨z1,z2,z3⟩:=jbQ h2
    have hp:=jo5 wr p (by have z2:p.size<=12:=z2;omega);rw[show (jaz p && decide (p.size<=12))=true by rw[show jaz p=true from z3,decide_eq_true (show p.size<=12 from z2)];rfl]at hp;have HP:=Hd hp;have c1:(1:Int)<=(v.size:Int):=vO
    have c2:(v.size:Int)<=80:=vO
    clear hp h2 z1 z2 z3;go_wp2_with fail
    refine HP.o.mono ?_;rintro e w5 ⟨rfl,rfl⟩;go_wp2_with fail
    go_ret
    exact⟨rfl,Z.o.trans HE.o⟩
   | ext p r h2 h3 h4 =>
    have b6:jaw 0 (r :: jam 15)=[(0,r)]:=by unfold jaw;rw[if_neg h3,jdT]
    rw[show (jaw 0 (r :: jam 15)).length=1 by rw[b6];rfl]
    obtain⟨z1,z2,z3⟩:=jbQ h2
    have hp:=fun w1=>jo5 w1 p (by have z2:p.size<=12:=z2;omega);rw[show (jaz p && decide (p.size<=12))=true by rw[show jaz p=true from z3,decide_eq_true (show p.size<=12 from z2)];rfl]at hp;have HP:=Hd hp;have d6:=joy (show p.size≠0 by have z1:1<=p.size:=z1;omega);have q3:wr.cell? ⟨g,3,none⟩=some (.string r):=HB.o.cellL (A.o.2.2.2 0 r rfl);have HQ:=Hd (bB q1 (bB q2 q3));have HM:=Hd (fun w1=>jjV HI w1 r (h4.imp id (fun ⟨m,h,_⟩=>⟨m,h⟩)));have d1:=Hd (show ∃ (m:jad) (ok:Bool),m.refs.length=16/\(ok=true->m.kind=3)/\∀ w1,vQ 143 #[.string r] w1 fun e w'=>e=.returned (.tuple #[m.V,.bool ok])/\Ext w1 w' from by
     rcases h4 with hh |⟨m,h5,h6⟩
     ·exact⟨jav,false,rfl,(fun e=>by cases e),fun w1=>ji3 w1 r (by have:=hh.size;omega)⟩
     ·exact⟨m,true,HI.refs r m h5,fun _=>h6,fun w1=>HI.inl r m h5 w1⟩)
    clear hp h2 z1 z2 z3 h3 h4 b6
    obtain⟨m,ok,hm,b7,b8⟩:=d1.o
    have d2:=Hd b7;have HL:=Hd (m.cells_len hm);have b9:=Hd b8;unfold jad.V at b9;clear hm b7 b8;go_wp2_with fail
    refine vH (b9.o wr) fun w5 a0=>?_;cases ok with
    | false =>
     go_wp2_with (first |(refine jaj Tryz.allocNode rfl rfl ?_;intro W3 a2 a3;refine jag (vs:=m.cells) rfl rfl rfl rfl a2 (by rw[HL.o];rfl) (by rw[HL.o];exact Tryz.szNode) m.one ?_;intro W4 a4 a5;have O:Ext w5 W4:=a3.trans' a5 (fun x hx e=>by have e:x=w5.heap.size:=e;omega);have q1:=jaa HQ.o.1 (a0.o.trans O)))
     have E:=Hd (a0.o.trans O);have c4:=Hd (show W4.cell? ⟨w5.heap.size,0,none⟩=some (.int .i64 (m.kind:Int))from a4.cellL vF);clear O a4 a5 a2 a3 q1;refine (HP.o W4).mono ?_;rintro e w6 ⟨rfl,rfl⟩;have q1:=jaa HQ.o.1 E.o;have q2:=jaa HQ.o.2.1 E.o;have q3:=jaa HQ.o.2.2 E.o;go_wp2_with fail
     refine vH (HM.o w6) fun w7 X=>?_;have b0:=Hd (E.o.trans X);clear q1 q2 q3;go_wp2_with fail
     go_ret
     exact⟨rfl,Z.o.trans (HE.o.trans b0.o)⟩
    | true =>
     go_wp2_with (first |(refine jaj Tryz.allocNode rfl rfl ?_;intro W3 a2 a3;refine jag (vs:=m.cells) rfl rfl rfl rfl a2 (by rw[HL.o];rfl) (by rw[HL.o];exact Tryz.szNode) m.one ?_;intro W4 a4 a5;have O:Ext w5 W4:=a3.trans' a5 (fun x hx e=>by have e:x=w5.heap.size:=e;omega);have q1:=jaa HQ.o.1 (a0.o.trans O)))
     have E:=Hd (a0.o.trans O);have c4:=Hd (show W4.cell? ⟨w5.heap.size,0,none⟩=some (.int .i64 (m.kind:Int))from a4.cellL vF);clear O a4 a5 a2 a3 q1;refine (HP.o W4).mono ?_;rintro e w6 ⟨rfl,rfl⟩;have q1:=jaa HQ.o.1 E.o;have q2:=jaa HQ.o.2.1 E.o;have q3:=jaa HQ.o.2.2 E.o;go_wp2_with fail
     refine vC (HM.o w6) fun w7 X=>?_;have b0:=Hd (E.o.trans X);have qk:=jaa c4.o X;rw[d2.o (by simp)]at qk;clear X q1 q2 q3;go_wp2_with fail
     go_ret
     exact⟨rfl,Z.o.trans (HE.o.trans b0.o)⟩
   | branch v rs h2 h3 h4 h5 =>
    have HM:=Hd (fun w1 r hr hz=>jjV HI w1 r (h4 r hr hz));have J:(jaw 0 rs).length<=16:=by
     have:∀ (l:vM) (i:Nat),(jaw i l).length<=l.length:=fun l=>by
      induction l with
      | nil=>intro i;exact bM _
      | cons y r ih=>intro i;unfold jaw;have:=ih (i+1);split <;> simp <;> omega
     have:=this rs 0
     omega
    obtain⟨c0,a1⟩:=vE (jaw 0 rs).length
    rw[<-a1]at h5 J ⊢;have H5:=Hd h5;have d3:=Hd J;have b3:Hid (rs.length=16):=h2;clear a1 h2 h4 h5 J q1 q2;go_wp2_with fail
    obtain⟨W2,rfl⟩:=vE wr
    go_loopw [7] (fun iv wr=>∃ k:Nat,k<=16/\iv=.int .i64 k/\Ext W2 wr) (fun iv _=>16 - (intOf iv).toNat)
    case atStart=>exact⟨0,by omega,rfl,ExtR W2⟩
    case round =>
     obtain⟨k,hk,rfl,X⟩:=hrel
     have Q:=Hd X;clear X
     by_cases hlt:k < 16
     ·have b1:(k:Int) < 16:=vO
      obtain⟨x,hx⟩:∃ x,rs[k]?=some x:=⟨_,bA (by have:=b3.o;omega)⟩
      have q1:wr.cell? ⟨g,3+k,none⟩=some (.string x):=jaa (HB.o.cellL (A.o.2.2.2 k x hx)) Q.o;have d4:=Hd (bE hx);clear hx
      by_cases hx0:x=⟨#[]⟩
      ·subst hx0
       go_wp2_with fail
       go_roundw
       case rel=>exact⟨k+1,by omega,by go_num,Q.o⟩
       case measure=>exact vJ
      ·have K:x.size≠0:=fun e=>hx0 (jbE (bD e))
       have c7:=joy K;have d5:=Hd (HM.o wr x d4.o K);clear hx0 K;go_wp2_with fail
       refine d5.o.mono ?_;rintro e w5 ⟨rfl,X⟩;have a0:=Hd (Q.o.trans X);clear X;go_wp2_with fail
       go_roundw
       case rel=>exact⟨k+1,by omega,by go_num,a0.o⟩
       case measure=>exact vJ
     ·have q1:wr.cell? ⟨g,1,none⟩=some (.string ⟨#[]⟩):=jaa (HB.o.cellL A.o.2.1) Q.o
      have q2:wr.cell? ⟨g,2,none⟩=some (.string v):=jaa (HB.o.cellL A.o.2.2.1) Q.o;have b1:¬(k:Int) < 16:=vO
      have c2:(v.size:Int)<=80:=vO
      have h5:=H5.o;have J:=d3.o
      by_cases hv0:v=⟨#[]⟩
      ·subst hv0
       have hz:min (⟨#[]⟩:vB).size 1=0:=rfl;rw[hz]at h5;have c3:(2:Int)<=(c0:Int):=vO
       clear h5 hz J;go_wp2_with fail
       go_ret
       exact⟨rfl,Z.o.trans (HE.o.trans Q.o)⟩
      ·have c5:v.size≠0:=fun e=>hv0 (jbE (bD e))
       have d7:=joy c5;have c3:(2:Int)<=(c0:Int)+1:=vO
       clear hv0 c5 h5;go_wp2_with fail
       go_ret
       exact⟨rfl,Z.o.trans (HE.o.trans Q.o)⟩
end
end
section
open Go Go.RowKit
attribute [local go_sem] Oper.semAt_some
theorem jsY{I:vB->jad->Prop}(HI:InlP I)(w:vW)(n:jad)(h:jbI I n):vR 110 #[n.V] w (.string (jaO n)):=by
 have A:=h.one HI;cases h with
 | none=>exact jmk w _ _ _ rfl
 | leaf p v h2 h3 h4 =>
  obtain⟨E,e,m⟩:=jbQ h2
  exact jmj w p v _ rfl e h4 m
 | ext p r h2 h3 h4 =>
  obtain⟨E,e,m⟩:=jbQ h2
  exact jnC w p _ r _ e (by have:=A.each r (bK);omega) m
 | branch v rs h2 h3 h4 h5 =>
  have o:=jdg _ A;rw[jdy _ h2]at o;exact jjl w v rs h2 h3 (by have o:(catB (ja5 rs v)).size<=1513:=o;omega)
section
variable {I:vB->jad->Prop} (HP:InlP I) (HI:InlR I)
include HP HI
theorem ji4(w:vW)(n:jad)(h:jbI I n):vR 79 #[n.V] w (.tuple #[.string (jaO n),.int .i64 0]):=by
 have E:=h.one HP;have m:=jaq (w.alloc (.cells n.cells.toArray 110)) _ n E.refs (Blk.new w _);have H:=Hd h;have K:=Hd E;clear h E;unfold jad.V at m ⊢;go_enter Tryz.func79,Tryz.ntmps79;go_wp2_with (refine jaf 110 (.tmp 1) rfl rfl _ _ rfl m ?_)
 refine vC (jtf HI _ n H.o K.o.refs) fun O A=>?_;have Q:=(Blk.new w (.cells n.cells.toArray 110)).keeps A (fun h=>h);have e:=jaq O _ n K.o.refs Q;have X:=Hd (((ExtR w).alloc _).trans A);unfold jad.V at e;clear m A Q;go_wp2_with (refine jaf 110 (.tmp 1) rfl rfl _ _ rfl e ?_)
 refine vH (jsY HP O n H.o) fun w3 A=>?_;have J:=Hd (X.o.trans A);clear e
 obtain⟨R,Z⟩:=vE (jaO n)
 rw[<-Z];go_wp2_with fail
 go_ret2
 exact⟨rfl,J.o⟩
end
end
section
open Go Go.RowKit
attribute [local go_sem] Oper.semAt_some
def jqJ(x:vB):Prop:=0 < x.size/\∀ (w:vW) (y:vB),(x++y).size<=1000000->vQ 182 #[.string (x++y)] w fun e w'=>∃ l b,e=.returned (.tuple #[.bool l,.string b,.string y,.int .i64 0])/\Ext w w'
def RIt(w:vW)(xs:vM)(sv ov:vV)(wr:vW):Prop:=∃ k:Nat,k<=xs.length/\sv=.string (catB (xs.drop k))/\ORow 9 1 w wr ov k ((xs.take k).map Value.string)
def strL(v:vV):Nat:=match v with | .string s=>s.size | _=>0
theorem jpH(x:vB)(xs:vM):catB (x :: xs)=x++catB xs:=by
 have:=jgd [x] xs
 rw[jgc]at this;exact this
theorem jh1(w:vW)(xs:vM)(hx:∀ x∈xs,jqJ x)(hn:xs.length<=1000)(hl:(catB xs).size<=100000):vQ 183 #[.string (catB xs)] w fun e w'=>∃ v,e=.returned (.tuple #[v,.int .i64 0])/\ORow 9 1 w w' v xs.length (xs.map Value.string):=by
 have HX:=Hd hx;have HL:=Hd hl
 obtain⟨s,hs⟩:=vE (catB xs)
 have HS:=Hd hs;rw[<-hs];clear hx hl hs;go_enter Tryz.func183,Tryz.ntmps183;go_wp2_with fail
 go_loopw [0,4] (fun sv ov wr=>RIt w xs sv ov wr) (fun sv _ _=>strL sv)
 case atStart=>exact⟨0,cD _,by rw[HS.o];rfl,ORow.nil _ _ (ExtR w)⟩
 case round =>
  obtain⟨k,hk,rfl,A⟩:=hrel
  have HR:=Hd A
  by_cases hlt:k < xs.length
  ·obtain⟨x,m⟩:=vE (xs[k])
   have hd:xs.drop k=x :: xs.drop (k+1):=by rw[m];exact fP hlt
   have ht:xs.take (k+1)=xs.take k++[x]:=by rw[bS,bA hlt,m];rfl
   obtain⟨K,O⟩:=HX.o x (by rw[m];exact cY hlt)
   have E:(catB (xs.drop k)).size<=100000:=by
    have:=jgd (xs.take k) (xs.drop k)
    rw[cQ]at this;have h1:=HL.o;rw[this,bY]at h1;omega
   rw[hd,jpH]at E ⊢
   obtain⟨y,hy⟩:=vE (catB (xs.drop (k+1)))
   rw[<-hy]at E ⊢;have HY:=Hd hy;have HT:=Hd ht;have Q:(x++y).size=x.size+y.size:=bY;have a2:=jkp x y;have X:=Hd (fun w1=>O w1 y vO)
   obtain⟨J,Z⟩:=vE (x++y)
   rw[<-Z]at E Q a2 X ⊢;have b3:J.toList.isEmpty=false:=jbe vO;have d1:(J.size:Int) - (y.size:Int)=(x.size:Int):=vO
   have d2:(x.size:Int)<=(J.size:Int):=vO
   have d3 : -9223372036854775808<=(J.size:Int) - (y.size:Int):=vO
   have d4:(J.size:Int) - (y.size:Int)<=9223372036854775807:=vO
   have a0:y.size < J.size:=vO
   have a3:=Hd a0
   obtain⟨ra,rc,rfl⟩:=A.sl
   have a4:k+1<=maxLen:=by unfold maxLen;omega
   have a5:(k+1) * 16<=140737488355328:=vO
   clear A m hd ht K O hy Z Q a0;go_wp2_with fail
   refine (X.o wr).mono ?_;rintro e w1 ⟨l,b,rfl,hE⟩;have a1:=Hd (HR.o.mono hE);have a7:=Hd (jaH (Blk.new w1 (.cells #[.string x] 9)));clear hE
   obtain⟨i0,a8,a9,b0,b1⟩:=info_parts Tryz.infoStr
   go_wp2_with (at_builtin;refine jbV _ rfl (.tmp 21) (.tmp 29) 30 rfl 9 i0 _ 1 16 Tryz.uStrs a8 a9 b0 b1 rfl vI (.slice ra k rc) k _ rfl (jbl a1.o.own ((ExtR w1).alloc _)) ⟨w1.heap.size,0,none⟩ 1 1 [.string x] rfl rfl a7.o (by simp[Value.oneCell']) a4 a5 ?_;intro v' w6 r1 r2 r3;obtain⟨a6,c6,rfl⟩:=jaR r1;have H:=Hd ((a1.o.mono ((ExtR w1).alloc (.cells #[.string x] 9))).step r1 r2 r3);clear r1 r2 r3)
   go_roundw
   case rel=>exact⟨k+1,by omega,by rw[HY.o],by rw[HT.o,bZ];exact H.o⟩
   case measure=>exact a3.o
  ·have b2:k=xs.length:=vO
   subst b2;rw[cE]at A
   obtain⟨ra,rc,rfl⟩:=A.sl
   have H:=Hd A;rw[gF,show catB []=⟨#[]⟩from rfl];clear A HR;go_wp2_with fail
   go_ret2
   exact⟨_,rfl,H.o⟩
theorem jux(a b c d:Bool)(h:jd6 a b=jd6 c d):a=c/\b=d:=by revert h;revert a b c d;decide
theorem jsU{p q:vB}{a b:Bool}(hp:jaz p=true)(hq:jaz q=true)(h:a≠b\/oddB q≠oddB p):putB q a≠putB p b:=fun e=>by
 have e:=congrArg jbf e;rw[jgz q a hq,jgz p b hp]at e;have e:(jce q a++q.data.toList)=(jce p b++p.data.toList):=congrArg (fun x:vB=>x.data.toList) e;unfold jce at e;rw[cZ,cZ]at e
 obtain⟨m,o⟩:=jux _ _ _ _ (List.cons.inj e).1
 rcases h with h | h
 ·exact h m
 ·exact h o
def lfN(leaf:Bool):Nat:=if leaf then 1 else 0
def RGi(w:vW)(n:Nat)(jv:vV)(wr:vW):Prop:=∃ j:Nat,j<=n/\jv=.int .i64 j/\Ext w wr
def RGo(w:vW)(jv:vV)(wr:vW):Prop:=(jv=.int .i64 1\/jv=.int .i64 2)/\Ext w wr
theorem jwX{a:vN}{p:vB}{n:Nat}(h:a.length=n):(⟨(a++p.data.toList).toArray⟩:vB).extract n (⟨(a++p.data.toList).toArray⟩:vB).size=p:=by
 subst h;apply ByteArray.ext;rw[cX];show (a++p.data.toList).toArray.extract a.length (a++p.data.toList).length=_;have e:p.data.toList.length=p.size:=rfl
 simp
 rw[bQ vO]
theorem jf7{a b:vB}(h:a≠b):(a.toList == b.toList)=false:=by
 rw[bL,bL];exact beq_eq_false_iff_ne.2 fun e=>h (ByteArray.ext (Array.ext' e))
theorem jvp(w:vW)(p:vB)(leaf:Bool)(hs:p.size<=10000)(hv:jaz p=true)(ho:oddB p=true):vR 184 #[.string (putB p leaf)] w (.tuple #[.string p,.bool leaf,.bool true]):=by
 have m:=jnF w (putB p leaf) (by have:=jbm p leaf;omega);have a2:jce p leaf=[jd6 leaf true]:=by unfold jce;rw[ho,if_pos rfl]
 rw[jgz p leaf hv,a2]at m
 obtain⟨J,E⟩:∃ J:vB,J=⟨([jd6 leaf true]++p.data.toList).toArray⟩:=⟨_,rfl⟩
 rw[<-E]at m;have hx:J.extract 1 J.size=p:=by rw[E];exact jwX rfl
 have a5:J.size=p.size+1:=by rw[E];show (jd6 leaf true :: p.data.toList).length=_;rw[bP];rfl
 have b1:(1:Int)<=(J.size:Int):=vO
 have Q:=Hd m;have X:=Hd (fun w1 l=>jmw w1 p l vO hv);have a3:=Hd (fun l (h:l≠leaf)=>jf7 (jsU (p:=p) (q:=p) (a:=l) (b:=leaf) hv hv (.inl h)));have Z:=Hd (show ((putB p leaf).toList ==(putB p leaf).toList)=true by simp)
 obtain⟨s,O⟩:=vE (putB p leaf)
 rw[<-O]at Q a3 ⊢;rw[show putB p leaf=s from O.symm]at Z;have a4:=Hd O;clear m E hv ho a2 O a5;go_enter Tryz.func184,Tryz.ntmps184;go_wp2_with fail
 refine Q.o.mono ?_;rintro e w1 ⟨rfl,H⟩;have a6:=Hd H;clear H Q;go_wp2_with fail
 go_loopw [6] (fun kv wr=>kv=.int .i64 1/\Ext w wr) (fun _ _=>0)
 case atStart=>exact⟨rfl,a6.o⟩
 case round =>
  obtain⟨rfl,H⟩:=hrel
  have HE:=Hd H;clear H;go_wp2_with fail
  go_loopw [7] (fun jv wr=>RGi w (lfN leaf) jv wr) (fun jv _=>2 - (intOf jv).toNat)
  case atStart=>exact⟨0,cD _,rfl,HE.o⟩
  case round =>
   obtain⟨j,hj,rfl,H⟩:=hrel
   have HE:=Hd H;have a0:j<=1:=by unfold lfN at hj;cases leaf <;> simp at hj <;> omega
   clear H
   by_cases hjl:j=lfN leaf
   ·cases leaf with
    | true =>
     have a1:j=1:=hjl;subst a1;clear hjl hj a0;have A:=X.o;have a7:=Z.o;go_wp2_with fail
     refine vH (A _ true) fun w2 H=>?_;have K:=Hd (HE.o.trans H);rw[<-a4.o];clear A;go_wp2_with fail
     exact bodyPost_ret (v:=.tuple #[.string p,.bool true,.bool true]) vY rfl ⟨rfl,K.o⟩
    | false =>
     have a1:j=0:=hjl;subst a1;clear hjl hj a0;have A:=X.o;have a7:=Z.o;go_wp2_with fail
     refine vH (A _ false) fun w2 H=>?_;have K:=Hd (HE.o.trans H);rw[<-a4.o];clear A;go_wp2_with fail
     exact bodyPost_ret (v:=.tuple #[.string p,.bool false,.bool true]) vY rfl ⟨rfl,K.o⟩
   ·have hl:leaf=true:=by cases leaf with | true=>rfl | false=>unfold lfN at hj hjl;simp at hj hjl;omega
    subst hl;have a8:j=0:=by have h1:¬ j=1:=hjl;omega
    subst a8;have a9:=a3.o false vI;have A:=X.o;clear hjl hj a0;go_wp2_with fail
    refine vH (A _ false) fun w2 H=>?_;have K:=Hd (HE.o.trans H);clear A;go_wp2_with fail
    go_roundw
    case rel=>exact⟨1,bM _,rfl,K.o⟩
    case measure=>simp[intOf]
theorem js7(w:vW)(p:vB)(leaf:Bool)(hs:p.size<=10000)(hv:jaz p=true)(ho:oddB p=false):vR 184 #[.string (putB p leaf)] w (.tuple #[.string p,.bool leaf,.bool true]):=by
 have H:=jnF w (putB p leaf) (by have:=jbm p leaf;omega);have a7:jce p leaf=[jd6 leaf false,0]:=by unfold jce;rw[ho,if_neg vI]
 rw[jgz p leaf hv,a7]at H
 obtain⟨A,K⟩:∃ A:vB,A=⟨([jd6 leaf false,0]++p.data.toList).toArray⟩:=⟨_,rfl⟩
 rw[<-K]at H;have hx:A.extract 2 A.size=p:=by rw[K];exact jwX rfl
 obtain⟨z,hz⟩:∃ z:vB,z=(⟨#[0]⟩:vB)++p:=⟨_,rfl⟩
 have a0:z.data.toList=0 :: p.data.toList:=by rw[hz,cW];simp
 have c1:A.extract 1 A.size=z:=by
  have:A=⟨([jd6 leaf false]++z.data.toList).toArray⟩:=by rw[K,a0];rfl
  rw[this];exact jwX rfl
 have a1:jaz z=true:=by rw[hz];exact jfH vI hv
 have a8:z.size=p.size+1:=by show z.data.toList.length=_;rw[a0,bP];rfl
 have a9:oddB z=true:=by
  unfold oddB at ho ⊢;rw[a8]
  have:¬ p.size % 2=1:=by simpa using ho
  simp;omega
 have b0:=Hd (fun w1 l=>jmw w1 z l vO a1);have a2:=Hd (fun l=>jf7 (jsU (p:=p) (q:=z) (a:=l) (b:=leaf) hv a1 (.inr (by rw[a9,ho];decide))));have b6:A.size=p.size+2:=by rw[K];show (jd6 leaf false :: 0 :: p.data.toList).length=_;rw[bP,bP];rfl
 have b1:(1:Int)<=(A.size:Int):=vO
 have b2:(2:Int)<=(A.size:Int):=vO
 have a3:=Hd H;have a4:=Hd (fun w1 l=>jmw w1 p l vO hv);have b3:=Hd (fun l (h:l≠leaf)=>jf7 (jsU (p:=p) (q:=p) (a:=l) (b:=leaf) hv hv (.inl h)));have a5:=Hd (show ((putB p leaf).toList ==(putB p leaf).toList)=true by simp)
 obtain⟨s,Z⟩:=vE (putB p leaf)
 rw[<-Z]at a3 b3 a2 ⊢;rw[show putB p leaf=s from Z.symm]at a5;have b4:=Hd Z;clear H K hv ho a7 Z b6 hz a0 a1 a8 a9;go_enter Tryz.func184,Tryz.ntmps184;go_wp2_with fail
 refine a3.o.mono ?_;rintro e w1 ⟨rfl,E⟩;have b7:=Hd E;clear E a3;go_wp2_with fail
 go_loopw [6] (fun kv wr=>RGo w kv wr) (fun kv _=>3 - (intOf kv).toNat)
 case atStart=>exact⟨.inl rfl,b7.o⟩
 case round =>
  obtain⟨b8,E⟩:=hrel
  have X:=Hd E;clear E;rcases b8 with rfl | rfl
  ·go_wp2_with fail
   go_loopw [7] (fun jv wr=>RGi w 2 jv wr) (fun jv _=>2 - (intOf jv).toNat)
   case atStart=>exact⟨0,cD _,rfl,X.o⟩
   case round =>
    obtain⟨j,O,rfl,E⟩:=hrel
    have X:=Hd E;clear E
    by_cases h0:j=0
    ·subst h0
     have b5:=a2.o false;have m:=b0.o;clear O;go_wp2_with fail
     refine vH (m _ false) fun w2 E=>?_;have J:=Hd (X.o.trans E);clear m;go_wp2_with fail
     go_roundw
     case rel=>exact⟨1,by omega,rfl,J.o⟩
     case measure=>simp[intOf]
    by_cases h1:j=1
    ·subst h1
     have b5:=a2.o true;have m:=b0.o;clear O h0;go_wp2_with fail
     refine vH (m _ true) fun w2 E=>?_;have J:=Hd (X.o.trans E);clear m;go_wp2_with fail
     go_roundw
     case rel=>exact⟨2,by omega,rfl,J.o⟩
     case measure=>simp[intOf]
    ·have Q:j=2:=vO
     subst Q;clear h0 h1 O;go_wp2_with fail
     go_roundw
     case rel=>exact⟨.inr rfl,X.o⟩
     case measure=>simp[intOf]
  go_wp2_with fail
  go_loopw [7] (fun jv wr=>RGi w (lfN leaf) jv wr) (fun jv _=>2 - (intOf jv).toNat)
  case atStart=>exact⟨0,cD _,rfl,X.o⟩
  case round =>
   obtain⟨j,O,rfl,E⟩:=hrel
   have X:=Hd E;have Q:j<=1:=by unfold lfN at O;cases leaf <;> simp at O <;> omega
   clear E
   by_cases hjl:j=lfN leaf
   ·cases leaf with
    | true =>
     have a6:j=1:=hjl;subst a6;clear hjl O Q;have m:=a4.o;have b9:=a5.o;go_wp2_with fail
     refine vH (m _ true) fun w2 E=>?_;have J:=Hd (X.o.trans E);rw[<-b4.o];clear m;go_wp2_with fail
     exact bodyPost_ret (v:=.tuple #[.string p,.bool true,.bool true]) vY rfl ⟨rfl,J.o⟩
    | false =>
     have a6:j=0:=hjl;subst a6;clear hjl O Q;have m:=a4.o;have b9:=a5.o;go_wp2_with fail
     refine vH (m _ false) fun w2 E=>?_;have J:=Hd (X.o.trans E);rw[<-b4.o];clear m;go_wp2_with fail
     exact bodyPost_ret (v:=.tuple #[.string p,.bool false,.bool true]) vY rfl ⟨rfl,J.o⟩
   ·have hl:leaf=true:=by cases leaf with | true=>rfl | false=>unfold lfN at O hjl;simp at O hjl;omega
    subst hl;have c0:j=0:=by have h1:¬ j=1:=hjl;omega
    subst c0;have b5:=b3.o false vI;have m:=a4.o;clear hjl O Q;go_wp2_with fail
    refine vH (m _ false) fun w2 E=>?_;have J:=Hd (X.o.trans E);clear m;go_wp2_with fail
    go_roundw
    case rel=>exact⟨1,bM _,rfl,J.o⟩
    case measure=>simp[intOf]
theorem jwc(w:vW)(p:vB)(leaf:Bool)(hs:p.size<=10000)(hv:jaz p=true):vR 184 #[.string (putB p leaf)] w (.tuple #[.string p,.bool leaf,.bool true]):=by
 cases ho:oddB p with
 | true=>exact jvp w p leaf hs hv ho
 | false=>exact js7 w p leaf hs hv ho
end
section
open Go Go.RowKit
attribute [local go_sem] Oper.semAt_some
theorem jlS(b:vU)(n:Nat):0 < (jb7 b n).size:=by
 unfold jb7;split
 ·exact iY
 ·rw[bY]
  exact bJ iY (Nat.le_add_right 1 _)
theorem jev(b:vB):0 < (jap b).size:=by
 unfold jap;split
 ·rename_i h;omega
 ·rw[bY];have:=jlS 128 b.size;omega
theorem jr7(xs:vM):0 < (jba xs).size:=by
 unfold jba;rw[bY];have:=jlS 192 (catB xs).size;omega
theorem jdD(b:vB)(hb:b.size<=100000)(h0:0 < (jap b).size):jqJ (jap b):=⟨h0,fun w y h=>(jf3 w b y hb h).mono fun e w' ⟨m,o⟩=>⟨_,_,m,o⟩⟩
theorem jql(xs:vM)(hb:(catB xs).size<=100000)(h0:0 < (jba xs).size):jqJ (jba xs):=⟨h0,fun w y h=>(ji5 w xs y hb h).mono fun e w' ⟨m,o⟩=>⟨_,_,m,o⟩⟩
theorem jiO{W0 W:vW}{v:vV}{n:Nat}{xs:vM}(h:ORow 9 1 W0 W v n (xs.map Value.string))(hn:0 < n):∃ g c,v=.slice (some ⟨g,0,none⟩) n c/\∀ (j:Nat) t,xs[j]?=some t->W.cell? ⟨g,j,none⟩=some (.string t):=by
 have A:=h.own
 obtain⟨K,⟨m,E⟩ |⟨g,o,H,m,E⟩⟩:=h.own
 ·obtain⟨a,c,e⟩:=h.sl
  rw[e]at m
  have:=(cT m).2.1
  omega
 ·subst m
  refine⟨g,o,rfl,fun j t J=>?_⟩
  have q:=A.cells (g:=g) rfl j (.string t) (by rw[bV,J];rfl)
  rwa [Addr.add_lit,cF]at q
theorem jhm(w:vW)(xs:vM)(hb:(catB xs).size<=100000)(hs:(jba xs).size<=1000000):vR 182 #[.string (jba xs)] w (.tuple #[.bool true,.string (catB xs),.string ⟨#[]⟩,.int .i64 0]):=by
 have e:jba xs++(⟨#[]⟩:vB)=jba xs:=iV;have h:=ji5 w xs ⟨#[]⟩ hb (by rw[e];exact hs)
 rwa [e]at h
section
variable {I:vB->jad->Prop} (HP:InlP I)
include HP
theorem jo1{r:vB}(h:MayP I r):r.size<=33:=by
 rcases h with h |⟨m,h⟩
 ·exact Nat.le_of_eq h.size
 ·have:=HP.small r m h;omega
theorem jo0{r:vB}(h:MayP I r):jqJ r:=by
 rcases h with⟨h,hs,rfl⟩ |⟨m,h⟩
 ·exact jdD h vO (jev h)
 ·have e:=HP.small r m h
  obtain⟨xs,rfl,_⟩:=HP.list r m h
  exact jql xs (by unfold jba at e;rw[bY]at e;omega) (jr7 xs)
end
section
variable {I:vB->jad->Prop} (HP:InlP I) (HI:InlR I)
include HP HI
theorem jnG(w:vW)(p v:vB)(h2:(⟨1,p,v,jam 16⟩:jad).pathOk 0=true)(h3:0 < v.size)(h4:v.size<=80):vR 165 #[.string (jaO ⟨1,p,v,jam 16⟩)] w (.tuple #[jad.V ⟨1,p,v,jam 16⟩,.bool true]):=by
 have hG:jbI I ⟨1,p,v,jam 16⟩:=.leaf p v h2 h3 h4
 obtain⟨z1,z2,z3⟩:=jbQ h2
 have c6:=jbm p true;have c7:=jaQ (putB p true);have e4:=jaQ v;have z2:p.size<=12:=z2;have H:=Hd (fun w1=>ji4 HP HI w1 _ hG);have a0:=Hd (fun w1=>jwc w1 p true vO z3)
 obtain⟨A,K⟩:=vE (putB p true)
 have c8:jaO ⟨1,p,v,jam 16⟩=jba [jap A,jap v]:=by rw[K];rfl
 rw[<-K]at c6 c7 a0;have hc:(catB [jap A,jap v]).size<=200:=by rw[ja6,ja6,jcD];omega
 have e5:=jcQ [jap A,jap v];rw[c8]at H ⊢;have c9:=Hd (fun w1=>jhm w1 [jap A,jap v] vO vO);have d0:=jev A;have d1:=jev v;have d2:=Hd (fun w1=>jh1 w1 [jap A,jap v] (fun x hx=>by
  simp only[bX,iS,or_false]at hx;rcases hx with rfl | rfl
  ·exact jdD A vO d0
  ·exact jdD v vO d1) (by simp) vO)
 have d3:=Hd (fun w1=>jh2 w1 A vO);have d4:=Hd (fun w1=>jh2 w1 v vO)
 obtain⟨s,hs⟩:=vE (jba [jap A,jap v])
 obtain⟨b,hb⟩:=vE (catB [jap A,jap v])
 obtain⟨t1,a7⟩:=vE (jap A)
 obtain⟨t2,a8⟩:=vE (jap v)
 have c0:¬(1000:Int) < (s.size:Int):=by rw[hs];omega
 rw[<-hs, <-hb]at c9;rw[<-hb, <-a7, <-a8]at d2;rw[<-a7]at d3;rw[<-a8]at d4;rw[<-hs]at H ⊢;clear hG h2 z1 z2 z3 c6 c7 e4 K c8 hc e5 d0 d1 hs hb a7 a8;unfold jad.V at H ⊢;go_enter Tryz.func165,Tryz.ntmps165;go_wp2_with (first |(refine jaj Tryz.allocNode rfl rfl ?_;have e6:=O.o;intro W2 d5 a9) |(refine jaj Tryz.allocNode rfl rfl ?_;intro W1 d6 a5;have O:=Hd d6) |(refine jag (vs:=jav.cells) rfl rfl rfl rfl d5 rfl Tryz.szNode jav.one ?_;intro W3 d7 b0))
 have b1:=Hd d7;have d8:=Hd ((O.o.keeps a9 (fun h=>h)).keeps b0 (by have:=O.o.lt;omega));have d9:Ext w W3:=(a5.trans a9).trans' b0 (fun x hx e=>by have e:x=W1.heap.size:=e;have:=a5.size;omega);have e7:=Hd d9
 obtain⟨gr,e0⟩:=vE w.heap.size
 obtain⟨m,e1⟩:=vE W1.heap.size
 have b2:=Hd (show gr≠m/\w.heap.size<=gr/\w.heap.size<=m from by have:=O.o.lt;have:=a5.size;omega);rw[<-e0]at d8 ⊢;rw[<-e1]at b1 ⊢;clear d6 a5 O e6 d5 a9 d7 b0 d9 e0 e1;refine vH (c9.o W3) fun w4 e2=>?_;go_wp2_with fail
 refine (d2.o w4).mono ?_;rintro e w5 ⟨lv,rfl,hL⟩
 obtain⟨g,c,rfl,E⟩:=jiO hL (Nat.zero_lt_succ _)
 rw[show [t1,t2].length=2 from rfl];have q1:=E 0 t1 rfl;have q2:=E 1 t2 rfl;have HQ:=Hd (bB q1 q2);have b3:=Hd (e2.o.trans hL.ext);have e9:w4.heap.size<=g:=hL.new g rfl;have b8:=b1.o.lt;have b9:=e2.o.size;have g1:¬ m=g:=vO
 have g2:¬ g=m:=vO
 clear E hL q2 e9 b8 b9;go_wp2_with fail
 refine vH (d3.o w5) fun w6 f3=>?_;clear q1;go_wp2_with fail
 refine vH (a0.o w6) fun w7 Z=>?_;have a6:=Hd (f3.o.trans Z);have Q:=Hd (b1.o.keeps (b3.o.trans a6.o) (fun h=>h));have f4:=Hd (d8.o.keeps (b3.o.trans a6.o) (fun h=>h));have k0:=Q.o.cellL (i:=0) (v:=.int .i64 0) rfl;have k1:=Q.o.cellL (i:=1) (v:=.string ⟨#[]⟩) rfl;have f0:w7.frozen? ⟨m,0,none⟩=false:=Q.o.frozen;have f1:w7.frozen? ⟨m,1,none⟩=false:=Q.o.frozen;have q2:=jaa HQ.o.2 a6.o;go_wp2_with fail
 obtain⟨w8,b4⟩:=vE ((w7.setCell ⟨m,1,none⟩ (.string p)).setCell ⟨m,0,none⟩ (.int .i64 1))
 have b5:=(Q.o.set_same (i:=1) (.string p)).set_same (i:=0) (.int .i64 1);have b6:jae (fun z=>z=m) w7 w8:=by rw[b4];exact ((jae.refl (fun z=>z=m) w7).setCell (p:=⟨m,1,none⟩) (.inl rfl) _).setCell (p:=⟨m,0,none⟩) (.inl rfl) _
 rw[<-b4]at b5 ⊢;have f5:=Hd (show Blk w8 m (.cells (jad.cells ⟨1,p,⟨#[]⟩,jam 16⟩).toArray 110)from b5);have f6:=Hd b6;have f7:=Hd (f4.o.keeps b6 b2.o.1);clear k0 k1 f0 f1 q2 b4 b5 b6;refine vC (d4.o w8) fun w9 Z=>?_;have e3:=Hd Z;have b7:=Hd (f5.o.keeps Z (fun h=>h));have k2:=b7.o.cellL (i:=2) (v:=.string ⟨#[]⟩) rfl;have f2:w9.frozen? ⟨m,2,none⟩=false:=b7.o.frozen;have X:Blk (w9.setCell ⟨m,2,none⟩ (.string v)) m (.cells (jad.cells ⟨1,p,v,jam 16⟩).toArray 110):=b7.o.set_same (i:=2) (.string v);have J:=jaq _ m ⟨1,p,v,jam 16⟩ rfl X;have a1:=Hd X;unfold jad.V at J;clear Z X;go_wp2_with (refine jaf 110 (.tmp 4) rfl rfl _ _ rfl J ?_)
 have a2:=Hd ((f7.o.keeps e3.o (fun h=>h)).keeps ((jae.refl (fun z=>z=m) w9).setCell (p:=⟨m,2,none⟩) (.inl rfl) (.string v)) b2.o.1);have a3:=Hd ((jae.refl (fun z=>z=m) w9).setCell (p:=⟨m,2,none⟩) (.inl rfl) (.string v))
 obtain⟨f8,a4⟩:=vE (w9.setCell ⟨m,2,none⟩ (.string v))
 rw[<-a4]at a2 a3 a1 ⊢;clear k2 f2 J a4;refine vC (H.o f8) fun g3 Z=>?_;have c1:=Hd Z;have c2:=a1.o.keeps Z (fun h=>h);have J:=jaq _ m ⟨1,p,v,jam 16⟩ rfl c2;have c3:=a2.o.keeps Z (fun h=>h);have g4:(s != s)=false:=by unfold bne;rw[show (s == s)=true by rw[jeS];exact decide_eq_true rfl];rfl
 unfold jad.V at J;clear Z;go_wp2_with (first |(refine jaf 110 (.tmp 4) rfl rfl _ _ rfl J ?_) |(refine jag (vs:=jad.cells ⟨1,p,v,jam 16⟩) rfl rfl rfl rfl c3 rfl Tryz.szNode (jad.one _) ?_;intro f9 c4 c5))
 refine bodyPost_ret (jaC rfl rfl rfl (jas f9 _ ⟨1,p,v,jam 16⟩ rfl c4)) rfl ?_;have hz:=b2.o;have e8:=((e7.o.trans b3.o).trans a6.o).trans' f6.o (fun x hx e=>by have e:x=m:=e;omega);have g0:=(e8.trans e3.o).trans' a3.o (fun x hx e=>by have e:x=m:=e;omega)
 exact⟨rfl,(g0.trans c1.o).trans' c5 (fun x hx e=>by have e:x=gr:=e;omega)⟩
theorem jqn(w:vW)(p r:vB)(h2:(⟨2,p,⟨#[]⟩,r :: jam 15⟩:jad).pathOk 1=true)(h3:r.size≠0)(h4:je1 r\/∃ m,I r m/\m.kind=3):vR 165 #[.string (jaO ⟨2,p,⟨#[]⟩,r :: jam 15⟩)] w (.tuple #[jad.V ⟨2,p,⟨#[]⟩,r :: jam 15⟩,.bool true]):=by
 have hG:jbI I ⟨2,p,⟨#[]⟩,r :: jam 15⟩:=.ext p r h2 h3 h4
 obtain⟨z1,z2,z3⟩:=jbQ h2
 have b9:=jbm p false;have c1:=jaQ (putB p false);have d7:=jo1 HP (h4.imp id (fun ⟨m,h,_⟩=>⟨m,h⟩):MayP I r);have c2:=jo0 HP (h4.imp id (fun ⟨m,h,_⟩=>⟨m,h⟩):MayP I r);have z2:p.size<=12:=z2;have K:=Hd (fun w1=>ji4 HP HI w1 _ hG);have a1:=Hd (fun w1=>jwc w1 p false vO z3)
 obtain⟨A,Q⟩:=vE (putB p false)
 have c3:jaO ⟨2,p,⟨#[]⟩,r :: jam 15⟩=jba [jap A,r]:=by rw[Q];rfl
 rw[<-Q]at b9 c1 a1;have hc:(catB [jap A,r]).size<=200:=by rw[ja6,ja6,jcD];omega
 have d8:=jcQ [jap A,r];rw[c3]at K ⊢;have c4:=Hd (fun w1=>jhm w1 [jap A,r] vO vO);have c5:=jev A;have c6:=Hd (fun w1=>jh1 w1 [jap A,r] (fun x hx=>by
  simp only[bX,iS,or_false]at hx;rcases hx with rfl | rfl
  ·exact jdD A vO c5
  ·exact c2) (by simp) vO)
 have c7:=Hd (fun w1=>jh2 w1 A vO)
 obtain⟨s,hs⟩:=vE (jba [jap A,r])
 obtain⟨b,hb⟩:=vE (catB [jap A,r])
 obtain⟨t1,a7⟩:=vE (jap A)
 have c0:¬(1000:Int) < (s.size:Int):=by rw[hs];omega
 rw[<-hs, <-hb]at c4;rw[<-hb, <-a7]at c6;rw[<-a7]at c7;rw[<-hs]at K ⊢;clear hG h2 z1 z2 z3 b9 c1 d7 c2 h3 h4 Q c3 hc d8 c5 hs hb a7;unfold jad.V at K ⊢;go_enter Tryz.func165,Tryz.ntmps165;go_wp2_with (first |(refine jaj Tryz.allocNode rfl rfl ?_;have d9:=X.o;intro W2 c8 a8) |(refine jaj Tryz.allocNode rfl rfl ?_;intro W1 c9 a5;have X:=Hd c9) |(refine jag (vs:=jav.cells) rfl rfl rfl rfl c8 rfl Tryz.szNode jav.one ?_;intro W3 d0 a9))
 have b0:=Hd d0;have d1:=Hd ((X.o.keeps a8 (fun h=>h)).keeps a9 (by have:=X.o.lt;omega));have d2:Ext w W3:=(a5.trans a8).trans' a9 (fun x hx e=>by have e:x=W1.heap.size:=e;have:=a5.size;omega);have e0:=Hd d2
 obtain⟨gr,d3⟩:=vE w.heap.size
 obtain⟨E,d4⟩:=vE W1.heap.size
 have d5:=Hd (show gr≠E/\w.heap.size<=gr/\w.heap.size<=E from by have:=X.o.lt;have:=a5.size;omega);rw[<-d3]at d1 ⊢;rw[<-d4]at b0 ⊢;clear c9 a5 X d9 c8 a8 d0 a9 d2 d3 d4;refine vH (c4.o W3) fun w4 d6=>?_;go_wp2_with fail
 refine (c6.o w4).mono ?_;rintro e w5 ⟨lv,rfl,hL⟩
 obtain⟨g,c,rfl,H⟩:=jiO hL (Nat.zero_lt_succ _)
 rw[show [t1,r].length=2 from rfl];have q1:=H 0 t1 rfl;have q2:=H 1 r rfl;have HQ:=Hd (bB q1 q2);have b1:=Hd (d6.o.trans hL.ext);have e1:w4.heap.size<=g:=hL.new g rfl;have b2:=b0.o.lt;have b3:=d6.o.size;have e7:¬ E=g:=vO
 have e8:¬ g=E:=vO
 clear H hL q2 e1 b2 b3;go_wp2_with fail
 refine vH (c7.o w5) fun w6 e2=>?_;clear q1;go_wp2_with fail
 refine vH (a1.o w6) fun w7 hE=>?_;have a6:=Hd (e2.o.trans hE);have J:=Hd (b0.o.keeps (b1.o.trans a6.o) (fun h=>h));have e3:=Hd (d1.o.keeps (b1.o.trans a6.o) (fun h=>h));have k0:=J.o.cellL (i:=0) (v:=.int .i64 0) rfl;have k1:=J.o.cellL (i:=1) (v:=.string ⟨#[]⟩) rfl;have k3:=J.o.cellL (i:=3) (v:=.string ⟨#[]⟩) rfl;have f0:w7.frozen? ⟨E,0,none⟩=false:=J.o.frozen;have f1:w7.frozen? ⟨E,1,none⟩=false:=J.o.frozen;have f3:w7.frozen? ⟨E,3,none⟩=false:=J.o.frozen;have q2:=jaa HQ.o.2 a6.o;have Z:Blk (((w7.setCell ⟨E,1,none⟩ (.string p)).setCell ⟨E,0,none⟩ (.int .i64 2)).setCell ⟨E,3,none⟩ (.string r)) E (.cells (jad.cells ⟨2,p,⟨#[]⟩,r :: jam 15⟩).toArray 110):=((J.o.set_same (i:=1) (.string p)).set_same (i:=0) (.int .i64 2)).set_same (i:=3) (.string r);have O:=jaq _ E ⟨2,p,⟨#[]⟩,r :: jam 15⟩ rfl Z;have a2:=Hd Z;unfold jad.V at O;clear Z;go_wp2_with (refine jaf 110 (.tmp 4) rfl rfl _ _ rfl O ?_)
 have a0:=Hd ((((jae.refl (fun z=>z=E) w7).setCell (p:=⟨E,1,none⟩) (.inl rfl) (.string p)).setCell (p:=⟨E,0,none⟩) (.inl rfl) (.int .i64 2)).setCell (p:=⟨E,3,none⟩) (.inl rfl) (.string r));have a3:=Hd (e3.o.keeps a0.o d5.o.1)
 obtain⟨e4,a4⟩:=vE (((w7.setCell ⟨E,1,none⟩ (.string p)).setCell ⟨E,0,none⟩ (.int .i64 2)).setCell ⟨E,3,none⟩ (.string r))
 rw[<-a4]at a3 a0 a2 ⊢;clear k0 k1 k3 f0 f1 f3 q2 O a4;refine vC (K.o e4) fun e9 hE=>?_;have b4:=Hd hE;have b5:=a2.o.keeps hE (fun h=>h);have O:=jaq _ E ⟨2,p,⟨#[]⟩,r :: jam 15⟩ rfl b5;have b6:=a3.o.keeps hE (fun h=>h);have f2:(s != s)=false:=by unfold bne;rw[show (s == s)=true by rw[jeS];exact decide_eq_true rfl];rfl
 unfold jad.V at O;clear hE;go_wp2_with (first |(refine jaf 110 (.tmp 4) rfl rfl _ _ rfl O ?_) |(refine jag (vs:=jad.cells ⟨2,p,⟨#[]⟩,r :: jam 15⟩) rfl rfl rfl rfl b6 rfl Tryz.szNode (jad.one _) ?_;intro e5 b7 b8))
 refine bodyPost_ret (jaC rfl rfl rfl (jas e5 _ ⟨2,p,⟨#[]⟩,r :: jam 15⟩ rfl b7)) rfl ?_;have hz:=d5.o;have e6:=((e0.o.trans b1.o).trans a6.o).trans' a0.o (fun x hx e=>by have e:x=E:=e;omega)
 exact⟨rfl,(e6.trans b4.o).trans' b8 (fun x hx e=>by have e:x=gr:=e;omega)⟩
end
end
section
open Go Go.RowKit
attribute [local go_sem] Oper.semAt_some
theorem Tryz.enterText4(args:Array vV)(w:vW):(callFunc 146 args).run Tryz.prog w=.ok (.enter 146 args) w:=vY
section
variable {I:vB->jad->Prop} (HP:InlP I) (HI:InlR I)
include HP HI
theorem jnH(w:vW):vR 165 #[.string (jaO jav)] w (.tuple #[jav.V,.bool true]):=by
 have m:=Hd (fun w1=>ji4 HP HI w1 _ (jbI.none (I:=I)));have h0:jap ⟨#[]⟩++(⟨#[]⟩:vB)=jap ⟨#[]⟩:=iV;have K:=fun w1=>jf3 w1 ⟨#[]⟩ ⟨#[]⟩ vI (by rw[h0];decide);rw[h0]at K;have Z:=Hd K;have a7:=Hd (fun w1=>jh1 w1 [] (fun x hx=>by cases hx) (by simp) vI);rw[show catB []=(⟨#[]⟩:vB)from rfl]at a7;rw[show jaO jav=jap ⟨#[]⟩from rfl]at m ⊢;have c0:¬(1000:Int) < ((jap ⟨#[]⟩).size:Int):=by decide
 obtain⟨s,hs⟩:=vE (jap ⟨#[]⟩)
 rw[<-hs]at m Z c0 ⊢;clear h0 K hs;unfold jad.V at m ⊢;go_enter Tryz.func165,Tryz.ntmps165;go_wp2_with (first |(refine jaj Tryz.allocNode rfl rfl ?_;have b7:=E.o;intro W2 a8 O) |(refine jaj Tryz.allocNode rfl rfl ?_;intro W1 a9 J;have E:=Hd a9) |(refine jag (vs:=jav.cells) rfl rfl rfl rfl a8 rfl Tryz.szNode jav.one ?_;intro W3 b0 Q))
 have b1:=Hd b0;have b2:=Hd ((E.o.keeps O (fun h=>h)).keeps Q (by have:=E.o.lt;omega));have b3:Ext w W3:=(J.trans O).trans' Q (fun x hx e=>by have e:x=W1.heap.size:=e;have:=J.size;omega);have b8:=Hd b3
 obtain⟨gr,b4⟩:=vE w.heap.size
 obtain⟨gn,b5⟩:=vE W1.heap.size
 have b9:=Hd (show gr≠gn/\w.heap.size<=gr/\w.heap.size<=gn from by have:=E.o.lt;have:=J.size;omega);rw[<-b4]at b2 ⊢;rw[<-b5]at b1 ⊢;clear a9 J E b7 a8 O b0 Q b3 b4 b5;refine vH (Z.o W3) fun w4 c1=>?_;go_wp2_with fail
 refine (a7.o w4).mono ?_;rintro e w5 ⟨lv,rfl,hL⟩;have X:=Hd (c1.o.trans hL.ext)
 obtain⟨la,lc,b6⟩:=hL.sl
 rw[show (List.length ([]:vM))=0 from rfl]at b6;subst b6;have H:=b1.o.keeps X.o (fun h=>h);have A:=jaq _ gn jav rfl H;have a0:=Hd H;have a1:=Hd (b2.o.keeps X.o (fun h=>h));unfold jad.V at A;clear hL H;go_wp2_with (refine jaf 110 (.tmp 4) rfl rfl _ _ rfl A ?_)
 clear A;refine vC (m.o w5) fun c3 hE=>?_;have a2:=Hd hE;have a3:=a0.o.keeps hE (fun h=>h);have A:=jaq _ gn jav rfl a3;have a4:=a1.o.keeps hE (fun h=>h);have c4:(s != s)=false:=by unfold bne;rw[show (s == s)=true by rw[jeS];exact decide_eq_true rfl];rfl
 unfold jad.V at A;clear hE;go_wp2_with (first |(refine jaf 110 (.tmp 4) rfl rfl _ _ rfl A ?_) |(refine jag (vs:=jav.cells) rfl rfl rfl rfl a4 rfl Tryz.szNode (jad.one _) ?_;intro c2 a5 a6))
 refine bodyPost_ret (jaC rfl rfl rfl (jas c2 _ jav rfl a5)) rfl ?_;have hz:=b9.o
 exact⟨rfl,((b8.o.trans X.o).trans a2.o).trans' a6 (fun x hx e=>by have e:x=gr:=e;omega)⟩
end
def jd0(rs:vM)(k:Nat):vM:=rs.take k++jam (16 - k)
theorem jhl{rs:vM}(hr:rs.length=16){k:Nat}(hk:k<=16):(jd0 rs k).length=16:=by
 unfold jd0 jam;rw[bF,cL,List.length_replicate];omega
theorem jmp{rs:vM}(hr:rs.length=16):jd0 rs 16=rs:=by
 unfold jd0;rw[bQ vO];simp[jam]
theorem ji1{rs:vM}(hr:rs.length=16){k:Nat}{r:vB}(h:rs[k]?=some r):(jd0 rs k).set k r=jd0 rs (k+1):=by
 have m:=(bO.1 h).1;have e:(rs.take k).length=k:=by rw[cL];omega
 unfold jd0 jam;rw[fD _ _ vO,e,iU,show 16 - k=(16 - (k+1))+1 by omega,fC,dJ,bS,h]
 simp
theorem jmq{rs:vM}(hr:rs.length=16){k:Nat}(h:rs[k]?=some ⟨#[]⟩):jd0 rs (k+1)=jd0 rs k:=by
 rw[<-ji1 hr h];have o:=(bO.1 h).1;have m:(rs.take k).length=k:=by rw[cL];omega
 apply List.ext_getElem?;intro j;rw[List.getElem?_set];split
 ·rename_i e
  subst e;rw[if_pos (by rw[jhl hr vO];omega)];unfold jd0 jam;rw[cV vO,m,iU,List.getElem?_replicate,if_pos vO]
 ·rfl
theorem jlz(rs:vM)(v x:vB)(k:Nat):(jad.cells ⟨3,⟨#[]⟩,v,rs⟩).toArray.setIfInBounds (3+k) (.string x)=(jad.cells ⟨3,⟨#[]⟩,v,rs.set k x⟩).toArray:=by
 unfold jad.cells;rw[show 3+k=k+1+1+1 by omega];simp only[gA,dB,gU]
theorem ju3{I:vB->jad->Prop}(HP:InlP I){r:vB}(h:MayP I r):r≠jap ⟨#[]⟩:=fun e=>by
 have A:r.size=1:=by rw[e];rfl
 rcases h with h |⟨m,h⟩
 ·have:=h.size;omega
 ·obtain⟨xs,rfl,_⟩:=HP.list r m h
  have o:=congrArg (fun z:vB=>z.data.toList.head?) e;unfold jba jb7 at A o
  by_cases hn:(catB xs).size<=55
  ·rw[if_pos hn]at A o
   rw[bY]at A;have E:(catB xs).size=0:=by
    have:(⟨#[192+UInt8.ofNat (catB xs).size]⟩:vB).size=1:=rfl
    omega
   rw[E]at o;simp at o;revert o;decide
  ·rw[bY]at A;omega
section
variable {I:vB->jad->Prop} (HP:InlP I) (HI:InlR I)
include HP HI
def Rd4R(W:vW)(gn gr:Nat)(rs:vM)(iv:vV)(wr:vW):Prop:=∃ k:Nat,k<=16/\iv=.int .i64 k/\Blk wr gn (.cells (jad.cells ⟨3,⟨#[]⟩,⟨#[]⟩,jd0 rs k⟩).toArray 110)/\jae (fun z=>z=gn) W wr
theorem jkW(w:vW)(v:vB)(rs:vM)(h2:rs.length=16)(h3:v.size<=80)(h4:∀ r∈rs,r.size≠0->MayP I r)(h5:2<=min v.size 1+(jaw 0 rs).length):vR 165 #[.string (jaO ⟨3,⟨#[]⟩,v,rs⟩)] w (.tuple #[jad.V ⟨3,⟨#[]⟩,v,rs⟩,.bool true]):=by
 have hG:jbI I ⟨3,⟨#[]⟩,v,rs⟩:=.branch v rs h2 h3 h4 h5;have H:=Hd (fun w1=>ji4 HP HI w1 _ hG);have g3:=jaQ v;have b5:∀ x∈rs.map itB,x.size<=33/\jqJ x:=fun x A=>by
  obtain⟨r,hr,rfl⟩:=bI.1 A
  unfold itB
  by_cases Q:r.size=0
  ·rw[if_pos Q];exact⟨by decide,jdD ⟨#[]⟩ vI (jev _)⟩
  ·rw[if_neg Q];exact⟨jo1 HP (h4 r hr Q),jo0 HP (h4 r hr Q)⟩
 have K:ja5 rs v=rs.map itB++[jap v]:=rfl;have hc:(catB (ja5 rs v)).size<=700:=by
  have:∀ L:vM,(∀ x∈L,x.size<=33)->(catB L).size<=33 * L.length:=fun L=>by
   induction L with
   | nil=>intro _;exact bM _
   | cons y l ih =>
    intro h;rw[ja6,bP]
    have:=ih (fun x A=>h x (bH _ A))
    have:=h y bK
    omega
  have h6:=this (rs.map itB) (fun x A=>(b5 x A).1);rw[bU,h2]at h6;rw[K,jgd,bY,jdX];omega
 have d7:=jcQ (ja5 rs v);rw[jiN v rs h2]at H ⊢;have b6:=Hd (fun w1=>jhm w1 (ja5 rs v) vO vO);have d8:(ja5 rs v).length=17:=by rw[K,bF,bU,h2];rfl
 have a9:=Hd (fun w1=>jh1 w1 (ja5 rs v) (fun x A=>by
  rw[K]at A;rcases bW.1 A with A | A
  ·exact (b5 x A).2
  ·rw[cG.1 A];exact jdD v vO (jev v)) vO vO)
 rw[d8]at a9;have d9:=Hd (fun w1=>jd8 w1 ⟨#[]⟩ vI);have e0:=Hd (fun w1=>jh2 w1 v vO);have Z:=Hd (show (ja5 rs v)[16]?=some (jap v) by rw[K,cV (by rw[bU];omega),bU,h2];rfl);have e1:=Hd (show ∀ k r,rs[k]?=some r->(ja5 rs v)[k]?=some (itB r)from fun k r hk=>by
  have:=(bO.1 hk).1
  rw[K,cP (by rw[bU];exact this),bV,hk];rfl)
 have e2:=Hd (show ∀ r∈rs,r.size≠0->r≠jap ⟨#[]⟩from fun r hr Q=>ju3 HP (h4 r hr Q));have E:=Hd h2
 obtain⟨X,hX⟩:=vE (ja5 rs v)
 rw[<-hX]at H b6 a9 Z e1 d7 ⊢
 obtain⟨s,hs⟩:=vE (jba X)
 obtain⟨b,hb⟩:=vE (catB X)
 obtain⟨t2,e3⟩:=vE (jap v)
 obtain⟨t0,b7⟩:=vE (jap ⟨#[]⟩)
 have c0:¬(1000:Int) < (s.size:Int):=by rw[hs];rw[<-hX]at hc;omega
 rw[<-hs, <-hb]at b6;rw[<-hb]at a9;rw[<-e3]at e0 Z;rw[<-b7]at d9 e2;rw[<-hs]at H ⊢;have c8:=Hd b7;clear hG h2 h3 h4 h5 g3 b5 K hc d7 d8 hX hs hb e3 b7;unfold jad.V at H ⊢;go_enter Tryz.func165,Tryz.ntmps165;go_wp2_with (first |(refine jaj Tryz.allocNode rfl rfl ?_;have g4:=a4.o;intro W2 e4 b8) |(refine jaj Tryz.allocNode rfl rfl ?_;intro W1 e5 b0;have a4:=Hd e5) |(refine jag (vs:=jav.cells) rfl rfl rfl rfl e4 rfl Tryz.szNode jav.one ?_;intro W3 e6 b9))
 have c1:=Hd e6;have e7:=Hd ((a4.o.keeps b8 (fun h=>h)).keeps b9 (by have:=a4.o.lt;omega));have e8:Ext w W3:=(b0.trans b8).trans' b9 (fun x A e=>by have e:x=W1.heap.size:=e;have:=b0.size;omega);have g5:=Hd e8
 obtain⟨gr,f1⟩:=vE w.heap.size
 obtain⟨m,f4⟩:=vE W1.heap.size
 have b3:=Hd (show gr≠m/\w.heap.size<=gr/\w.heap.size<=m from by have:=a4.o.lt;have:=b0.size;omega);rw[<-f1]at e7 ⊢;rw[<-f4]at c1 ⊢;clear e5 b0 a4 g4 e4 b8 e6 b9 e8 f1 f4;refine vH (b6.o W3) fun w4 f5=>?_;go_wp2_with fail
 refine (a9.o w4).mono ?_;rintro e w5 ⟨lv,rfl,hL⟩
 obtain⟨g,c,rfl,a0⟩:=jiO hL (Nat.zero_lt_succ _)
 have g6:w4.heap.size<=g:=hL.new g rfl;have c9:=c1.o.lt;have d0:=f5.o.size;have i4:¬ m=g:=vO
 have J:¬ g=m:=vO
 have a1:=Hd a0;have c2:=Hd (f5.o.trans hL.ext);have c3:=Hd (c1.o.keeps c2.o (fun h=>h));have g7:=Hd (e7.o.keeps c2.o (fun h=>h));have k0:=c3.o.cellL (i:=0) (v:=.int .i64 0) rfl;have f0:w5.frozen? ⟨m,0,none⟩=false:=c3.o.frozen;clear a0 hL g6 c9 d0;go_wp2_with fail
 have c4:Blk (w5.setCell ⟨m,0,none⟩ (.int .i64 3)) m (.cells (jad.cells ⟨3,⟨#[]⟩,⟨#[]⟩,jam 16⟩).toArray 110):=c3.o.set_same (i:=0) (.int .i64 3);have a5:=Hd ((jae.refl (fun z=>z=m) w5).setCell (p:=⟨m,0,none⟩) (.inl rfl) (.int .i64 3))
 obtain⟨w6,f6⟩:=vE (w5.setCell ⟨m,0,none⟩ (.int .i64 3))
 rw[<-f6]at c4 a5 ⊢;have g8:=Hd c4;clear k0 f0 f6 c4;go_loopw [14] (fun iv wr=>Rd4R w6 m gr rs iv wr) (fun iv _=>16 - (intOf iv).toNat)
 case atStart=>exact⟨0,by omega,rfl,g8.o,jae.refl _ _⟩
 case round =>
  obtain⟨k,hk,rfl,hN,hK⟩:=hrel
  have HN:=Hd hN;have HK:=Hd hK;clear hN hK
  by_cases hlt:k < 16
  ·have b1:(k:Int) < 16:=vO
   have b2:k < 17:=vO
   obtain⟨r,hr⟩:∃ r,rs[k]?=some r:=⟨_,bA (by have:=E.o;omega)⟩
   have q1:wr.cell? ⟨g,k,none⟩=some (.string (itB r)):=jan (jan (a1.o k _ (e1.o k r hr)) a5.o J) HK.o J;have Q1:=Hd q1;have HR:=Hd hr
   obtain⟨x,A⟩:=vE (itB r)
   have HX:=Hd A;rw[<-A]at q1 Q1;clear hr A;go_wp2_with fail
   refine jah [0,1,2,3,4,5] Ext ExtR ExtT vY vY vY ?_;iterate 3 refine vK ?_
   refine qKL ⟨g,k,none⟩ _ rfl (fun w1 h1=>jab Tryz.uStr rfl (jaa Q1.o ((jai wr).trans h1))) ?_;refine vS ?_;refine qKC _ 146 #[.string ⟨#[]⟩] (.string t0) rfl (fun w1=>jat Tryz.enterText4 vY) (fun w1 h1=>d9.o w1) ?_;refine vS ?_
   refine vK ?_
   refine qKE (fun w7 he=>?_);have c5:=Hd ((jai wr).trans he);have f7:=HN.o.keeps c5.o (fun h=>h);have b4:=Hd f7;have f8:=Hd (HK.o.trans (c5.o.mono (fun _ _ h=>h.elim)));clear he q1 f7
   obtain⟨q,hq⟩:=vE (!(x.toList == t0.toList))
   rw[<-hq]
   by_cases hxt:x=t0
   ·have f9:rs[k]?=some ⟨#[]⟩:=by
     have h1:=HR.o
     by_cases Q:r.size=0
     ·rw[h1];exact congrArg some (jbE (bD Q))
     ·exfalso
      refine e2.o r (bE h1) Q ?_;rw[<-hxt,HX.o];unfold itB;rw[if_neg Q]
    have g9:=Hd (jmq E.o f9);have c6:(t0 != t0)=false:=by unfold bne;rw[show (t0 == t0)=true by rw[jeS];exact decide_eq_true rfl];rfl
    obtain rfl:q=false:=by rw[hq,hxt,beq_self_eq_true];rfl
    clear f9 hxt hq c6;go_wp2_with fail
    go_roundw
    case rel=>exact⟨k+1,by omega,by go_num,by rw[g9.o];exact b4.o,f8.o⟩
    case measure=>exact vJ
   ·have g0:x=r:=by
     rw[HX.o];unfold itB;rw[if_neg (fun Q=>hxt (by rw[HX.o,c8.o];unfold itB;rw[if_pos Q]))]
    have h7:=Hd (show (jd0 rs k).set k x=jd0 rs (k+1) by rw[g0];exact ji1 E.o HR.o);have c6:(x != t0)=true:=by unfold bne;rw[show (x == t0)=false by rw[jeS];exact decide_eq_false hxt];rfl
    obtain rfl:q=true:=by rw[hq,beq_eq_false_iff_ne.2 (fun e=>hxt (jdE e))];rfl
    have q1:=jaa Q1.o c5.o
    obtain⟨old,k3⟩:∃ old,w7.cell? ⟨m,3+k,none⟩=some old:=⟨_,b4.o.cellL (bA (by rw[jad.cells_len _ (jhl E.o vO)];omega))⟩
    have f3:w7.frozen? ⟨m,3+k,none⟩=false:=b4.o.frozen;clear hxt g0 hq c6;go_wp2_with fail
    have g1:=b4.o.set_same (i:=3+k) (.string x);rw[jlz,h7.o]at g1
    exact⟨⟨k+1,by omega,by go_num,g1,f8.o.setCell (p:=⟨m,3+k,none⟩) (.inl rfl) (.string x)⟩,by simp[intOf];omega⟩
  ·have d1:k=16:=vO
   subst d1;have hN:=HN.o;rw[jmp E.o]at hN;have h8:=Hd hN;have q1:wr.cell? ⟨g,16,none⟩=some (.string t2):=jan (jan (a1.o 16 _ Z.o) a5.o J) HK.o J;have h9:=Hd ((g7.o.keeps a5.o b3.o.1).keeps HK.o b3.o.1);have i0:=Hd (a5.o.trans HK.o);have b1:¬((16:Nat):Int) < 16:=vO
   clear hN hlt;go_wp2_with fail
   refine vC (e0.o wr) fun w9 hE=>?_;have g2:=Hd hE;have c7:=Hd (h8.o.keeps hE (fun h=>h));have k2:=c7.o.cellL (i:=2) (v:=.string ⟨#[]⟩) rfl;have f2:w9.frozen? ⟨m,2,none⟩=false:=c7.o.frozen;have a2:Blk (w9.setCell ⟨m,2,none⟩ (.string v)) m (.cells (jad.cells ⟨3,⟨#[]⟩,v,rs⟩).toArray 110):=c7.o.set_same (i:=2) (.string v);have O:=jaq _ m ⟨3,⟨#[]⟩,v,rs⟩ E.o a2;have a6:=Hd a2;unfold jad.V at O;clear hE a2 q1;go_wp2_with (refine jaf 110 (.tmp 4) rfl rfl _ _ rfl O ?_)
   have a3:=Hd ((jae.refl (fun z=>z=m) w9).setCell (p:=⟨m,2,none⟩) (.inl rfl) (.string v));have a7:=Hd ((h9.o.keeps g2.o (fun h=>h)).keeps a3.o b3.o.1)
   obtain⟨i1,a8⟩:=vE (w9.setCell ⟨m,2,none⟩ (.string v))
   rw[<-a8]at a7 a3 a6 ⊢;clear k2 f2 O a8;refine vC (H.o i1) fun i5 hE=>?_;have d2:=Hd hE;have d3:=a6.o.keeps hE (fun h=>h);have O:=jaq _ m ⟨3,⟨#[]⟩,v,rs⟩ E.o d3;have d4:=a7.o.keeps hE (fun h=>h);have i6:(s != s)=false:=by unfold bne;rw[show (s == s)=true by rw[jeS];exact decide_eq_true rfl];rfl
   have HL:=Hd (jad.cells_len ⟨3,⟨#[]⟩,v,rs⟩ E.o);unfold jad.V at O;clear hE;go_wp2_with (first |(refine jaf 110 (.tmp 4) rfl rfl _ _ rfl O ?_) |(refine jag (vs:=jad.cells ⟨3,⟨#[]⟩,v,rs⟩) rfl rfl rfl rfl d4 (by rw[HL.o];rfl) (by rw[HL.o];exact Tryz.szNode) (jad.one _) ?_;intro i2 d5 d6))
   refine bodyPost_ret (jaC rfl rfl rfl (jas i2 _ ⟨3,⟨#[]⟩,v,rs⟩ E.o d5)) rfl ?_;have hz:=b3.o;have e9:=((g5.o.trans c2.o).trans' i0.o (fun x A e=>by have e:x=m:=e;omega)).trans g2.o;have i3:=e9.trans' a3.o (fun x A e=>by have e:x=m:=e;omega)
   exact⟨rfl,(i3.trans d2.o).trans' d6 (fun x A e=>by have e:x=gr:=e;omega)⟩
end
section
variable {I:vB->jad->Prop} (HP:InlP I) (HI:InlR I)
include HP HI
theorem jvt(w:vW)(n:jad)(h:jbI I n):vR 165 #[.string (jaO n)] w (.tuple #[n.V,.bool true]):=by
 cases h with
 | none=>exact jnH HP HI w
 | leaf p v h2 h3 h4=>exact jnG HP HI w p v h2 h3 h4
 | ext p r h2 h3 h4=>exact jqn HP HI w p r h2 h3 h4
 | branch v rs h2 h3 h4 h5=>exact jkW HP HI w v rs h2 h3 h4 h5
end
theorem inlR:∀ d,InlR (InlD d)
 | 0=>⟨fun _ _ h=>h.elim,fun _ _ h=>h.elim,fun _ _ h=>h.elim⟩
 | d+1=>⟨fun r m h=>h.2.2.1,fun r m h=>(h.1.one (inlP d)).refs,fun r m h w=>by
  obtain⟨e,rfl,o,A⟩:=h
  exact jmr w _ m (e.one (inlP d)).refs A o (fun w1=>jvt (inlP d) (inlR d) w1 m e)⟩
end
section
open Go Go.RowKit
theorem Tryz.infoEnt:(Tryz.prog.info? 59).map (fun i=>(i.zero,i.size,i.bytes))=some (some (.agg #[.string ⟨#[]⟩,.string ⟨#[]⟩]),2,32):=vY
theorem Tryz.uEnts:Tryz.prog.underlying 22=some (.slice 59):=vY
theorem Tryz.sEnts:jd3 Tryz.prog 22 59 2 32:=jd3.mk' Tryz.uEnts Tryz.infoEnt rfl vI
abbrev ERow(w0 w:vW)(v:vV)(n:Nat)(xs:vL):Prop:=ORow 59 2 w0 w v n (jef xs)
theorem ERow.rd{w0 w:vW}{v:vV}{n:Nat}{xs:vL}(h:ERow w0 w v n xs):RdP w v xs:=by
 have o:xs.length=n:=by have:=h.len;rw[jgU]at this;omega
 obtain⟨_,⟨rfl,O⟩ |⟨g,e,A,rfl,Q,E,H,X,Z⟩⟩:=h.own
 ·exact .inl ⟨none,0,rfl,bD vO⟩
 ·subst o
  refine .inr ⟨g,0,e,rfl,(dH.1 E).1,H,fun j x m=>?_⟩;have hj:=(bO.1 m).1
  obtain⟨J,K⟩:=jfu xs j x m
  exact⟨by rw[cF,h.own.cellAt (j * 2) vO,J],by rw[cF,h.own.cellAt (j * 2+1) vO,K]⟩
end
section
open Go Go.RowKit
attribute [local go_sem] Oper.semAt_some
theorem Tryz.enterPath1r(args:Array vV)(w:vW):(callFunc 76 args).run Tryz.prog w=.ok (.enter 76 args) w:=vY
def Pa5R(w:vW)(l:vL)(v iv:vV)(wr:vW):Prop:=∃ k:Nat,k<=l.length/\iv=.int .i64 k/\ERow w wr v k ((jaM l).take k)
theorem jo6(w:vW)(v:vV)(l:vL)(hv:RdP w v l)(hn:l.length<=1000000)(hs:∀ p∈l,p.1.size<=1000000) :
  vQ 40 #[v] w fun e w'=>∃ u,e=.returned u/\ERow w w' u l.length (jaM l):=by
 have HV:=Hd hv;have HS:=Hd hs
 obtain⟨a0,c0,rfl⟩:=hv.sl;clear hv hs;go_enter Tryz.func40,Tryz.ntmps40;go_wp2_with fail
 go_loopw [3,4] (fun v iv wr=>Pa5R w l v iv wr) (fun _ iv _=>l.length - (intOf iv).toNat)
 case atStart=>exact⟨0,by omega,rfl,ORow.nil _ _ (ExtR w)⟩
 case round =>
  obtain⟨k,hk,rfl,hR⟩:=hrel
  have E:=Hd hR
  obtain⟨la,lc,rfl⟩:=hR.sl;clear hR
  by_cases hlt:k < l.length
  ·have b1:(k:Int) < (l.length:Int):=vO
   obtain⟨⟨x,y⟩,Z⟩:∃ p,l[k]?=some p:=⟨_,bA hlt⟩
   rcases HV.o with⟨_,_,_,h0⟩ |⟨b,o,c1,hh,hb,hc,hcell⟩
   ·rw[h0]at hlt;cases hlt
   cases hh
   obtain⟨q1,q2⟩:=hcell k _ Z
   have Q1:=Hd (jaa q1 E.o.ext);have Q2:=Hd (jaa q2 E.o.ext);have a1:=Hd (HS.o _ (bE Z));have H:=Hd (show (jaM l).take (k+1)=(jaM l).take k++[(jbf x,y)] by
    unfold jaM;rw[bS,bV,Z];rfl)
   have NB:Hid (¬(Value.slice la k lc).ownBlock=some b):=(fun e=>by have:=E.o.new b e;omega);clear hcell Z q1 q2 hb hc;go_wp2_with fail
   refine jaJ [0,1,2,3,4,5,6,7,8,9,10,11,12,13,14,15] [13,14] Ext (jae (fun b=>(Value.slice la k lc).ownBlock=some b)) ExtR ExtT (fun x y z h k=>jae.trans h k) (fun x y h=>h.mono (fun _ _ h=>h.elim)) vY vY vY ?_;iterate 5 refine vD ?_
   refine qDL ⟨b,o+k * 2,none⟩ _ rfl (fun w1 h1=>jab Tryz.uStr rfl (jan (jaa Q1.o (jai wr)) h1 NB.o)) ?_;refine vS ?_;refine jiL _ 76 #[.string x] (.string (jbf x)) rfl vY rfl (fun w1=>jat Tryz.enterPath1r vY) (fun w1 h1=>jnF w1 x a1.o) ?_;refine vS ?_;iterate 4 refine vD ?_
   refine qDL ⟨b,o+k * 2+1,none⟩ _ rfl (fun w1 h1=>jab Tryz.uStr rfl (jan (jaa Q2.o (jai wr)) h1 NB.o)) ?_;refine vS ?_
   refine vD ?_
   refine qDH _ rfl (fun w2 m K J=>?_);have O:=Hd (E.o.mono ((jai wr).trans m));clear m
   obtain⟨z,hz⟩:=vE (jbf x)
   rw[<-hz]at H ⊢;clear hz;go_simp;refine J _ _ ((jae.refl _ w2).alloc _) ?_;clear J K;refine qDH _ rfl (fun w3 m K J=>?_);have Q:=Hd (O.o.mono (((ExtR w2).alloc _).trans m));have hB:∀ j u,([.string z,.string y]:List vV)[j]?=some u->w3.cell? ((⟨w2.heap.size,0,none⟩:Addr).add j)=some u:=fun j u hj=>jaa (jaH (Blk.new w2 (.cells [Value.string z,.string y].toArray 59)) j u hj) m;refine jd1 Tryz.sEnts Q.o (.tmp 11) (.tmp 24) rfl rfl hB (by intro u hu;simp at hu;rcases hu with rfl | rfl <;> rfl) rfl rfl (by unfold maxLen;omega) vO (fun v' w4 r1 r2 r3=>J _ _ r2 ?_);have X:ERow w w4 v' (k+1) ((jaM l).take (k+1)):=by
    unfold ERow;rw[H.o,jbd];exact r1
   have A:=Hd X;clear J K m r1 r2 r3 X hB O Q
   obtain⟨a4,c4,rfl⟩:=A.o.sl
   refine vS ?_
   refine vD ?_
   refine qDE (fun w5 m=>?_);have a2:=Hd (A.o.mono m);clear m A;go_wp2_with fail
   go_roundw
   case rel=>exact⟨k+1,by omega,by go_num,a2.o⟩
   case measure=>exact vJ
  ·have a3:k=l.length:=vO
   subst a3;have HF:=Hd (show ERow w wr (.slice la l.length lc) l.length (jaM l) by
    have h:=E.o
    rwa [bQ (by unfold jaM;rw[bU];exact bM _)]at h)
   go_wp2_with fail
   go_ret
   exact⟨_,rfl,HF.o⟩
def preB(p s:vB):Bool:=p.data.toList.isPrefixOf s.data.toList
theorem jph:∀ (p s:vN),p.isPrefixOf s=(decide (p.length<=s.length) && (s.take p.length == p))
 | [],s=>by simp
 | x :: p,[]=>by simp
 | x :: p,y :: s=>by
  have m:=jph p s;simp only[List.isPrefixOf,bP,dU,m,Nat.add_le_add_iff_right]
  by_cases h:x=y
  ·subst h;simp
  ·have:(y == x)=false:=by simpa using fun e=>h e.symm
   simp[h,this]
theorem jvH(s:vB)(n:Nat):(s.extract 0 n).toList=s.data.toList.take n:=by
 rw[bL,cX,fF,dQ];simp
theorem jkO(w:vW)(s p:vB)(hs:s.size<=1000000)(hp:p.size<=1000000):vQ 118 #[.string s,.string p] w fun e w'=>e=.returned (.bool (preB p s))/\w'=w:=by
 have m:=jph p.data.toList s.data.toList;have o:p.data.toList.length=p.size:=rfl;have A:s.data.toList.length=s.size:=rfl;rw[o,A, <-jvH]at m;have m:preB p s=_:=m
 by_cases hl:p.size<=s.size
 ·have E:(p.size:Int)<=(s.size:Int):=vO
  have H:¬(s.size:Int) < (p.size:Int):=vO
  have J:((p.size:Int)).toNat=p.size:=vO
  rw[decide_eq_true hl,Bool.true_and, <-bL]at m;rw[m];clear m o A;go_enter Tryz.func118,Tryz.ntmps118;go_wp2_with fail
  go_ret
  exact⟨rfl,rfl⟩
 ·have E:(s.size:Int) < (p.size:Int):=vO
  rw[decide_eq_false hl,Bool.false_and]at m;rw[m];clear m o A;go_enter Tryz.func118,Tryz.ntmps118;go_wp2_with fail
  go_ret
  exact⟨rfl,rfl⟩
theorem jcK(w:vW)(s p:vB)(hs:s.size<=1000000)(hp:p.size<=1000000):vQ 88 #[.string s,.string p] w fun e w'=>e=.returned (.bool (preB p s))/\w'=w:=by
 go_enter Tryz.func88,Tryz.ntmps88;go_wp2_with fail
 refine (jkO w s p hs hp).mono ?_;rintro e w1 ⟨rfl,rfl⟩;go_wp2_with fail
 go_ret
 exact⟨rfl,rfl⟩
theorem jwb{W:vW}{B:Nat}{T:TypeId}{sz:Nat}{v:vV}{n:Nat}{xs:List vV}(h:W.ownsRow B T sz v n xs){b:Nat}(hb:v.ownBlock=some b):b < W.heap.size:=by
 obtain⟨H,m |⟨g,o,A,m,J,E,K⟩⟩:=h
 ·rw[m.1]at hb;cases hb
 ·rw[m]at hb
  have e:some g=some b:=hb;obtain rfl:=bN e;exact (dH.1 E).1
def jfL(p x:vB):Bool:=decide (p.size<=x.size) && decide (x.extract 0 p.size=p)
def jc4(p:vB)(l:vL):vL:=(l.filter fun q=>jfL p q.1).map fun q=>(q.1.extract p.size q.1.size,q.2)
theorem jqA(p:vB){l:vL}{k:Nat}{q:Pair}(h:l[k]?=some q):jc4 p (l.take (k+1))=jc4 p (l.take k)++(if jfL p q.1 then [(q.1.extract p.size q.1.size,q.2)]else []):=by
 unfold jc4;rw[bS,h,gS,bZ,Option.toList_some,fZ];split <;> rfl
def Un5R(w:vW)(p:vB)(l:vL)(v iv:vV)(wr:vW):Prop:=∃ k:Nat,k<=l.length/\iv=.int .i64 k/\ERow w wr v (jc4 p (l.take k)).length (jc4 p (l.take k))
theorem jqp(p:vB)(l:vL):(jc4 p l).length<=l.length:=by
 unfold jc4;rw[bU];exact dE _ _
theorem jh3(w:vW)(v:vV)(l:vL)(p:vB)(hv:RdP w v l)(hn:l.length<=1000000)(hs:∀ p∈l,p.1.size<=1000000)(hp:p.size<=1000000) :
  vQ 78 #[v,.string p] w fun e w'=>∃ u,e=.returned u/\ERow w w' u (jc4 p l).length (jc4 p l):=by
 have HV:=Hd hv;have HS:=Hd hs
 obtain⟨a0,c0,rfl⟩:=hv.sl;clear hv hs;go_enter Tryz.func78,Tryz.ntmps78;go_wp2_with fail
 go_loopw [5,6] (fun v iv wr=>Un5R w p l v iv wr) (fun _ iv _=>l.length - (intOf iv).toNat)
 case atStart=>exact⟨0,by omega,rfl,ORow.nil _ _ (ExtR w)⟩
 case round =>
  obtain⟨k,hk,rfl,hR⟩:=hrel
  have A:=Hd hR
  obtain⟨m,hm⟩:=vE (jc4 p (l.take k))
  have a7:m.length<=k:=by
   rw[hm];have Q:=jqp p (l.take k);rw[cL]at Q;omega
  have HM:=Hd hm;rw[<-hm]at A
  obtain⟨la,lc,rfl⟩:=A.o.sl;clear hR hm
  by_cases hlt:k < l.length
  ·have b1:(k:Int) < (l.length:Int):=vO
   obtain⟨⟨x,y⟩,hq⟩:∃ p,l[k]?=some p:=⟨_,bA hlt⟩
   rcases HV.o with⟨_,_,_,h0⟩ |⟨b,o,c1,hh,hb,hc,hcell⟩
   ·rw[h0]at hlt;cases hlt
   cases hh
   obtain⟨q1,q2⟩:=hcell k _ hq
   have Q1:=Hd (jaa q1 A.o.ext);have Q2:=Hd (jaa q2 A.o.ext);have a8:=Hd (HS.o _ (bE hq));have X:=Hd (jqA p hq);rw[<-HM.o]at X;have NB:Hid (¬(Value.slice la m.length lc).ownBlock=some b):=(fun e=>by have:=A.o.new b e;omega);have q1:=Q1.o;clear hcell hq q2 hb hc;have Z:∀ b,jfL p x=b->jc4 p (l.take (k+1))=m++(if b then [(x.extract p.size x.size,y)]else []):=fun b e=>by rw[X.o,e]
   have H:=Hd Z;clear Z
   by_cases hsz:p.size<=x.size
   case neg =>
    have c1:¬(p.size:Int)<=(x.size:Int):=vO
    have O:=Hd (H.o false (by unfold jfL;rw[decide_eq_false hsz];rfl));go_wp2_with fail
    go_roundw
    case rel=>exact⟨k+1,by omega,by go_num,by rw[O.o];simpa using A.o⟩
    case measure=>exact vJ
   have c1:(p.size:Int)<=(x.size:Int):=vO
   by_cases hbg:x.extract 0 p.size=p
   case neg =>
    have hx:((x.extract 0 p.size).toList == p.toList)=false:=beq_eq_false_iff_ne.2 (fun e=>hbg (jdE e));have O:=Hd (H.o false (by unfold jfL;rw[decide_eq_false hbg,iM]));clear hbg;go_wp2_with fail
    go_roundw
    case rel=>exact⟨k+1,by omega,by go_num,by rw[O.o];simpa using A.o⟩
    case measure=>exact vJ
   have hx:((x.extract 0 p.size).toList == p.toList)=true:=by rw[hbg];exact beq_self_eq_true _
   have O:=Hd (show jc4 p (l.take (k+1))=m++[(x.extract p.size x.size,y)]from H.o true (by unfold jfL;rw[decide_eq_true hbg,decide_eq_true hsz];rfl));clear hbg;go_wp2_with fail
   refine jaJ [0,1,2,3,4,5,6,7,8,9,10,11,12,13,14,15,16,17] [15,16] Ext (jae (fun b=>(Value.slice la m.length lc).ownBlock=some b)) ExtR ExtT (fun x y z h k=>jae.trans h k) (fun x y h=>h.mono (fun _ _ h=>h.elim)) vY vY vY ?_;iterate 5 refine vD ?_
   refine qDL ⟨b,o+k * 2,none⟩ _ rfl (fun w1 Q=>jab Tryz.uStr rfl (jan (jaa Q1.o (jai wr)) Q NB.o)) ?_;refine vS ?_;iterate 7 refine vD ?_
   refine qDL ⟨b,o+k * 2+1,none⟩ _ rfl (fun w1 Q=>jab Tryz.uStr rfl (jan (jaa Q2.o (jai wr)) Q NB.o)) ?_;refine vS ?_
   refine vD ?_
   refine qDH _ rfl (fun w2 E K hK=>?_);have a1:=Hd (A.o.mono ((jai wr).trans E));clear E
   obtain⟨z,hz⟩:=vE (x.extract p.size x.size)
   rw[<-hz]at O ⊢;clear hz;go_simp;refine hK _ _ ((jae.refl _ w2).alloc _) ?_;clear hK K;refine qDH _ rfl (fun w3 E K hK=>?_);have a2:=Hd (a1.o.mono (((ExtR w2).alloc _).trans E));have hB:∀ j u,([.string z,.string y]:List vV)[j]?=some u->w3.cell? ((⟨w2.heap.size,0,none⟩:Addr).add j)=some u:=fun j u hj=>jaa (jaH (Blk.new w2 (.cells [Value.string z,.string y].toArray 59)) j u hj) E;refine jd1 Tryz.sEnts a2.o (.tmp 34) (.tmp 49) rfl rfl hB (by intro u hu;simp at hu;rcases hu with rfl | rfl <;> rfl) rfl rfl (by unfold maxLen;omega) vO (fun v' w4 r1 r2 r3=>hK _ _ r2 ?_);have a3:ERow w w4 v' (m.length+1) (m++[(z,y)]):=by
    unfold ERow;rw[jbd];exact r1
   have J:=Hd a3;clear hK K E r1 r2 r3 a3 hB a1 a2
   obtain⟨a4,c4,rfl⟩:=J.o.sl
   refine vS ?_
   refine vD ?_
   refine qDE (fun w5 E=>?_);have a5:=Hd (J.o.mono E);clear E J;go_wp2_with fail
   go_roundw
   case rel=>exact⟨k+1,by omega,by go_num,by rw[O.o,bF];exact a5.o⟩
   case measure=>exact vJ
  ·have a6:k=l.length:=vO
   subst a6;have HF:=Hd (show ERow w wr (.slice la m.length lc) (jc4 p l).length (jc4 p l) by
    have h:=A.o;have e:=HM.o;rw[bQ (bM _)]at e;rw[<-e];exact h)
   go_wp2_with fail
   go_ret
   exact⟨_,rfl,HF.o⟩
end
end Go.Proofs.YtegloohdmjadoaaGreatDoor
