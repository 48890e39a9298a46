/- Lemmas; each is under no condition but those that it states. -/
import Derived.Test.YtgppadbgofalpaaGreatDoorPa0
import Derived.Test.YtgppadbgofalpaaGreatDoorPa7
import Derived.Lib.LazyBuf
namespace Go.Proofs.YtgppadbgofalpaaGreatDoor
set_option linter.unusedSimpArgs false
set_option linter.unusedVariables false
set_option maxRecDepth 100000
set_option maxHeartbeats 16000000
open Go Go.RowKit
variable (l xs:vN)(z:Nat)(ws:List UInt32)(B:vN)(w:vW)(bh:Nat)(s:vB)(sz:UInt64){b n:Nat}{P:Program}{v:vV}{W w':vW}
theorem yZ(w:vW)(dT sT ty elem:TypeId)(b o dLen dCap:Nat)(t:vB)(m:Nat)(hm:m=Nat.min t.size dLen)
  (hu:P.underlying dT=some (.slice elem)) (hz:∀ w,(Go.sizeOf elem).run P w=.ok 1 w)
  (hc:∀ j,j < m->(w.cell? ⟨b,o+j,none⟩).isSome=true) (hf:∀ j,j < m->w.frozen? ⟨b,o+j,none⟩=false) :
  (Builtin.copy_ #[dT,sT] ty #[.slice (some ⟨b,o,none⟩) dLen dCap,t]).run P w=.ok (goInt m) (w.setCells b o (Ei (t.data.toList.take m))):=by
 have q:(Ei (t.data.toList.take m)).length=m:=by have:=Lib.size_eq t;have A:Nat.min t.size dLen=min t.size dLen:=rfl;simp[Ei];rw[A]at hm;omega
 have e:=run_storeCells_cells (P:=P) b o (Ei (t.data.toList.take m)) 0 w (by rw[q];simpa using hc) (by rw[q];simpa using hf) (by intro v H;obtain⟨x,_,rfl⟩:=bC.1 H;rfl)
 simp[Builtin.copy_,run_underlying hu,Builtin.lenOf,Builtin.firstCells,hz, <-hm];unfold Ei at e;rw[jJ]at e;rw[e];simp[Ei,jJ]
structure Lc where
 V:W8
 B:vN
 n:Nat
def Lc.Ok(s:Lc):Prop:=s.B.length=64/\s.n < 64
def Ys(s:Lc)(x:vU):Lc:=if s.n+1=64 then ⟨Yz s.V (s.B.set s.n x),s.B.set s.n x,0⟩else ⟨s.V,s.B.set s.n x,s.n+1⟩
def Ot(s:Lc)(l:vN):Lc:=l.foldl Ys s
theorem Lc.Ok.push{s:Lc}(h:s.Ok)(x:vU):(Ys s x).Ok:=by
 obtain⟨e,q⟩:=h
 unfold Ys Lc.Ok;split <;> simp[e] <;> omega
theorem Lc.Ok.all{s:Lc}(h:s.Ok)(l:vN):(Ot s l).Ok:=by
 unfold Ot;induction l generalizing s with
 | nil=>exact h
 | cons x r ih=>exact ih (h.push x)
theorem XZ(s:Lc)(l r:vN):Ot s (l++r)=Ot (Ot s l) r:=dX
def Iw(B:vN)(n:Nat)(xs:vN):vN:=B.take n++xs++B.drop (n+xs.length)
theorem jvO{B:vN}{xs:vN}(h:n+xs.length<=B.length):(Iw B n xs).length=B.length:=by simp[Iw];omega
theorem TM{B:vN}(x:vU)(xs:vN)(h:n+1+xs.length<=B.length):Iw (B.set n x) (n+1) xs=Iw B n (x :: xs):=by
 unfold Iw;have e:(B.set n x).take (n+1)=B.take n++[x]:=by rw[List.set_eq_take_append_cons_drop,if_pos vO,List.take_append,cF (by simp;omega)];simp[Nat.min_eq_left (show n<=B.length by omega)]
 have q:(B.set n x).drop (n+1+xs.length)=B.drop (n+(x :: xs).length):=by rw[List.drop_set_of_lt vO];congr 1;simp;omega
 rw[e,q];simp
theorem y_:∀ (s:Lc),s.Ok->s.n+xs.length < 64->Ot s xs=⟨s.V,Iw s.B s.n xs,s.n+xs.length⟩:=by
 induction xs with
 | nil=>intro s h _;simp[Ot,Iw]
 | cons x r ih =>(intro s h q;simp only[bS]at q;have e:Ys s x=⟨s.V,s.B.set s.n x,s.n+1⟩:=by unfold Ys;rw[if_neg vO]);show Ot (Ys s x) r=_;rw[ih _ (h.push x) (by rw[e];simp only;omega),e];simp only[bS];rw[TM x r (by rw[h.1];omega),show s.n+1+r.length=s.n+(r.length+1) by omega]
theorem x_:∀ (s:Lc),s.Ok->s.n+xs.length=64->Ot s xs=⟨Yz s.V (Iw s.B s.n xs),Iw s.B s.n xs,0⟩:=by
 induction xs with
 | nil=>intro s h q;exact absurd h.2 (by simp at q;omega)
 | cons x r ih =>intro s h q;simp only[bS]at q;show Ot (Ys s x) r=_;by_cases hr:r.length=0;{have A:r=[]:=bH hr;(subst A;have e:Ys s x=⟨Yz s.V (s.B.set s.n x),s.B.set s.n x,0⟩:=by unfold Ys;rw[if_pos (by simp at q;omega)]);rw[e];have:=TM (B:=s.B) (n:=s.n) x [] (by rw[h.1];simp at q ⊢;omega);rw[<-this];simp[Ot,Iw]};(have e:Ys s x=⟨s.V,s.B.set s.n x,s.n+1⟩:=by unfold Ys;rw[if_neg vO]);rw[ih _ (h.push x) (by rw[e];simp only;omega),e];simp only;rw[TM x r (by rw[h.1];omega)]
def Kz(w:vW)(b:Nat)(s:Lc)(sz:Int):Prop:=Ae w b (.cells (Jo s.V.words s.B (s.n:Int) sz).toArray 260)
theorem Zh(v:W8):v.words.length=8:=rfl
theorem Kz.held{w:vW}{s:Lc}{sz:Int}(h:Kz w b s sz)(hs:s.B.length=64):w.cell? ⟨b,72,none⟩=some (.int .i64 (s.n:Int)):=h.cellL (by
 unfold Jo;rw[cO (by simp[Zh,Ei,hs])];simp[Zh,Ei,hs])
theorem Kz.siz{w:vW}{s:Lc}{sz:Int}(h:Kz w b s sz)(hs:s.B.length=64):w.cell? ⟨b,73,none⟩=some (.int .u64 sz):=h.cellL (by
 unfold Jo;rw[cO (by simp[Zh,Ei,hs])];simp[Zh,Ei,hs])
theorem Kz.setHeld{w:vW}{s:Lc}{sz:Int}(h:Kz w b s sz)(hs:s.B.length=64)(n:Nat):Kz (w.setCell ⟨b,72,none⟩ (n:Int)) b ⟨s.V,s.B,n⟩ sz:=by
 have:=h.set_same (i:=72) (n:Int)
 unfold Kz;unfold Jo at this ⊢;rw[fT,dR _ _ (by simp[Zh,Ei,hs])]at this;simpa [Zh,Ei,hs]using this
theorem Kz.setSiz{w:vW}{s:Lc}{sz:Int}(h:Kz w b s sz)(hs:s.B.length=64)(z:Int):Kz (w.setCell ⟨b,73,none⟩ (.int .u64 z)) b s z:=by
 have:=h.set_same (i:=73) (.int .u64 z)
 unfold Kz;unfold Jo at this ⊢;rw[fT,dR _ _ (by simp[Zh,Ei,hs])]at this;simpa [Zh,Ei,hs]using this
theorem Kz.lay{w:vW}{s:Lc}{sz:Int}(h:Kz w b s sz)(hs:s.B.length=64)(xs:vN)(hx:s.n+xs.length<=64):Kz (w.setCells b (8+s.n) (Ei xs)) b ⟨s.V,Iw s.B s.n xs,s.n⟩ sz:=by
 have:=Ae.setCells (Ei xs) (8+s.n) w _ h (by simp[Jo,Zh,Ei,hs];omega)
 unfold Kz;have e:(Jo s.V.words s.B (s.n:Int) sz).take (8+s.n)++Ei xs++(Jo s.V.words s.B (s.n:Int) sz).drop (8+s.n+(Ei xs).length)=Jo s.V.words (Iw s.B s.n xs) (s.n:Int) sz:=by(unfold Jo Iw;have q:(s.V.words.map wv).length=8:=rfl;have A:(Ei s.B).length=64:=by simp[Ei,hs]);(have H:(Ei xs).length=xs.length:=by simp[Ei]);rw[bZ (s.V.words.map wv),List.take_append,List.drop_append,q,H];rw[cF (by rw[q];omega),fS (l:=s.V.words.map wv) (by rw[q];omega)];rw[show 8+s.n - 8=s.n by omega,show 8+s.n+xs.length - 8=s.n+xs.length by omega];rw[List.take_append_of_le_length (by rw[A];omega),List.drop_append_of_le_length (by rw[A];omega)];simp[Ei,jJ,List.map_drop]
 rw[e]at this;exact this
theorem jsc{a:Act}{w:vW}{p:Addr}{d:Option Tmp}{t ty:TypeId}{x:Operand}{pos:String}{af:Array Edge}{g:Option (Nat × Bool)}(h:(Instr.loadAt t p).run P w=.ok v w)(hx:a.eval x=.pointer (some p)):(execOp a.eval ⟨d,.load t x,ty,pos,af,g⟩).run P w=.ok (.value v) w:=by
 simp only[execOp,hx,bQ,h,Result.andThen,cU]
def uC(v:vV):Nat:=match v with | .string t=>t.size | _=>0
def yP(w:vW)(bh:Nat)(s:Lc)(sz:Int)(t:vB)(v:vV)(wr:vW):Prop:=∃ j:Nat,j<=t.size/\v=.string (t.extract j t.size)/\Kz wr bh (Ot s (t.data.toList.take j)) sz/\Ad (fun x=>x=bh) w wr
theorem juc(n:Nat):IntKind.u64.wrap ((sz.toNat:Int)+IntKind.u64.wrap (n:Int))=((sz+UInt64.ofNat n).toNat:Int):=by
 rw[UInt64.toNat_add,UInt64.toNat_ofNat'];show ((sz.toNat:Int)+(n:Int) % (18446744073709551616:Int)) % (18446744073709551616:Int)=_;simp only[Int.natCast_emod,Int.natCast_add];rfl
theorem Ua:Tryz.prog.underlying 84=some (.slice 5):=vY
theorem Wc:(Go.sizeOf 5).run Tryz.prog w=.ok 1 w:=vY
theorem Fg:Tryz.prog.underlying 3=some (.int .i64):=vY
theorem rK(s:Lc)(hs:s.Ok)(sz:UInt64)(t:vB)(hB:Kz w bh s (sz.toNat:Int))(hc:Ha w)(hbh:bh≠1):vQ 90 #[bh,t] w fun e w'=>e=.returned bh/\Kz w' bh (Ot s t.data.toList) ((sz+UInt64.ofNat t.size).toNat:Int)/\Ad (fun x=>x=bh) w w':=by
 have e6:=hB.siz hs.1;have e7:w.frozen? ⟨bh,73,none⟩=false:=hB.frozen;have HB:=Hd hB;have HC:=Hd hc;have HS:=Hd hs;clear hB hc hs;unfold vQ;go_in;go_wp2_with fail
 have hz:=juc sz t.size
 obtain⟨SZ,b8⟩:∃ z,z=IntKind.u64.wrap ((sz.toNat:Int)+IntKind.u64.wrap (t.size:Int)):=⟨_,rfl⟩
 rw[<-b8]at hz ⊢;have b2:=HB.o.setSiz HS.o.1 SZ;have a1:=(Ad.refl (fun x=>x=bh) w).setCell (p:=⟨bh,73,none⟩) (.inl rfl) (.int .u64 SZ)
 obtain⟨w1,b9⟩:=vE (w.setCell ⟨bh,73,none⟩ (.int .u64 SZ))
 rw[<-b9]at b2 a1 ⊢;have e8:=Hd b2;have c0:=Hd a1;have HZ:=Hd hz;have c2:=Hd (HC.o.keeps a1 (Ne.symm hbh));clear b2 a1 b9 hz b8 e6 e7 HB HC
 obtain⟨wt,c3⟩:∃ x,x=IntKind.u64.wrap (t.size:Int):=⟨_,rfl⟩
 rw[<-c3];clear c3;go_loopw [1] (fun v wr=>yP w1 bh s SZ t v wr) (fun v _=>uC v)
 case atStart=>exact⟨0,by omega,by rw[show t.extract 0 t.size=t by simp],e8.o,Ad.refl _ _⟩
 case round =>obtain⟨j,hj,rfl,hG,hK⟩:=hrel;have HK:=Hd hK;have e9:=Hd (c2.o.keeps hK (Ne.symm hbh));obtain⟨st,a2⟩:=vE (Ot s (t.data.toList.take j));(have c4:st.Ok:=by rw[a2];exact HS.o.all _);rw[<-a2]at hG;have HG:=Hd hG;have a3:=Hd a2;obtain⟨r,hr⟩:=vE (t.extract j t.size);(have H:r.size=t.size - j:=by rw[hr];simp[dI]);have HR:=Hd hr;rw[<-hr];clear hG a2 hK hr;by_cases hlt:j < t.size;{have f4:=Rq (s:=r) vO;obtain⟨Vs,Z,n⟩:=st;obtain⟨a4,hn⟩:=c4;simp only at a4 hn;obtain⟨m,hm⟩:=vE (Nat.min r.size (64 - n));have c5:m=min r.size (64 - n):=hm;have f5:0 < m:=vO;have f6:m<=r.size:=vO;have f7:n+m<=64:=vO;have a5:Hid (Lc.Ok ⟨Vs,Z,n⟩):=Hd ⟨a4,hn⟩;have c1:(n:Int)<=64:=vO;(have c7:=Hd H;have HM:=Hd hm;have f0:=Hd c5;have b3:=Hd a4;clear H hm c5 a4;go_wp2_with fail);refine Kr [0,1,2,3,4,5,8,6,7,9,10] [6,9] Af Aa Aq vY vY vY ?_;refine vP ?_;(refine qA _ bh rfl (fun w1=>by kernel_rfl) (vS ?_);iterate 2 refine vP ?_);(refine qA _ bh rfl (fun w1=>by kernel_rfl) (vS ?_);iterate 2 refine vP ?_);refine qH _ rfl (fun w2 he K hK=>?_);have X2:=(Ap wr).trans he;refine Ra (w':=w2) (jsc (Bq Fg rfl (Am (HG.o.held a5.o.1) X2)) vY) (hK _ _ ?_);clear hK K he;refine vS ?_;refine vP ?_;refine qH _ rfl (fun w3 he K hK=>?_);have X3:=X2.trans he;obtain⟨xs,a7⟩:∃ x,x=r.data.toList.take m:=⟨_,rfl⟩;(have c8:xs.length=m:=by rw[a7];have:=Lib.size_eq r;simp;omega);(have G1:=HG.o.keeps X3 kI;have K1:=HK.o.trans' X3 kZ;have c9:(Jo Vs.words Z (n:Int) SZ).length=74:=by simp[Jo,Zh,Ei,b3.o]);have a8:=yZ (P:=Tryz.prog) w3 84 9 3 5 bh (8+n) (64 - n) (64 - n) r m HM.o Ua Wc (by intro j hj;rw[Ae.cellL G1 (i:=8+n+j) (bB (by rw[c9];omega))];rfl) (by intro j hj;exact Ae.frozen G1);rw[<-a7]at a8;have G2:=Kz.lay G1 a5.o.1 xs (by simp only;omega);have K2:=K1.trans (Ad.oneSetCells bh (Ei xs) (8+n) w3);simp only at G2;obtain⟨w4,d0⟩:∃ x,x=w3.setCells bh (8+n) (Ei xs):=⟨_,rfl⟩;rw[<-d0]at a8 G2 K2;have d1:=Hd G2;have d2:=Hd K2;have d3:=Hd a7;have a9:=Hd c8;clear G1 K1 G2 K2 d0 he X2 X3 HG HK c9 a7 c8 e9;refine Ra (w':=w4) (eW a8 vY) (hK _ _ ?_);clear a8 hK K w3 w2;refine vS ?_;refine vP ?_;(refine qE (fun w5 he=>?_);have J:Hid (Kz w5 bh ⟨Vs,Iw Z n xs,n⟩ SZ):=Hd (d1.o.keeps he kI);have b4:=Hd (d2.o.trans' he kZ);clear he d1 d2;have q:Hid (Lc.Ok ⟨Vs,Iw Z n xs,n⟩):=Hd ⟨by simp only;rw[jvO (by rw[a9.o,b3.o];omega),b3.o],hn⟩;have b0:=J.o.held q.o.1;have d4:w5.frozen? ⟨bh,72,none⟩=false:=Ae.frozen J.o;simp only at b0;have d5:r.data.toList=t.data.toList.drop j:=by rw[HR.o,fG,fY];have:=Lib.size_eq t;simp only[fM];rw[cF (by simp)]);(have O:Ot s (t.data.toList.take (j+m))=Ot ⟨Vs,Z,n⟩ xs:=by rw[List.take_add,XZ, <-a3.o,d3.o,d5]);(have X:r.extract m r.size=t.extract (j+m) t.size:=by have H:=c7.o;rw[HR.o]at H ⊢;rw[H,ByteArray.extract_extract];congr 1 <;> omega);(have d6:(r.extract m r.size).size=r.size - m:=by simp[dI]);have d7:=Hd O;have d8:=Hd X;have d9:=Hd d6;clear d5 O X d6 HR a3 d3 HM f0;have e0:j+m<=t.size:=kL c7.o;by_cases hfull:n+m=64;{(have hq:((n:Int)+(m:Int) == 64)=true:=by simp;omega);(have A:=x_ xs ⟨Vs,Z,n⟩ a5.o (by simp only;rw[a9.o];exact hfull);simp only at A;have b5:=Hd A;have e1:=J.o.setHeld q.o.1 (n+m);have e2:=b4.o.setCell (p:=⟨bh,72,none⟩) (.inl rfl) ((n+m:Nat):Int);have b6:=Hd e1;have b1:=Hd e2;clear A e1 e2 J b4;go_wp2_with fail);rw[<-Int.natCast_add];obtain⟨w6,e3⟩:∃ x,x=w5.setCell ⟨bh,72,none⟩ ((n+m:Nat):Int):=⟨_,rfl⟩;(rw[<-e3]at b6 b1 ⊢;clear e3 b0 d4;refine (xJ w6 bh Vs (Iw Z n xs) _ _ q.o.1 b6.o (c2.o.keeps b1.o (Ne.symm hbh)) hbh).mono ?_;rintro e w7 ⟨rfl,e4,e5⟩;have b7:Hid (Kz w7 bh ⟨Yz Vs (Iw Z n xs),Iw Z n xs,n+m⟩ SZ):=Hd e4;have f1:=Hd (b1.o.trans e5);clear e4 e5 b6 b1;have b0:=b7.o.held q.o.1;have d4:w7.frozen? ⟨bh,72,none⟩=false:=Ae.frozen b7.o;simp only at b0;go_wp2_with fail);refine⟨⟨j+m,e0,by rw[d8.o],?_,f1.o.setCell (.inl rfl) _⟩,?_⟩;{rw[d7.o,b5.o];exact b7.o.setHeld q.o.1 0};show (r.extract m r.size).size < r.size;rw[d9.o];omega};(have hq:((n:Int)+(m:Int) == 64)=false:=by simp;omega);(have A:=y_ xs ⟨Vs,Z,n⟩ a5.o (by simp only;rw[a9.o];omega);simp only[a9.o]at A;have b5:=Hd A;clear A;go_wp2_with fail);refine⟨⟨j+m,e0,by rw[d8.o],?_,b4.o.setCell (.inl rfl) _⟩,?_⟩;{rw[d7.o,b5.o];exact J.o.setHeld q.o.1 (n+m)};show (r.extract m r.size).size < r.size;rw[d9.o];omega};(have f2:r=⟨#[]⟩:=by have:r.size=0:=vO;obtain⟨⟨l⟩⟩:=r;cases l with| nil=>rfl| cons x y=>exact absurd this (iG _));have f3:j=t.size:=vO;(subst f2;have a0:st=Ot s t.data.toList:=by rw[a3.o,f3];have:=Lib.size_eq t;rw[cF vO]);(rw[a0]at HG;have HF:=Hd (c0.o.trans HK.o);clear c0 HK HR a3 a0 H c4;go_wp2_with fail);go_ret;exact⟨rfl,by rw[<-HZ.o];exact HG.o,HF.o⟩
def OY(n:Nat):Nat:=(119 - n) % 64
def GH(sz:UInt64)(i:Nat):vU:=UInt8.ofNat (sz.toNat * 8 % 18446744073709551616 / 2 ^ (56 - 8 * i))
def lenL(sz:UInt64):vN:=(List.range 8).map (GH sz)
def GY(z:Nat)(sz:UInt64):vN:=128 ::(List.replicate z 0++lenL sz)
def Yx(z:Nat)(sz:UInt64)(k:Nat):vN:=128 ::(List.replicate z 0++((lenL sz).take k++List.replicate (8 - k) 0))
theorem UE:(lenL sz).length=8:=by simp[lenL]
theorem jt2(k:Nat)(hk:k<=8):(Yx z sz k).length=1+z+8:=by simp[Yx,UE];omega
theorem jt1:Yx z sz 8=GY z sz:=by
 unfold Yx GY;rw[cF (by rw[UE];omega)];simp
theorem jt3(k:Nat)(hk:k < 8):(Yx z sz k).set (1+z+k) (GH sz k)=Yx z sz (k+1):=by
 have e:=UE sz;have q:k < (lenL sz).length:=vO
 have A:(lenL sz)[k]=GH sz k:=by simp[lenL]
 unfold Yx;rw[show 1+z+k=(z+k)+1 by omega,dE,dR _ _ (by simp)];simp only[iE];rw[show z+k - z=k by omega,dR _ _ (by simp[e];omega)];rw[show 8 - k=(8 - (k+1))+1 by omega,dV,cP q,A];simp[e,Nat.min_eq_left (show k<=8 by omega)]
theorem uF(k:Nat):IntKind.u64.wrap ((sz.toNat:Int) * 8) / 2 ^ (56 - 8 * k) % 256=((GH sz k).toNat:Int):=by
 unfold GH;rw[iO];have h:∀ (a M p:Nat),((a:Int) * 8 % (M:Int)) / ((p:Nat):Int) % 256=((a * 8 % M / p % 256:Nat):Int):=by intro a M p;simp only[Int.natCast_emod,Int.natCast_ediv,Int.natCast_mul];rfl
 have e:=h sz.toNat 18446744073709551616 (2 ^ (56 - 8 * k));rw[Int.natCast_pow]at e;exact e
theorem ZJ(k:Nat)(x:vU):(Ei l).set k (.int .u8 (x.toNat:Int))=Ei (l.set k x):=by unfold Ei;rw[gO]
theorem Sk:(match Tryz.prog.underlying 260 with | some (.struct _)=>true | _=>false)=true:=vY
theorem Tz:∃ fs,Tryz.prog.underlying 260=some (.struct fs):=by
 have h:=Sk;cases hu:Tryz.prog.underlying 260 with
 | none=>rw[hu]at h;cases h
 | some d=>rw[hu]at h;cases d <;> first | exact⟨_,rfl⟩ | cases h
theorem Nt:(Tryz.prog.info? 260).map (·.size)=some 74:=vY
theorem Qp:(Instr.alloc 260 true (.tuple #[])).run Tryz.prog w=.ok w (w.alloc (.cells (Jo (List.replicate 8 0) (List.replicate 64 0) 0 0).toArray 260)):=vY
theorem zR(n sz:Int):(Jo ws B n sz).length=ws.length+B.length+2:=by simp[Jo];omega
theorem zS(n sz:Int):∀ v∈Jo ws B n sz,v.oneCell'=true:=by
 intro v e;unfold Jo at e;rcases bR.1 e with e | e
 ·rcases bR.1 e with e | e;{exact WV v e};exact ZI _ v e
 ·simp only[bT,iH,or_false]at e;rcases e with rfl | rfl <;> rfl
def GW(x:UInt32):vU:=UInt8.ofNat x.toNat
def PD(x:UInt32):vN:=[GW (Mk x 24),GW (Mk x 16),GW (Mk x 8),GW x]
def Tc(ws:List UInt32):vN:=ws.flatMap PD
theorem Nw(x:UInt32)(w:vW):(convert 256 5 (wv x)).run Tryz.prog w=.ok (.int .u8 ((GW x).toNat:Int)) w:=by
 have h:∀ n:Int,(convert 256 5 (.int .u32 n)).run Tryz.prog w=.ok (.int .u8 (IntKind.u8.wrap n)) w:=fun n=>by kernel_rfl
 unfold wv GW;rw[h,jqP,NW]
theorem Sa(V:W8)(k:Nat)(hk:k < 8)(x:UInt32)(hx:V.words[k]?=some x)(w:vW):(Instr.index 257 (.agg (V.words.map wv).toArray) (k:Int)).run Tryz.prog w=.ok (wv x) w:=by
 obtain⟨a,b,c,d,e,f,g,h⟩:=V
 rcases (show k=0\/k=1\/k=2\/k=3\/k=4\/k=5\/k=6\/k=7 by omega)with rfl | rfl | rfl | rfl | rfl | rfl | rfl | rfl <;>(cases hx;kernel_rfl)
def jzE(w:vW)(V:W8)(v i:vV)(wr:vW):Prop:=∃ k:Nat,k<=8/\i=.int .i64 k/\Av 5 1 w wr v (4 * k) (Ei (Tc (V.words.take k)))
def Wx(s:Lc)(sz:UInt64):vB:=⟨(Tc (Ot s (GY (OY s.n) sz)).V.words).toArray⟩
def yN(w:vW)(g z L:Nat)(sz:UInt64)(i:vV)(wr:vW):Prop:=∃ k:Nat,k<=8/\i=.int .i64 k/\Av 5 1 w wr (.slice (some g) L L) L (Ei (Yx z sz k))
theorem xP(s:Lc)(hs:s.Ok)(sz:UInt64)(hB:Kz w bh s (sz.toNat:Int))(hc:Ha w):vR 91 #[bh] w (Wx s sz):=by
 obtain⟨i0,hi,b9,c3,c5⟩:=info_parts Gy
 obtain⟨fs,e5⟩:=Tz
 have c7:w.rangeAt bh 0 (Jo s.V.words s.B (s.n:Int) (sz.toNat:Int)):=fun j v hv=>by rw[bX];exact hB.cellL hv
 have c8:(Jo s.V.words s.B (s.n:Int) (sz.toNat:Int)).length=74:=by rw[zR,hs.1];rfl
 have HB:=Hd hB;have HC:=Hd hc;have HS:=Hd hs;have c9:=Hd c7;have a9:=Hd c8;clear hB hc hs c7 c8;unfold vR vQ;go_in;go_wp2_with (first |(refine wpList_load_mid rfl 260 (.tmp 11) rfl bh 0 rfl _ _ c9.o e5 rfl (by rw[a9.o];exact Nt) ?_) |(refine Di (cs:=Jo (List.replicate 8 0) (List.replicate 64 0) 0 0) Qp rfl rfl ?_))
 intro W2 B2 E2;refine Bv (old:=Jo (List.replicate 8 0) (List.replicate 64 0) 0 0) (vs:=Jo s.V.words s.B (s.n:Int) (sz.toNat:Int)) rfl rfl rfl rfl B2 (by rw[a9.o];rfl) (by rw[a9.o];exact Nt) (zS _ _ _ _) ?_;intro W3 B3 K3
 obtain⟨g3,b0⟩:∃ g,g=w.heap.size:=⟨_,rfl⟩
 have X3:=Hd (E2.trans' K3 (fun x hx e=>by omega):Ad (fun _=>False) w W3);rw[<-b0]at B3 ⊢;have e6:g3 < W3.heap.size:=B3.lt;have g2:1 < g3:=by rw[b0];exact HC.o.lt
 have d0:Hid (Kz W3 g3 s (sz.toNat:Int)):=Hd B3;have d1:=Kz.held (HB.o.keeps X3.o kI) HS.o.1;have d2:=Hd (Kz.siz (HB.o.keeps X3.o kI) HS.o.1);clear B2 E2 B3 K3 c9 a9 HB
 obtain⟨n,hn⟩:=vE s.n
 have f6:n < 64:=by rw[hn];exact HS.o.2
 rw[<-hn]at d1
 obtain⟨z,hz⟩:=vE (OY n)
 have e7:(119 - (n:Int)).tmod 64=(z:Int):=by rw[hz];unfold OY;rw[Int.tmod_eq_emod_of_nonneg vO];omega
 have f7:z < 64:=by rw[hz];unfold OY;omega
 have HZ:=Hd hz;have HN:=Hd hn;clear hz hn
 obtain⟨L,hL⟩:=vE (1+z+8)
 have e8:1+(z:Int)+8=(L:Int):=vO
 have e9:(0:Int) < (L:Int):=vO
 have HL:=Hd hL;have f0:=Hd b0;have g4:L<=72:=vO
 clear b0 hL;have d3:=RJ (P:=Tryz.prog) W3 Bg hi b9 c3 rfl .i64 .i64 L (by rw[c5];omega) (by unfold maxLen;omega);have J:=Av.lit (T:=5) (sz:=1) (List.replicate L (.int .u8 0)).toArray (n:=L) (Aa W3) (by unfold maxLen;omega) (by simp)
 obtain⟨g,hg⟩:=vE W3.heap.size
 obtain⟨W4,d4⟩:∃ W,W=W3.alloc (.cells (List.replicate L (Value.int .u8 0)).toArray 5):=⟨_,rfl⟩
 rw[<-hg, <-d4]at d3 J;clear hg d4 e6;have A:=J.own.cellAt 0 vO;have b6:=J.own.frozenAt 0;have d5:=Hd J;clear J;simp only at A;rw[bB (by simp;omega)]at A;go_wp2_with fail
 have H:=d5.o.set 0 (.int .u8 128);have e0:((List.replicate L (Value.int .u8 0)).toArray.toList).set 0 (.int .u8 128)=Ei (Yx z sz 0):=by(have e1:Yx z sz 0=(List.replicate L (0:vU)).set 0 128:=by rw[HL.o,show 1+z+8=(z+8)+1 by omega,dV,dJ];unfold Yx;simp only[gZ,cL,Nat.sub_zero,List.replicate_append_replicate]);rw[e1, <-ZJ];congr 1;simp[Ei]
 rw[e0]at H
 obtain⟨W5,d6⟩:∃ W,W=W4.setCell g (.int .u8 128):=⟨_,rfl⟩
 rw[<-d6]at H ⊢;have d7:=Hd H;clear H e0 A b6 d5 d3 e7 e8 e9 d1 d6;go_loopw [25] (fun i wr=>yN W3 g z L sz i wr) (fun i _=>8 - (intOf i).toNat)
 case atStart=>exact⟨0,by omega,rfl,d7.o⟩
 case round =>obtain⟨k,hk,rfl,hR⟩:=hrel;have K:=Hd hR;clear hR;by_cases hlt:k < 8;{have f8:=Am d2.o K.o.ext;have a8:=K.o.own.cellAt (1+z+k) (kL HL.o);have g5:=K.o.own.frozenAt (1+z+k);rw[bB (by rw[bytesV_len,jt2 z sz k vO];omega)]at a8;have c0:(0:Int)<=1+(z:Int)+(k:Int):=vO;have c1:1+(z:Int)+(k:Int) < (L:Int):=kL HL.o;have c2:(1+(z:Int)+(k:Int)).toNat=1+z+k:=vO;have c4:(56 - 8 * (k:Int)).toNat=56 - 8 * k:=vO;(go_wp2_with fail);rw[uF];have a0:=K.o.set (1+z+k) (.int .u8 ((GH sz k).toNat:Int));rw[ZJ,jt3 z sz k hlt]at a0;exact⟨⟨k+1,by omega,by go_num,a0⟩,by simp[intOf];omega⟩};have b2:k=8:=vO;(subst b2;have q:=K.o.own;rw[jt1]at q;have b3:=BT wr Bg Ch Ag q;have b4:=Hd K.o.ext;clear q d7 K d2;go_wp2_with fail);rw[show ((8:Nat):Int)=(8:Int)from rfl];refine (rK wr g3 s HS.o sz ⟨(GY z sz).toArray⟩ (d0.o.keeps b4.o kI) (HC.o.ext (X3.o.trans b4.o)) vO).mono ?_;rintro e w6 ⟨rfl,d8,d9⟩;obtain⟨S6,b1⟩:∃ x,x=Ot s (GY z sz):=⟨_,rfl⟩;(have a1:Kz w6 g3 S6 ((sz+UInt64.ofNat (⟨(GY z sz).toArray⟩:vB).size).toNat:Int):=by rw[b1];exact d8);(have b7:S6.Ok:=by rw[b1];exact HS.o.all _);have f1:Hid (Af w w6):=Hd ((X3.o.trans b4.o).trans' d9 (fun x hx e=>kL f0.o));have f2:=Hd b1;obtain⟨w7,a3,O,a4⟩:=run_make_own (P:=Tryz.prog) (w:=w6) w6 84 5 i0 _ 1 Bg hi b9 c3 .i64 .i64 32 (by rw[c5];omega) (by unfold maxLen;omega) (bP _);(have b8:(Instr.makeSlice 84 (.int .i64 0) (.int .i64 32)).run Tryz.prog w6=.ok (.slice (some w6) 0 32) w7:=by rw[<-a3];rfl);(have e2:Hid (Av 5 1 w6 w7 (.slice (some w6) 0 32) 0 []):=Hd (Av.made w6 O a4);have e3:Kz w7 g3 S6 _:=a1.keeps e2.o.ext kI;have a5:w7.rangeAt g3 0 (S6.V.words.map wv):=fun j v hv=>by rw[bX];exact e3.cellL (by unfold Jo;rw[bZ,cN (bI.1 hv).1];exact hv));have X:=Hd a5;obtain⟨V6,b5⟩:∃ v,v=S6.V:=⟨_,rfl⟩;(rw[<-b5]at X;have f3:=Hd b5;clear d8 a1 b7 b1 a3 O a4 e3 a5 d9 b5 b3;go_wp2_with (refine wpList_load_mid rfl 257 (.tmp 49) rfl g3 0 rfl _ _ X.o Ny rfl Kg ?_));(clear b8 X HC d0;have f9:∀ (p:UInt32) (w:vW),(binOp .shr 256 (wv p) (.int .u64 24)).run Tryz.prog w=.ok (wv (Mk p 24)) w:=fun _ _=>KA 24 vI .u64;have g0:∀ (p:UInt32) (w:vW),(binOp .shr 256 (wv p) (.int .u64 16)).run Tryz.prog w=.ok (wv (Mk p 16)) w:=fun _ _=>KA 16 vI .u64;have g6:∀ (p:UInt32) (w:vW),(binOp .shr 256 (wv p) (.int .u64 8)).run Tryz.prog w=.ok (wv (Mk p 8)) w:=fun _ _=>KA 8 vI .u64;have g7:=Nw;go_loopw [7,51] (fun v i wr=>jzE w6 V6 v i wr) (fun _ i _=>8 - (intOf i).toNat));(case atStart=>exact⟨0,by omega,rfl,e2.o⟩);case round =>obtain⟨k,hk,rfl,hR⟩:=hrel;obtain⟨a,c,rfl⟩:=hR.sl;have K:=Hd hR;clear hR;by_cases hlt:k < 8;{obtain⟨x,hx⟩:∃ x,V6.words[k]?=some x:=⟨_,bB (by simp[W8.words];omega)⟩;(have g8:=fun w=>Sa V6 k hlt x hx w;have Z:Tc (V6.words.take (k+1))=Tc (V6.words.take k)++PD x:=by unfold Tc;rw[cA,hx];simp);(have f4:=Hd Z;clear hx Z;go_wp2_with (at_builtin;refine Rc Mn (K.o.mono ((Aa wr).alloc _)) (.tmp 54) (.tmp 66) rfl rfl rfl (Jx (Ae.new wr _)) (news:=Ei (PD x)) (ZI _) rfl rfl ?c1 ?c2 (fun v' w' r1 r2 r3=>?_)));(case c1=>unfold maxLen;omega);(case c2=>omega);rw[<-LT, <-f4.o,show 4 * k+4=4 * (k+1) by omega]at r1;have e4:=Hd r1;clear r1 r2 r3;obtain⟨a2,c2,rfl⟩:=e4.o.sl;(go_wp2_with fail);exact⟨⟨k+1,by omega,by go_num,e4.o⟩,by simp[intOf];omega⟩};have b2:k=8:=vO;(subst b2;have q:=K.o.own;rw[cF (by simp[W8.words])]at q;have b3:=BT wr Bg Ch Ag q;have a7:(⟨(Tc V6.words).toArray⟩:vB)=Wx s sz:=by unfold Wx;rw[f3.o,f2.o,HZ.o,HN.o]);(rw[a7]at b3;have f5:=Hd (f1.o.trans K.o.ext);clear q a7;go_wp2_with fail);go_ret;exact⟨rfl,f5.o⟩
def EM:Lc:=⟨⟨0x6a09e667,0xbb67ae85,0x3c6ef372,0xa54ff53a,0x510e527f,0x9b05688c,0x1f83d9ab,0x5be0cd19⟩,List.replicate 64 0,0⟩
theorem jvG:EM.Ok:=⟨rfl,by decide⟩
def LK(l:vN):vB:=Wx (Ot EM l) (UInt64.ofNat l.length)
def Ak(s:vB):vB:=LK s.data.toList
theorem xK:vQ 89 #[] w fun e w'=>e=.returned w/\Kz w' w EM 0/\Af w w':=by
 unfold vQ;go_in;go_wp2_with fail
 go_ret
 refine⟨rfl,?_,(Aa w).alloc _⟩
 exact (congrArg (fun c=>Ae (w.alloc (.cells c 260)) w (.cells (Jo EM.V.words EM.B (EM.n:Int) 0).toArray 260)) vY).mp (Ae.new w _)
def yF(w:vW)(g:Nat)(I:Lc)(xs:vM)(i:vV)(wr:vW):Prop:=∃ k:Nat,k<=xs.length/\i=.int .i64 k/\Kz wr g (Ot I (Aw (xs.take k)).data.toList) ((UInt64.ofNat (Aw (xs.take k)).data.toList.length).toNat:Int)/\Ad (fun x=>x=g) w wr
theorem Ic.slice{w:vW}{xs:vM}(h:Ic w v xs):∃ a c,v=.slice a xs.length c/\∀ (j:Nat) x,xs[j]?=some x->∃ b o,a=some ⟨b,o,none⟩/\w.cell? ⟨b,o+j,none⟩=some (.string x):=by
 rcases h with⟨a,c,rfl,rfl⟩ |⟨b,o,c,rfl,h2,h3,h4⟩
 ·exact⟨a,c,rfl,fun j x e=>by simp at e⟩
 ·exact⟨some ⟨b,o,none⟩,c,rfl,fun j x e=>⟨b,o,rfl,h4 j x e⟩⟩
theorem jrB(xs:vM)(k:Nat)(x:vB)(hx:xs[k]?=some x):(Aw (xs.take (k+1))).data.toList=(Aw (xs.take k)).data.toList++x.data.toList:=by
 unfold Aw;rw[cA,hx];simp
theorem Tb(v:vV)(xs:vM)(hlen:xs.length<=1000000)(hr:Ic w v xs)(hc:Ha w):vR 47 #[v] w (Ak (Aw xs)):=by
 obtain⟨a,c,rfl,O⟩:=hr.slice
 have a8:=Hd O;have HC:=Hd hc;clear O hc hr
 obtain⟨I,hI⟩:=vE EM
 have X:I.Ok:=by rw[hI];exact jvG
 have Z:=Hd X;have HI:=Hd hI;clear hI X;unfold vR vQ;go_in;go_wp2_with fail
 refine (xK w).mono ?_;rintro e w1 ⟨rfl,A,a1⟩
 obtain⟨g,hg⟩:=vE w.heap.size
 rw[<-hg]at A ⊢;rw[<-HI.o]at A;have a9:=Hd A;have H:=Hd a1;have a2:1≠g:=kL HC.o.lt
 have HG:=Hd hg;clear A a1 hg;go_wp2_with fail
 go_loopw [9] (fun i wr=>yF w1 g I xs i wr) (fun i _=>xs.length - (intOf i).toNat)
 case atStart=>exact⟨0,by omega,rfl,by simpa [Aw,Ot]using a9.o,Ad.refl _ _⟩
 case round =>obtain⟨k,hk,rfl,K,hK⟩:=hrel;have HH:=Hd K;have HK:=Hd hK;clear K hK;by_cases hlt:k < xs.length;{obtain⟨x,hx⟩:∃ x,xs[k]?=some x:=⟨_,bB hlt⟩;obtain⟨b,o,rfl,q⟩:=a8.o k x hx;(have b0:b≠g:=by have:b < w.heap.size:=dU w _ q;have:=HG.o;omega);(have b1:wr.cell? ⟨b,o+k,none⟩=some (.string x):=by have h1:=Am q H.o;have a0:b < w1.heap.size:=dU w1 _ h1;have e:=HK.o.block b a0 b0;unfold World.cell? at *;rw[e];exact h1);(have a3:=jrB xs k x hx;have J:=Hd a3;clear a3 q hx;go_wp2_with fail);(refine (rK wr g _ (Z.o.all _) _ x HH.o ((HC.o.ext H.o).keeps HK.o a2) (Ne.symm a2)).mono ?_;rintro e w2 ⟨rfl,a4,a5⟩;have b2:=Hd a4;have b3:=Hd (HK.o.trans a5);clear a4 a5 b1;go_wp2_with fail);refine⟨⟨k+1,by omega,by go_num,?_,b3.o⟩,by simp[intOf];omega⟩;have h:=b2.o;rw[<-XZ, <-J.o]at h;rw[J.o,bK,UInt64.ofNat_add];rw[J.o,Lib.size_eq]at h;exact h};have b4:k=xs.length:=vO;(subst b4;have K:=HH.o;rw[cD]at K;have b5:=Hd K;clear K HH;have a7:Hid (Af w wr):=Hd (H.o.trans' HK.o (fun x hx e=>kL HG.o));go_wp2_with fail);(refine vH (xP wr g _ (Z.o.all _) _ b5.o (HC.o.ext a7.o)) fun w2 b6=>?_;have b7:=Hd (a7.o.trans b6);go_wp2_with fail);go_ret;refine⟨?_,b7.o⟩;rw[HI.o];unfold Ak LK;rfl
theorem SM{a b:vB}(h:a.toList=b.toList):a=b:=by
 rw[cC,cC]at h
 obtain⟨⟨l⟩⟩:=a;obtain⟨⟨m⟩⟩:=b
 simp at h;rw[h]
theorem CA(a:vB):Aw [a]=a:=by
 obtain⟨⟨l⟩⟩:=a;simp[Aw]
theorem jyF{x:vB}{T:TypeId}(h:Af (W.alloc (.cells #[x] T)) w'):Ic w' (.slice (some W) 1 1) [x]:=by
 have e:Ae w' W (.cells #[x] T):=(Ae.new W _).keeps h kI;exact .inr ⟨W.heap.size,0,1,rfl,e.lt,bP _,fun j y q=>by rcases j with _ | j;{cases q;exact e.cell vF};simp at q⟩
theorem jv6:(Tc ws).length=4 * ws.length:=by
 unfold Tc;induction ws with
 | nil=>rfl
 | cons x r ih=>rw[dN,bK,ih];simp[PD];omega
theorem jt0(s:Lc)(sz:UInt64):(Wx s sz).size=32:=by
 rw[Lib.size_eq];unfold Wx;rw[List.toList_toArray,jv6];rfl
theorem Uj:(Ak s).size=32:=jt0 _ _
def Ba(s:vB):vB:=if s.size < 32 then s else Ay (Ak s)
theorem XD(hc:Ha w):vR 165 #[s] w (Ba s):=by
 have O:=Hd hc;clear hc
 by_cases hlt:s.size < 32
 ·have X:(s.size:Int) < 32:=vO;(unfold vR vQ;go_in;go_wp2_with fail);go_ret;exact⟨by unfold Ba;rw[if_pos hlt];rfl,Aa w⟩
 ·have X:¬(s.size:Int) < 32:=vO;(unfold vR vQ;go_in;go_wp2_with fail);refine vH (Tb _ _ [s] (by simp) (jyF (Aa _)) (O.o.ext ((Aa w).alloc _))) fun w1 A=>?_;rw[CA];have H:Hid (Af w w1):=Hd (((Aa w).alloc _).trans A);obtain⟨h,q⟩:=vE (Ak s);(have e:h.size<=1000000000:=by rw[q,Uj];omega);(rw[<-q];have Z:=Hd q;clear q;go_wp2_with fail);(refine vH (Rf w1 h e) fun w2 J=>?_;have K:=Hd (H.o.trans J);clear e;go_wp2_with fail);go_ret;exact⟨by unfold Ba;rw[if_neg hlt, <-Z.o];rfl,K.o⟩
def Yr(s:vB)(r:Bool × Nat × Nat):Option vB:=if r.1=false/\r.2.1+r.2.2=s.size then some (s.extract r.2.1 (r.2.1+r.2.2))else none
def Dg:Option vB->vV
 | some x=>.tuple #[x,true]
 | none=>.tuple #[.string ⟨#[]⟩,false]
theorem jxP{s:vB}{r:Bool × Nat × Nat}(h:Dq s=some r):r.2.1+r.2.2<=s.size:=by
 unfold Dq at h
 by_cases h0:0 < s.size
 ·rw[dif_pos h0]at h;simp only at h;by_cases h1:s[0].toNat < 128;{rw[if_pos h1]at h;obtain rfl:=bV h;simp only;omega};rw[if_neg h1]at h;(obtain⟨q,e⟩:∃ q:Bool × Nat,q=if s[0].toNat < 192 then (false,s[0].toNat - 128)else (true,s[0].toNat - 192):=⟨_,rfl⟩);rw[<-e]at h;clear e;obtain⟨l,m⟩:=q;simp only at h;by_cases h3:m<=55;{rw[if_pos h3]at h;split at h;{rename_i hc;obtain rfl:=bV h;exact hc.1};cases h};rw[if_neg h3]at h;split at h;{split at h;{rename_i hc;obtain rfl:=bV h;exact hc};cases h};cases h
 ·rw[dif_neg h0]at h;cases h
theorem KD(r:Bool × Nat × Nat)(hs:s.size<=1000000000)(h:Dq s=some r):vR 181 #[s] w (Dg (Yr s r)):=by
 have q:=jxP h;unfold vR vQ;go_in;go_wp2_with fail
 refine vH (GB w s r hs h) fun w1 A=>?_
 obtain⟨x,H⟩:=vE (s.extract r.2.1 (r.2.1+r.2.2))
 obtain⟨y,J⟩:∃ x,x=s.extract (r.2.1+r.2.2) s.size:=⟨_,rfl⟩
 have e:y.size=s.size - (r.2.1+r.2.2):=by rw[J];simp[dI]
 rw[<-H, <-J]
 obtain⟨l,p⟩:=r
 simp only at e q;have O:=Hd H;clear h H J hs;simp only;cases l with
 | true =>(go_wp2_with fail);exact bodyPost_ret (v:=Dg none) vY rfl ⟨by unfold Yr;rw[if_neg (by simp)],A.o⟩
 | false =>by_cases he:p.1+p.2=s.size;{(have K:y=⟨#[]⟩:=by have:y.size=0:=vO;obtain⟨⟨l⟩⟩:=y;cases l with| nil=>rfl| cons x y=>exact absurd this (iG _));(subst K;clear e;go_wp2_with fail);exact bodyPost_ret (v:=Dg (some x)) vY rfl ⟨by unfold Yr;rw[if_pos ⟨rfl,he⟩,O.o],A.o⟩};have X:=Rq (s:=y) vO;(clear e;go_wp2_with fail);exact bodyPost_ret (v:=Dg none) vY rfl ⟨by unfold Yr;rw[if_neg (by simp[he])],A.o⟩
def Vg(s:vB)(r:Bool × Nat × Nat):Option vB:=(Yr s r).filter (fun x=>x.size=32)
theorem BE(r:Bool × Nat × Nat)(hs:s.size<=1000000000)(h:Dq s=some r):vR 143 #[s] w (Dg (Vg s r)):=by
 unfold vR vQ;go_in;go_wp2_with fail
 refine vH (KD w s r hs h) fun w1 e=>?_;have hb:Vg s r=(Yr s r).filter (fun x=>x.size=32):=rfl
 obtain⟨o,H⟩:=vE (Yr s r)
 rw[<-H]at hb ⊢;have q:=Hd hb;clear h hs H hb;cases o with
 | none =>(unfold Dg;simp only;go_wp2_with fail);exact bodyPost_ret (v:=Dg none) vY rfl ⟨by rw[q.o];rfl,e.o⟩
 | some x =>unfold Dg;simp only;by_cases hx:x.size=32;{(have J:((x.size:Int) == 32)=true:=by simp;omega);have A:(x.size:Int)=32:=vO;(go_wp2_with fail);exact bodyPost_ret (v:=Dg (some x)) vY rfl ⟨by rw[q.o];simp[Option.filter,hx],e.o⟩};(have J:((x.size:Int) == 32)=false:=by simp;omega);have A:¬(x.size:Int)=32:=vO;(go_wp2_with fail);exact bodyPost_ret (v:=Dg none) vY rfl ⟨by rw[q.o];simp[Option.filter,hx],e.o⟩
