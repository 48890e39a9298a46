/- Lemmas; each is under no condition but those that it states. -/
import Derived.Test.YtepbencaoiompaaGreatDoorPa7
import Derived.Lib.LazyBuf
namespace Go.Proofs.YtepbencaoiompaaGreatDoor
set_option linter.unusedSimpArgs false
set_option linter.unusedVariables false
set_option maxRecDepth 100000
set_option maxHeartbeats 16000000
open Go Go.RowKit
theorem jgp{P:Program}(w:vW)(dT sT ty elem:TypeId)(b o dLen dCap:Nat)(t:vB)(m:Nat)(hm:m=Nat.min t.size dLen)
  (hu:P.underlying dT=some (.slice elem)) (hz:∀ w,(Go.sizeOf elem).run P w=.ok 1 w)
  (hc:∀ j,j < m->(w.cell? ⟨b,o+j,none⟩).isSome=true) (hf:∀ j,j < m->w.frozen? ⟨b,o+j,none⟩=false) :
  (Builtin.copy_ #[dT,sT] ty #[.slice (some ⟨b,o,none⟩) dLen dCap,.string t]).run P w=.ok (goInt m) (w.setCells b o (jaN (t.data.toList.take m))):=by
 have q:(jaN (t.data.toList.take m)).length=m:=by
  have:=Lib.size_eq t
  have z:Nat.min t.size dLen=min t.size dLen:=rfl;simp[jaN];rw[z]at hm;omega
 have e:=run_storeCells_cells (P:=P) b o (jaN (t.data.toList.take m)) 0 w (by rw[q];simpa using hc) (by rw[q];simpa using hf) (by
  intro v A
  obtain⟨x,_,rfl⟩:=bI.1 A
  rfl)
 simp[Builtin.copy_,run_underlying hu,Builtin.lenOf,Builtin.firstCells,hz, <-hm];unfold jaN at e;rw[jC]at e;rw[e];simp[jaN,jC]
structure HSt where
 V:W8
 B:vN
 n:Nat
def HSt.Ok(s:HSt):Prop:=s.B.length=64/\s.n < 64
def ji0(s:HSt)(x:vU):HSt:=if s.n+1=64 then ⟨mixW s.V (s.B.set s.n x),s.B.set s.n x,0⟩else ⟨s.V,s.B.set s.n x,s.n+1⟩
def jb1(s:HSt)(l:vN):HSt:=l.foldl ji0 s
theorem HSt.Ok.push{s:HSt}(h:s.Ok)(x:vU):(ji0 s x).Ok:=by
 obtain⟨e,o⟩:=h
 unfold ji0 HSt.Ok;split <;> simp[e] <;> omega
theorem HSt.Ok.all{s:HSt}(h:s.Ok)(l:vN):(jb1 s l).Ok:=by
 unfold jb1;induction l generalizing s with
 | nil=>exact h
 | cons x r ih=>exact ih (h.push x)
theorem jf4(s:HSt)(l r:vN):jb1 s (l++r)=jb1 (jb1 s l) r:=fM
def layB(B:vN)(n:Nat)(xs:vN):vN:=B.take n++xs++B.drop (n+xs.length)
theorem jvW{B:vN}{n:Nat}{xs:vN}(h:n+xs.length<=B.length):(layB B n xs).length=B.length:=by simp[layB];omega
theorem jiP{B:vN}{n:Nat}(x:vU)(xs:vN)(h:n+1+xs.length<=B.length):layB (B.set n x) (n+1) xs=layB B n (x :: xs):=by
 unfold layB;have e:(B.set n x).take (n+1)=B.take n++[x]:=by
  rw[List.set_eq_take_append_cons_drop,if_pos vO,List.take_append,cD (by simp;omega)];simp[gR (show n<=B.length by omega)]
 have o:(B.set n x).drop (n+1+xs.length)=B.drop (n+(x :: xs).length):=by
  rw[List.drop_set_of_lt vO]
  congr 1;simp;omega
 rw[e,o];simp
theorem jm1(xs:vN):∀ (s:HSt),s.Ok->s.n+xs.length < 64->jb1 s xs=⟨s.V,layB s.B s.n xs,s.n+xs.length⟩:=by
 induction xs with
 | nil=>intro s h _;simp[jb1,layB]
 | cons x r ih =>
  intro s h o;simp only[bO]at o;have e:ji0 s x=⟨s.V,s.B.set s.n x,s.n+1⟩:=by unfold ji0;rw[if_neg vO]
  show jb1 (ji0 s x) r=_;rw[ih _ (h.push x) (by rw[e];simp only;omega),e];simp only[bO];rw[jiP x r (by rw[h.1];omega),show s.n+1+r.length=s.n+(r.length+1) by omega]
theorem jm0(xs:vN):∀ (s:HSt),s.Ok->s.n+xs.length=64->jb1 s xs=⟨mixW s.V (layB s.B s.n xs),layB s.B s.n xs,0⟩:=by
 induction xs with
 | nil=>intro s h o;exact absurd h.2 (by simp at o;omega)
 | cons x r ih =>
  intro s h o;simp only[bO]at o;show jb1 (ji0 s x) r=_
  by_cases hr:r.length=0
  ·have q:r=[]:=bG hr
   subst q;have e:ji0 s x=⟨mixW s.V (s.B.set s.n x),s.B.set s.n x,0⟩:=by unfold ji0;rw[if_pos (by simp at o;omega)]
   rw[e]
   have:=jiP (B:=s.B) (n:=s.n) x [] (by rw[h.1];simp at o ⊢;omega)
   rw[<-this];simp[jb1,layB]
  ·have e:ji0 s x=⟨s.V,s.B.set s.n x,s.n+1⟩:=by unfold ji0;rw[if_neg vO]
   rw[ih _ (h.push x) (by rw[e];simp only;omega),e];simp only;rw[jiP x r (by rw[h.1];omega)]
def jbY(w:vW)(b:Nat)(s:HSt)(sz:Int):Prop:=Blk w b (.cells (jaP s.V.words s.B (s.n:Int) sz).toArray 156)
theorem jcK(v:W8):v.words.length=8:=rfl
theorem jbY.held{w:vW}{b:Nat}{s:HSt}{sz:Int}(h:jbY w b s sz)(hs:s.B.length=64):w.cell? ⟨b,72,none⟩=some (.int .i64 (s.n:Int)):=h.cellL (by
 unfold jaP;rw[dA (by simp[jcK,jaN,hs])];simp[jcK,jaN,hs])
theorem jbY.siz{w:vW}{b:Nat}{s:HSt}{sz:Int}(h:jbY w b s sz)(hs:s.B.length=64):w.cell? ⟨b,73,none⟩=some (.int .u64 sz):=h.cellL (by
 unfold jaP;rw[dA (by simp[jcK,jaN,hs])];simp[jcK,jaN,hs])
theorem jbY.setHeld{w:vW}{b:Nat}{s:HSt}{sz:Int}(h:jbY w b s sz)(hs:s.B.length=64)(n:Nat):jbY (w.setCell ⟨b,72,none⟩ (.int .i64 (n:Int))) b ⟨s.V,s.B,n⟩ sz:=by
 have:=h.set_same (i:=72) (.int .i64 (n:Int))
 unfold jbY;unfold jaP at this ⊢;rw[gK,fN _ _ (by simp[jcK,jaN,hs])]at this;simpa [jcK,jaN,hs]using this
theorem jbY.setSiz{w:vW}{b:Nat}{s:HSt}{sz:Int}(h:jbY w b s sz)(hs:s.B.length=64)(z:Int):jbY (w.setCell ⟨b,73,none⟩ (.int .u64 z)) b s z:=by
 have:=h.set_same (i:=73) (.int .u64 z)
 unfold jbY;unfold jaP at this ⊢;rw[gK,fN _ _ (by simp[jcK,jaN,hs])]at this;simpa [jcK,jaN,hs]using this
theorem jbY.lay{w:vW}{b:Nat}{s:HSt}{sz:Int}(h:jbY w b s sz)(hs:s.B.length=64)(xs:vN)(hx:s.n+xs.length<=64):jbY (w.setCells b (8+s.n) (jaN xs)) b ⟨s.V,layB s.B s.n xs,s.n⟩ sz:=by
 have:=Blk.setCells (jaN xs) (8+s.n) w _ h (by simp[jaP,jcK,jaN,hs];omega)
 unfold jbY;have e:(jaP s.V.words s.B (s.n:Int) sz).take (8+s.n)++jaN xs++(jaP s.V.words s.B (s.n:Int) sz).drop (8+s.n+(jaN xs).length)=jaP s.V.words (layB s.B s.n xs) (s.n:Int) sz:=by
  unfold jaP layB;have o:(s.V.words.map wv).length=8:=rfl;have q:(jaN s.B).length=64:=by simp[jaN,hs]
  have z:(jaN xs).length=xs.length:=by simp[jaN]
  rw[bX (s.V.words.map wv),List.take_append,List.drop_append,o,z];rw[cD (by rw[o];omega),iS (l:=s.V.words.map wv) (by rw[o];omega)];rw[show 8+s.n - 8=s.n by omega,show 8+s.n+xs.length - 8=s.n+xs.length by omega];rw[fX (by rw[q];omega),List.drop_append_of_le_length (by rw[q];omega)];simp[jaN,jC,List.map_drop]
 rw[e]at this;exact this
theorem jsz{P:Program}{a:Act}{w:vW}{v:vV}{p:Addr}{d:Option Tmp}{t ty:TypeId}{x:Operand}{pos:String}{af:Array Edge}{g:Option (Nat × Bool)}(h:(Instr.loadAt t (.pointer (some p))).run P w=.ok v w)(hx:a.eval x=.pointer (some p)) :
  (execOp a.eval ⟨d,.load t x,ty,pos,af,g⟩).run P w=.ok (.value v) w:=by
 simp only[execOp,hx,bS,h,Result.andThen,cJ]
def jAZ(v:vV):Nat:=match v with | .string t=>t.size | _=>0
def jBx(w:vW)(bh:Nat)(s:HSt)(sz:Int)(t:vB)(v:vV)(wr:vW):Prop:=∃ j:Nat,j<=t.size/\v=.string (t.extract j t.size)/\jbY wr bh (jb1 s (t.data.toList.take j)) sz/\jag (fun x=>x=bh) w wr
theorem juD(sz:UInt64)(n:Nat):IntKind.u64.wrap ((sz.toNat:Int)+IntKind.u64.wrap (n:Int))=((sz+UInt64.ofNat n).toNat:Int):=by
 rw[UInt64.toNat_add,UInt64.toNat_ofNat'];show ((sz.toNat:Int)+(n:Int) % (18446744073709551616:Int)) % (18446744073709551616:Int)=_;simp only[Int.natCast_emod,Int.natCast_add];rfl
theorem Tryz.uSlU8:Tryz.prog.underlying 42=some (.slice 5):=vY
theorem Tryz.szU8(w:vW):(Go.sizeOf 5).run Tryz.prog w=.ok 1 w:=vY
theorem Tryz.uInt:Tryz.prog.underlying 3=some (.int .i64):=vY
theorem juE(w:vW)(bh:Nat)(s:HSt)(hs:s.Ok)(sz:UInt64)(t:vB)(hB:jbY w bh s (sz.toNat:Int))(hc:jbN w)(hbh:bh≠0) :
  vQ 46 #[.pointer (some ⟨bh,0,none⟩),.string t] w fun e w'=>e=.returned (.pointer (some ⟨bh,0,none⟩))/\jbY w' bh (jb1 s t.data.toList) ((sz+UInt64.ofNat t.size).toNat:Int)/\jag (fun x=>x=bh) w w':=by
 have e4:=hB.siz hs.1;have e5:w.frozen? ⟨bh,73,none⟩=false:=hB.frozen;have HB:=Hd hB;have HC:=Hd hc;have HS:=Hd hs;clear hB hc hs;go_enter Tryz.func46,Tryz.ntmps46;go_wp2_with fail
 have hz:=juD sz t.size
 obtain⟨SZ,b6⟩:∃ z,z=IntKind.u64.wrap ((sz.toNat:Int)+IntKind.u64.wrap (t.size:Int)):=⟨_,rfl⟩
 rw[<-b6]at hz ⊢;have b0:=HB.o.setSiz HS.o.1 SZ;have X:=(jag.refl (fun x=>x=bh) w).setCell (p:=⟨bh,73,none⟩) (.inl rfl) (.int .u64 SZ)
 obtain⟨w1,b7⟩:=vE (w.setCell ⟨bh,73,none⟩ (.int .u64 SZ))
 rw[<-b7]at b0 X ⊢;have e6:=Hd b0;have b8:=Hd X;have HZ:=Hd hz;have b9:=Hd (HC.o.keeps X (Ne.symm hbh));clear b0 X b7 hz b6 e4 e5 HB HC
 obtain⟨wt,c0⟩:∃ x,x=IntKind.u64.wrap (t.size:Int):=⟨_,rfl⟩
 rw[<-c0];clear c0;go_loopw [1] (fun v wr=>jBx w1 bh s SZ t v wr) (fun v _=>jAZ v)
 case atStart=>exact⟨0,by omega,by rw[show t.extract 0 t.size=t by simp],e6.o,jag.refl _ _⟩
 case round =>
  obtain⟨j,hj,rfl,hG,Z⟩:=hrel
  have HK:=Hd Z;have e7:=Hd (b9.o.keeps Z (Ne.symm hbh))
  obtain⟨st,a1⟩:=vE (jb1 s (t.data.toList.take j))
  have c3:st.Ok:=by rw[a1];exact HS.o.all _
  rw[<-a1]at hG;have HG:=Hd hG;have a2:=Hd a1
  obtain⟨r,hr⟩:=vE (t.extract j t.size)
  have E:r.size=t.size - j:=by rw[hr];simp[cL]
  have HR:=Hd hr;rw[<-hr];clear hG a1 Z hr
  by_cases hlt:j < t.size
  ·have f2:=ja4 (s:=r) vO
   obtain⟨Vs,Q,n⟩:=st
   obtain⟨a3,hn⟩:=c3
   simp only at a3 hn
   obtain⟨m,hm⟩:=vE (Nat.min r.size (64 - n))
   have c4:m=min r.size (64 - n):=hm;have f3:0 < m:=vO
   have f4:m<=r.size:=vO
   have f5:n+m<=64:=vO
   have a4:Hid (HSt.Ok ⟨Vs,Q,n⟩):=Hd ⟨a3,hn⟩;have c1:(n:Int)<=64:=vO
   have c2:(64 - (n:Int)).toNat=64 - n:=vO
   have c5:=Hd E;have HM:=Hd hm;have e8:=Hd c4;have b1:=Hd a3;clear E hm c4 a3;go_wp2_with fail
   refine jaw [0,1,2,3,4,5,8,6,7,9,10] [6,9] Ext ExtR ExtT vY vY vY ?_
   refine vP ?_
   refine qA _ (.pointer (some ⟨bh,0,none⟩)) rfl (fun w1=>by kernel_rfl) ?_;refine vS ?_;iterate 2 refine vP ?_
   refine qA _ (.pointer (some ⟨bh,0,none⟩)) rfl (fun w1=>by kernel_rfl) ?_;refine vS ?_;iterate 2 refine vP ?_
   refine qH _ rfl (fun w2 he K Z=>?_);have X2:=(jaq wr).trans he;refine jcD (w':=w2) (jsz (jac Tryz.uInt rfl (jaa (HG.o.held a4.o.1) X2)) vY) (Z _ _ ?_);clear Z K he;refine vS ?_
   refine vP ?_
   refine qH _ rfl (fun w3 he K Z=>?_);have X3:=X2.trans he
   obtain⟨xs,a5⟩:∃ x,x=r.data.toList.take m:=⟨_,rfl⟩
   have c6:xs.length=m:=by rw[a5];have:=Lib.size_eq r;simp;omega
   have G1:=HG.o.keeps X3 (fun h=>h);have K1:=HK.o.trans' X3 (fun _ _ h=>h.elim);have c7:(jaP Vs.words Q (n:Int) SZ).length=74:=by simp[jaP,jcK,jaN,b1.o]
   have a6:=jgp (P:=Tryz.prog) w3 42 9 3 5 bh (8+n) (64 - n) (64 - n) r m HM.o Tryz.uSlU8 Tryz.szU8
    (by intro j hj;rw[Blk.cellL G1 (i:=8+n+j) (bA (by rw[c7];omega))];rfl) (by intro j hj;exact Blk.frozen G1)
   rw[<-a5]at a6;have G2:=jbY.lay G1 a4.o.1 xs (by simp only;omega);have K2:=K1.trans (jag.oneSetCells bh (jaN xs) (8+n) w3);simp only at G2
   obtain⟨w4,c8⟩:∃ x,x=w3.setCells bh (8+n) (jaN xs):=⟨_,rfl⟩
   rw[<-c8]at a6 G2 K2;have c9:=Hd G2;have d0:=Hd K2;have d1:=Hd a5;have a7:=Hd c6;clear G1 K1 G2 K2 c8 he X2 X3 HG HK c7 a5 c6 e7;refine jcD (w':=w4) (jmn a6 vY) (Z _ _ ?_);clear a6 Z K w3 w2;refine vS ?_
   refine vP ?_
   refine qE (fun w5 he=>?_);have H:Hid (jbY w5 bh ⟨Vs,layB Q n xs,n⟩ SZ):=Hd (c9.o.keeps he (fun h=>h));have b2:=Hd (d0.o.trans' he (fun _ _ h=>h.elim));clear he c9 d0;have q:Hid (HSt.Ok ⟨Vs,layB Q n xs,n⟩):=Hd ⟨by simp only;rw[jvW (by rw[a7.o,b1.o];omega),b1.o],hn⟩;have a8:=H.o.held q.o.1;have d2:w5.frozen? ⟨bh,72,none⟩=false:=Blk.frozen H.o;simp only at a8;have d3:r.data.toList=t.data.toList.drop j:=by
    rw[HR.o,dP,dZ]
    have:=Lib.size_eq t
    simp only[dO];rw[cD (by simp)]
   have J:jb1 s (t.data.toList.take (j+m))=jb1 ⟨Vs,Q,n⟩ xs:=by
    rw[List.take_add,jf4, <-a2.o,d1.o,d3]
   have O:r.extract m r.size=t.extract (j+m) t.size:=by
    have E:=c5.o;rw[HR.o]at E ⊢;rw[E,ByteArray.extract_extract]
    congr 1 <;> omega
   have d4:(r.extract m r.size).size=r.size - m:=by simp[cL]
   have d5:=Hd J;have d6:=Hd O;have d7:=Hd d4;clear d3 J O d4 HR a2 d1 HM e8;have d8:j+m<=t.size:=by have:=c5.o;omega
   by_cases hfull:n+m=64
   ·have hq:((n:Int)+(m:Int) == 64)=true:=by simp;omega
    have A:=jm0 xs ⟨Vs,Q,n⟩ a4.o (by simp only;rw[a7.o];exact hfull);simp only at A;have b3:=Hd A;have d9:=H.o.setHeld q.o.1 (n+m);have e0:=b2.o.setCell (p:=⟨bh,72,none⟩) (.inl rfl) (.int .i64 ((n+m:Nat):Int));have b4:=Hd d9;have a9:=Hd e0;clear A d9 e0 H b2;go_wp2_with fail
    rw[<-Int.natCast_add]
    obtain⟨w6,e1⟩:∃ x,x=w5.setCell ⟨bh,72,none⟩ (.int .i64 ((n+m:Nat):Int)):=⟨_,rfl⟩
    rw[<-e1]at b4 a9 ⊢;clear e1 a8 d2;refine (jBV w6 bh Vs (layB Q n xs) _ _ q.o.1 b4.o (b9.o.keeps a9.o (Ne.symm hbh)) hbh).mono ?_;rintro e w7 ⟨rfl,e2,e3⟩;have b5:Hid (jbY w7 bh ⟨mixW Vs (layB Q n xs),layB Q n xs,n+m⟩ SZ):=Hd e2;have e9:=Hd (a9.o.trans e3);clear e2 e3 b4 a9;have a8:=b5.o.held q.o.1;have d2:w7.frozen? ⟨bh,72,none⟩=false:=Blk.frozen b5.o;simp only at a8;go_wp2_with fail
    refine⟨⟨j+m,d8,by rw[d6.o],?_,e9.o.setCell (.inl rfl) _⟩,?_⟩
    ·rw[d5.o,b3.o];exact b5.o.setHeld q.o.1 0
    ·show (r.extract m r.size).size < r.size;rw[d7.o];omega
   ·have hq:((n:Int)+(m:Int) == 64)=false:=by simp;omega
    have A:=jm1 xs ⟨Vs,Q,n⟩ a4.o (by simp only;rw[a7.o];omega);simp only[a7.o]at A;have b3:=Hd A;clear A;go_wp2_with fail
    refine⟨⟨j+m,d8,by rw[d6.o],?_,b2.o.setCell (.inl rfl) _⟩,?_⟩
    ·rw[d5.o,b3.o];exact H.o.setHeld q.o.1 (n+m)
    ·show (r.extract m r.size).size < r.size;rw[d7.o];omega
  ·have f0:r=⟨#[]⟩:=by
    have:r.size=0:=vO
    obtain⟨⟨l⟩⟩:=r
    cases l with
    | nil=>rfl
    | cons x y=>exact absurd this (iA _)
   have f1:j=t.size:=vO
   subst f0;have a0:st=jb1 s t.data.toList:=by rw[a2.o,f1];have:=Lib.size_eq t;rw[cD vO]
   rw[a0]at HG;have HF:=Hd (b8.o.trans HK.o);clear b8 HK HR a2 a0 E c3;go_wp2_with fail
   go_ret
   exact⟨rfl,by rw[<-HZ.o];exact HG.o,HF.o⟩
def jqt(n:Nat):Nat:=(119 - n) % 64
def jhv(sz:UInt64)(i:Nat):vU:=UInt8.ofNat (sz.toNat * 8 % 18446744073709551616 / 2 ^ (56 - 8 * i))
def lenL(sz:UInt64):vN:=(List.range 8).map (jhv sz)
def jro(z:Nat)(sz:UInt64):vN:=128 ::(List.replicate z 0++lenL sz)
def jjf(z:Nat)(sz:UInt64)(k:Nat):vN:=128 ::(List.replicate z 0++((lenL sz).take k++List.replicate (8 - k) 0))
theorem jk4(sz:UInt64):(lenL sz).length=8:=by simp[lenL]
theorem juq(z:Nat)(sz:UInt64)(k:Nat)(hk:k<=8):(jjf z sz k).length=1+z+8:=by simp[jjf,jk4];omega
theorem jup(z:Nat)(sz:UInt64):jjf z sz 8=jro z sz:=by
 unfold jjf jro;rw[cD (by rw[jk4];omega)];simp
theorem jur(z:Nat)(sz:UInt64)(k:Nat)(hk:k < 8):(jjf z sz k).set (1+z+k) (jhv sz k)=jjf z sz (k+1):=by
 have e:=jk4 sz;have o:k < (lenL sz).length:=vO
 have q:(lenL sz)[k]=jhv sz k:=by simp[lenL]
 unfold jjf;rw[show 1+z+k=(z+k)+1 by omega,dB,fN _ _ (by simp)];simp only[List.length_replicate];rw[show z+k - z=k by omega,fN _ _ (by simp[e];omega)];rw[show 8 - k=(8 - (k+1))+1 by omega,fK,cS o,q];simp[e,gR (show k<=8 by omega)]
theorem jAD(sz:UInt64)(k:Nat):IntKind.u64.wrap ((sz.toNat:Int) * 8) / 2 ^ (56 - 8 * k) % 256=((jhv sz k).toNat:Int):=by
 unfold jhv;rw[gF];have h:∀ (a M p:Nat),((a:Int) * 8 % (M:Int)) / ((p:Nat):Int) % 256=((a * 8 % M / p % 256:Nat):Int):=by
  intro a M p;simp only[Int.natCast_emod,Int.natCast_ediv,Int.natCast_mul];rfl
 have e:=h sz.toNat 18446744073709551616 (2 ^ (56 - 8 * k));rw[Int.natCast_pow]at e;exact e
theorem jjH(l:vN)(k:Nat)(x:vU):(jaN l).set k (.int .u8 (x.toNat:Int))=jaN (l.set k x):=by unfold jaN;rw[iR]
theorem Tryz.uHash':(match Tryz.prog.underlying 156 with | some (.struct _)=>true | _=>false)=true:=vY
theorem Tryz.uHash:∃ fs,Tryz.prog.underlying 156=some (.struct fs):=by
 have h:=Tryz.uHash';cases hu:Tryz.prog.underlying 156 with
 | none=>rw[hu]at h;cases h
 | some d=>rw[hu]at h;cases d <;> first | exact⟨_,rfl⟩ | cases h
theorem Tryz.iHash:(Tryz.prog.info? 156).map (·.size)=some 74:=vY
theorem Tryz.newHash(w:vW):(Instr.alloc 156 true (.tuple #[])).run Tryz.prog w=.ok (.pointer (some ⟨w.heap.size,0,none⟩)) (w.alloc (.cells (jaP (List.replicate 8 0) (List.replicate 64 0) 0 0).toArray 156)):=vY
theorem jkW(ws:List UInt32)(B:vN)(n sz:Int):(jaP ws B n sz).length=ws.length+B.length+2:=by simp[jaP];omega
theorem jkX(ws:List UInt32)(B:vN)(n sz:Int):∀ v∈jaP ws B n sz,v.oneCell'=true:=by
 intro v e;unfold jaP at e;rcases bT.1 e with e | e
 ·rcases bT.1 e with e | e
  ·exact juF v e
  ·exact jjG _ v e
 ·simp only[bM,cH,or_false]at e;rcases e with rfl | rfl <;> rfl
def jqH(x:UInt32):vU:=UInt8.ofNat x.toNat
def jqk(x:UInt32):vN:=[jqH (shrW x 24),jqH (shrW x 16),jqH (shrW x 8),jqH x]
def outL(ws:List UInt32):vN:=ws.flatMap jqk
theorem Tryz.run_byteW(x:UInt32)(w:vW):(convert 151 5 (wv x)).run Tryz.prog w=.ok (.int .u8 ((jqH x).toNat:Int)) w:=by
 have h:∀ n:Int,(convert 151 5 (.int .u32 n)).run Tryz.prog w=.ok (.int .u8 (IntKind.u8.wrap n)) w:=fun n=>by kernel_rfl
 unfold wv jqH;rw[h,jrt,jie]
theorem Tryz.index8(V:W8)(k:Nat)(hk:k < 8)(x:UInt32)(hx:V.words[k]?=some x)(w:vW):(Instr.index 152 (.agg (V.words.map wv).toArray) (.int .i64 (k:Int))).run Tryz.prog w=.ok (wv x) w:=by
 obtain⟨a,b,c,d,e,f,g,h⟩:=V
 rcases (show k=0\/k=1\/k=2\/k=3\/k=4\/k=5\/k=6\/k=7 by omega)with rfl | rfl | rfl | rfl | rfl | rfl | rfl | rfl <;>(cases hx;kernel_rfl)
def jzQ(w:vW)(V:W8)(v i:vV)(wr:vW):Prop:=∃ k:Nat,k<=8/\i=.int .i64 k/\ORow 5 1 w wr v (4 * k) (jaN (outL (V.words.take k)))
def sumB(s:HSt)(sz:UInt64):vB:=⟨(outL (jb1 s (jro (jqt s.n) sz)).V.words).toArray⟩
def jBu(w:vW)(g z L:Nat)(sz:UInt64)(i:vV)(wr:vW):Prop:=∃ k:Nat,k<=8/\i=.int .i64 k/\ORow 5 1 w wr (.slice (some ⟨g,0,none⟩) L L) L (jaN (jjf z sz k))
theorem jB0(w:vW)(bh:Nat)(s:HSt)(hs:s.Ok)(sz:UInt64)(hB:jbY w bh s (sz.toNat:Int))(hc:jbN w) :
  vR 47 #[.pointer (some ⟨bh,0,none⟩)] w (.string (sumB s sz)):=by
 obtain⟨i0,hi,b7,b8,b9⟩:=info_parts Tryz.infoU8
 obtain⟨fs,e5⟩:=Tryz.uHash
 have c6:w.rangeAt bh 0 (jaP s.V.words s.B (s.n:Int) (sz.toNat:Int)):=fun j v hv=>by rw[cR];exact hB.cellL hv
 have c7:(jaP s.V.words s.B (s.n:Int) (sz.toNat:Int)).length=74:=by rw[jkW,hs.1];rfl
 have HB:=Hd hB;have HC:=Hd hc;have HS:=Hd hs;have c8:=Hd c6;have Z:=Hd c7;clear hB hc hs c6 c7;go_enter Tryz.func47,Tryz.ntmps47;go_wp2_with (first |(refine wpList_load_mid rfl 156 (.tmp 11) rfl bh 0 rfl _ _ c8.o e5 rfl (by rw[Z.o];exact Tryz.iHash) ?_) |(refine jah (cs:=jaP (List.replicate 8 0) (List.replicate 64 0) 0 0) Tryz.newHash rfl rfl ?_))
 intro W2 B2 E2;refine jae (old:=jaP (List.replicate 8 0) (List.replicate 64 0) 0 0) (vs:=jaP s.V.words s.B (s.n:Int) (sz.toNat:Int)) rfl rfl rfl rfl B2 (by rw[Z.o];rfl) (by rw[Z.o];exact Tryz.iHash) (jkX _ _ _ _) ?_;intro W3 B3 K3
 obtain⟨g3,a8⟩:∃ g,g=w.heap.size:=⟨_,rfl⟩
 have X3:=Hd (E2.trans' K3 (fun x hx e=>by omega):jag (fun _=>False) w W3);rw[<-a8]at B3 ⊢;have c9:g3 < W3.heap.size:=B3.lt;have g0:0 < g3:=by rw[a8];exact HC.o.lt
 have d0:Hid (jbY W3 g3 s (sz.toNat:Int)):=Hd B3;have d1:=jbY.held (HB.o.keeps X3.o (fun h=>h)) HS.o.1;have d2:=Hd (jbY.siz (HB.o.keeps X3.o (fun h=>h)) HS.o.1);clear B2 E2 B3 K3 c8 Z HB
 obtain⟨n,hn⟩:=vE s.n
 have f5:n < 64:=by rw[hn];exact HS.o.2
 rw[<-hn]at d1
 obtain⟨z,hz⟩:=vE (jqt n)
 have e6:(119 - (n:Int)).tmod 64=(z:Int):=by rw[hz];unfold jqt;rw[Int.tmod_eq_emod_of_nonneg vO];omega
 have f6:z < 64:=by rw[hz];unfold jqt;omega
 have HZ:=Hd hz;have HN:=Hd hn;clear hz hn
 obtain⟨L,hL⟩:=vE (1+z+8)
 have e7:1+(z:Int)+8=(L:Int):=vO
 have e8:(0:Int) < (L:Int):=vO
 have HL:=Hd hL;have e9:=Hd a8;have g1:L<=72:=vO
 clear a8 hL;have d3:=jfy (P:=Tryz.prog) W3 Tryz.uBytes hi b7 b8 rfl .i64 .i64 L (by rw[b9];omega) (by unfold maxLen;omega);have H:=ORow.lit (T:=5) (sz:=1) (List.replicate L (.int .u8 0)).toArray (n:=L) (ExtR W3) (by unfold maxLen;omega) (by simp)
 obtain⟨g,hg⟩:=vE W3.heap.size
 obtain⟨W4,d4⟩:∃ W,W=W3.alloc (.cells (List.replicate L (Value.int .u8 0)).toArray 5):=⟨_,rfl⟩
 rw[<-hg, <-d4]at d3 H;have g2:g3 < g:=by rw[hg];exact c9
 have g4:=Hd hg;clear hg d4 c9;have A:=H.own.cellAt 0 vO;have b4:=H.own.frozenAt 0;have d5:=Hd H;clear H;simp only at A;rw[bA (by simp;omega)]at A;go_wp2_with fail
 have E:=d5.o.set 0 (.int .u8 128);have e0:((List.replicate L (Value.int .u8 0)).toArray.toList).set 0 (.int .u8 128)=jaN (jjf z sz 0):=by
  have e1:jjf z sz 0=(List.replicate L (0:vU)).set 0 128:=by
   rw[HL.o,show 1+z+8=(z+8)+1 by omega,fK,dJ];unfold jjf;simp only[List.take_zero,cM,Nat.sub_zero,List.replicate_append_replicate]
  rw[e1, <-jjH]
  congr 1
  simp[jaN]
 rw[e0]at E
 obtain⟨W5,d6⟩:∃ W,W=W4.setCell ⟨g,0,none⟩ (.int .u8 128):=⟨_,rfl⟩
 rw[<-d6]at E ⊢;have d7:=Hd E;clear E e0 A b4 d5 d3 e6 e7 e8 d1 d6;go_loopw [25] (fun i wr=>jBu W3 g z L sz i wr) (fun i _=>8 - (intOf i).toNat)
 case atStart=>exact⟨0,by omega,rfl,d7.o⟩
 case round =>
  obtain⟨k,hk,rfl,hR⟩:=hrel
  have J:=Hd hR;clear hR
  by_cases hlt:k < 8
  ·have f7:=jaa d2.o J.o.ext
   have a7:=J.o.own.cellAt (1+z+k) (by have:=HL.o;omega);have g5:=J.o.own.frozenAt (1+z+k);rw[bA (by rw[bytesV_len,juq z sz k vO];omega)]at a7;have c0:(0:Int)<=1+(z:Int)+(k:Int):=vO
   have c1:1+(z:Int)+(k:Int) < (L:Int):=by have:=HL.o;omega
   have c2:(1+(z:Int)+(k:Int)).toNat=1+z+k:=vO
   have c3:(0:Int)<=56 - 8 * (k:Int):=vO
   have c4:(56 - 8 * (k:Int)).toNat=56 - 8 * k:=vO
   have c5:56 - 8 * (k:Int) < 64:=vO
   go_wp2_with fail
   rw[jAD];have a0:=J.o.set (1+z+k) (.int .u8 ((jhv sz k).toNat:Int));rw[jjH,jur z sz k hlt]at a0
   exact⟨⟨k+1,by omega,by go_num,a0⟩,by simp[intOf];omega⟩
  ·have b0:k=8:=vO
   subst b0;have q:=J.o.own;rw[jup]at q;have b1:=jbj wr Tryz.uBytes Tryz.uU8 Tryz.uStr q;have b2:=Hd J.o.ext;clear q d7 J d2;go_wp2_with fail
   rw[show ((8:Nat):Int)=(8:Int)from rfl];refine (juE wr g3 s HS.o sz ⟨(jro z sz).toArray⟩ (d0.o.keeps b2.o (fun h=>h)) (HC.o.ext (X3.o.trans b2.o)) vO).mono ?_;rintro e X ⟨rfl,d8,d9⟩
   obtain⟨S6,a9⟩:∃ x,x=jb1 s (jro z sz):=⟨_,rfl⟩
   have a1:jbY X g3 S6 ((sz+UInt64.ofNat (⟨(jro z sz).toArray⟩:vB).size).toNat:Int):=by rw[a9];exact d8
   have b5:S6.Ok:=by rw[a9];exact HS.o.all _
   have f0:Hid (Ext w X):=Hd ((X3.o.trans b2.o).trans' d9 (fun x hx e=>by have:=e9.o;omega));have f1:=Hd a9
   obtain⟨w7,a3,K,a4⟩:=run_make_own (P:=Tryz.prog) (w:=X) X.heap.size 42 5 i0 _ 1 Tryz.uBytes hi b7 b8 .i64 .i64 32 (by rw[b9];omega) (by unfold maxLen;omega) (bL _)
   have b6:(Instr.makeSlice 42 (.int .i64 0) (.int .i64 32)).run Tryz.prog X=.ok (.slice (some ⟨X.heap.size,0,none⟩) 0 32) w7:=by rw[<-a3];rfl
   have e2:Hid (ORow 5 1 X w7 (.slice (some ⟨X.heap.size,0,none⟩) 0 32) 0 []):=Hd (ORow.made X K a4);have e3:jbY w7 g3 S6 _:=a1.keeps e2.o.ext (fun h=>h);have a5:w7.rangeAt g3 0 (S6.V.words.map wv):=fun j v hv=>by
    rw[cR];exact e3.cellL (by unfold jaP;rw[bX,cW (bW.1 hv).1];exact hv)
   have O:=Hd a5
   obtain⟨V6,b3⟩:∃ v,v=S6.V:=⟨_,rfl⟩
   rw[<-b3]at O;have f2:=Hd b3;clear d8 a1 b5 a9 a3 K a4 e3 a5 d9 b3 b1;go_wp2_with (refine wpList_load_mid rfl 152 (.tmp 49) rfl g3 0 rfl _ _ O.o Tryz.uArr8 rfl Tryz.iArr8 ?_)
   clear b6 O HC d0;have f8:∀ (p:UInt32) (w:vW),(binOp .shr 151 (wv p) (.int .u64 24)).run Tryz.prog w=.ok (wv (shrW p 24)) w:=fun _ _=>jgZ 24 vI .u64;have f9:∀ (p:UInt32) (w:vW),(binOp .shr 151 (wv p) (.int .u64 16)).run Tryz.prog w=.ok (wv (shrW p 16)) w:=fun _ _=>jgZ 16 vI .u64;have g6:∀ (p:UInt32) (w:vW),(binOp .shr 151 (wv p) (.int .u64 8)).run Tryz.prog w=.ok (wv (shrW p 8)) w:=fun _ _=>jgZ 8 vI .u64;have g7:=Tryz.run_byteW;go_loopw [7,51] (fun v i wr=>jzQ X V6 v i wr) (fun _ i _=>8 - (intOf i).toNat)
   case atStart=>exact⟨0,by omega,rfl,e2.o⟩
   case round =>
    obtain⟨k,hk,rfl,hR⟩:=hrel
    obtain⟨a,c,rfl⟩:=hR.sl
    have J:=Hd hR;clear hR
    by_cases hlt:k < 8
    ·obtain⟨x,hx⟩:∃ x,V6.words[k]?=some x:=⟨_,bA (by simp[W8.words];omega)⟩
     have g8:=fun w=>Tryz.index8 V6 k hlt x hx w;have Q:outL (V6.words.take (k+1))=outL (V6.words.take k)++jqk x:=by
      unfold outL;rw[cE,hx];simp
     have f3:=Hd Q;clear hx Q;go_wp2_with (at_builtin;refine jba Tryz.sBytes (J.o.mono ((ExtR wr).alloc _)) (.tmp 54) (.tmp 66) rfl rfl rfl (ja3 (Blk.new wr _)) (news:=jaN (jqk x)) (jjG _) rfl rfl ?c1 ?c2 (fun v' w' r1 r2 r3=>?_))
     case c1=>unfold maxLen;omega
     case c2=>omega
     rw[<-jdG, <-f3.o,show 4 * k+4=4 * (k+1) by omega]at r1;have e4:=Hd r1;clear r1 r2 r3
     obtain⟨a2,c2,rfl⟩:=e4.o.sl
     go_wp2_with fail
     exact⟨⟨k+1,by omega,by go_num,e4.o⟩,by simp[intOf];omega⟩
    ·have b0:k=8:=vO
     subst b0;have q:=J.o.own;rw[cD (by simp[W8.words])]at q;have b1:=jbj wr Tryz.uBytes Tryz.uU8 Tryz.uStr q;have a6:(⟨(outL V6.words).toArray⟩:vB)=sumB s sz:=by
      unfold sumB;rw[f2.o,f1.o,HZ.o,HN.o]
     rw[a6]at b1;have f4:=Hd (f0.o.trans J.o.ext);clear q a6;go_wp2_with fail
     go_ret
     exact⟨rfl,f4.o⟩
def jn9:HSt:=⟨⟨0x6a09e667,0xbb67ae85,0x3c6ef372,0xa54ff53a,0x510e527f,0x9b05688c,0x1f83d9ab,0x5be0cd19⟩,List.replicate 64 0,0⟩
theorem jvO:jn9.Ok:=⟨rfl,by decide⟩
def shaL(l:vN):vB:=sumB (jb1 jn9 l) (UInt64.ofNat l.length)
def shaB(s:vB):vB:=shaL s.data.toList
theorem jBW(w:vW):vQ 45 #[] w fun e w'=>e=.returned (.pointer (some ⟨w.heap.size,0,none⟩))/\jbY w' w.heap.size jn9 0/\Ext w w':=by
 go_enter Tryz.func45,Tryz.ntmps45;go_wp2_with fail
 go_ret
 refine⟨rfl,?_,(ExtR w).alloc _⟩
 exact (congrArg (fun c=>Blk (w.alloc (.cells c 156)) w.heap.size (.cells (jaP jn9.V.words jn9.B (jn9.n:Int) 0).toArray 156)) vY).mp (Blk.new w _)
def jBm(w:vW)(g:Nat)(I:HSt)(xs:vM)(i:vV)(wr:vW):Prop:=∃ k:Nat,k<=xs.length/\i=.int .i64 k/\jbY wr g (jb1 I (catB (xs.take k)).data.toList) ((UInt64.ofNat (catB (xs.take k)).data.toList.length).toNat:Int)/\jag (fun x=>x=g) w wr
theorem RdS.slice{w:vW}{v:vV}{xs:vM}(h:RdS w v xs):∃ a c,v=.slice a xs.length c/\∀ (j:Nat) x,xs[j]?=some x->∃ b o,a=some ⟨b,o,none⟩/\w.cell? ⟨b,o+j,none⟩=some (.string x):=by
 rcases h with⟨a,c,rfl,rfl⟩ |⟨b,o,c,rfl,h2,h3,h4⟩
 ·exact⟨a,c,rfl,fun j x e=>by simp at e⟩
 ·exact⟨some ⟨b,o,none⟩,c,rfl,fun j x e=>⟨b,o,rfl,h4 j x e⟩⟩
theorem jsc(xs:vM)(k:Nat)(x:vB)(hx:xs[k]?=some x):(catB (xs.take (k+1))).data.toList=(catB (xs.take k)).data.toList++x.data.toList:=by
 unfold catB;rw[cE,hx];simp
theorem of_t(w:vW)(v:vV)(xs:vM)(hlen:xs.length<=1000000)(hr:RdS w v xs)(hc:jbN w) :
  vR 24 #[v] w (.string (shaB (catB xs))):=by
 obtain⟨a,c,rfl,J⟩:=hr.slice
 have a4:=Hd J;have HC:=Hd hc;clear J hc hr
 obtain⟨I,hI⟩:=vE jn9
 have K:I.Ok:=by rw[hI];exact jvO
 have O:=Hd K;have HI:=Hd hI;clear hI K;go_enter Tryz.func24,Tryz.ntmps24;go_wp2_with fail
 refine (jBW w).mono ?_;rintro e w1 ⟨rfl,z,Q⟩
 obtain⟨g,hg⟩:=vE w.heap.size
 rw[<-hg]at z ⊢;rw[<-HI.o]at z;have a5:=Hd z;have A:=Hd Q;have X:0≠g:=by have:=HC.o.lt;omega
 have HG:=Hd hg;clear z Q hg;go_wp2_with fail
 go_loopw [9] (fun i wr=>jBm w1 g I xs i wr) (fun i _=>xs.length - (intOf i).toNat)
 case atStart=>exact⟨0,by omega,rfl,by simpa [catB,jb1]using a5.o,jag.refl _ _⟩
 case round =>
  obtain⟨k,hk,rfl,H,hK⟩:=hrel
  have HH:=Hd H;have HK:=Hd hK;clear H hK
  by_cases hlt:k < xs.length
  ·obtain⟨x,hx⟩:∃ x,xs[k]?=some x:=⟨_,bA hlt⟩
   obtain⟨b,o,rfl,q⟩:=a4.o k x hx
   have a6:b≠g:=by
    have:b < w.heap.size:=fG w _ q
    have:=HG.o;omega
   have a7:wr.cell? ⟨b,o+k,none⟩=some (.string x):=by
    have h1:=jaa q A.o;have Z:b < w1.heap.size:=fG w1 _ h1;have e:=HK.o.block b Z a6;unfold World.cell? at *;rw[e];exact h1
   have a0:=jsc xs k x hx;have E:=Hd a0;clear a0 q hx;go_wp2_with fail
   refine (juE wr g _ (O.o.all _) _ x HH.o ((HC.o.ext A.o).keeps HK.o X) (Ne.symm X)).mono ?_;rintro e w2 ⟨rfl,a1,a2⟩;have a8:=Hd a1;have a9:=Hd (HK.o.trans a2);clear a1 a2 a7;go_wp2_with fail
   refine⟨⟨k+1,by omega,by go_num,?_,a9.o⟩,by simp[intOf];omega⟩
   have h:=a8.o;rw[<-jf4, <-E.o]at h;rw[E.o,bF,UInt64.ofNat_add];rw[E.o,Lib.size_eq]at h;exact h
  ·have b0:k=xs.length:=vO
   subst b0;have H:=HH.o;rw[cF]at H;have b1:=Hd H;clear H HH;have a3:Hid (Ext w wr):=Hd (A.o.trans' HK.o (fun x hx e=>by have:=HG.o;omega));go_wp2_with fail
   refine vH (jB0 wr g _ (O.o.all _) _ b1.o (HC.o.ext a3.o)) fun w2 b2=>?_;have b3:=Hd (a3.o.trans b2);go_wp2_with fail
   go_ret
   refine⟨?_,b3.o⟩
   rw[HI.o];unfold shaB shaL;rfl
theorem jhI{a b:vB}(h:a.toList=b.toList):a=b:=by
 rw[bN,bN]at h
 obtain⟨⟨l⟩⟩:=a;obtain⟨⟨m⟩⟩:=b
 simp at h;rw[h]
theorem jc1(a:vB):catB [a]=a:=by
 obtain⟨⟨l⟩⟩:=a;simp[catB]
theorem jyV{W w':vW}{x:vB}{T:TypeId}(h:Ext (W.alloc (.cells #[.string x] T)) w'):RdS w' (.slice (some ⟨W.heap.size,0,none⟩) 1 1) [x]:=by
 have e:Blk w' W.heap.size (.cells #[.string x] T):=(Blk.new W _).keeps h (fun h=>h);exact .inr ⟨W.heap.size,0,1,rfl,e.lt,bL _,fun j y o=>by
  rcases j with _ | j
  ·cases o;exact e.cell vF
  ·simp at o⟩
theorem jwg(ws:List UInt32):(outL ws).length=4 * ws.length:=by
 unfold outL;induction ws with
 | nil=>rfl
 | cons x r ih=>rw[cG,bF,ih];simp[jqk];omega
theorem jun(s:HSt)(sz:UInt64):(sumB s sz).size=32:=by
 rw[Lib.size_eq];unfold sumB;rw[List.toList_toArray,jwg];rfl
theorem jbb(s:vB):(shaB s).size=32:=jun _ _
def refB(s:vB):vB:=if s.size < 32 then s else jaz (shaB s)
theorem jyX(w:vW)(s:vB)(hc:jbN w):vR 131 #[.string s] w (.string (refB s)):=by
 have J:=Hd hc;clear hc
 by_cases hlt:s.size < 32
 ·have K:(s.size:Int) < 32:=vO
  go_enter Tryz.func131,Tryz.ntmps131;go_wp2_with fail
  go_ret
  exact⟨by unfold refB;rw[if_pos hlt];rfl,ExtR w⟩
 ·have K:¬(s.size:Int) < 32:=vO
  go_enter Tryz.func131,Tryz.ntmps131;go_wp2_with fail
  refine vH (of_t _ _ [s] (by simp) (jyV (ExtR _)) (J.o.ext ((ExtR w).alloc _))) fun w1 z=>?_;rw[jc1];have A:Hid (Ext w w1):=Hd (((ExtR w).alloc _).trans z)
  obtain⟨h,q⟩:=vE (shaB s)
  have e:h.size<=1000000000:=by rw[q,jbb];omega
  rw[<-q];have O:=Hd q;clear q;go_wp2_with fail
  refine vH (jcv w1 h e) fun Q E=>?_;have H:=Hd (A.o.trans E);clear e;go_wp2_with fail
  go_ret
  exact⟨by unfold refB;rw[if_neg hlt, <-O.o];rfl,H.o⟩
def jeF(s:vB)(r:Bool × Nat × Nat):Option vB:=if r.1=false/\r.2.1+r.2.2=s.size then some (s.extract r.2.1 (r.2.1+r.2.2))else none
def optV:Option vB->vV
 | some x=>.tuple #[.string x,.bool true]
 | none=>.tuple #[.string ⟨#[]⟩,.bool false]
theorem jiu{s:vB}{r:Bool × Nat × Nat}(h:cutN s=some r):r.2.1+r.2.2<=s.size:=by
 unfold cutN at h
 by_cases h0:0 < s.size
 ·rw[dif_pos h0]at h
  simp only at h
  by_cases h1:s[0].toNat < 128
  ·rw[if_pos h1]at h
   obtain rfl:=bQ h;simp only;omega
  ·rw[if_neg h1]at h
   obtain⟨o,e⟩:∃ o:Bool × Nat,o=if s[0].toNat < 192 then (false,s[0].toNat - 128)else (true,s[0].toNat - 192):=⟨_,rfl⟩
   rw[<-e]at h;clear e
   obtain⟨l,m⟩:=o
   simp only at h
   by_cases h3:m<=55
   ·rw[if_pos h3]at h
    split at h
    ·rename_i hc;obtain rfl:=bQ h;exact hc.1
    ·cases h
   ·rw[if_neg h3]at h
    split at h
    ·split at h
     ·rename_i hc;obtain rfl:=bQ h;exact hc
     ·cases h
    ·cases h
 ·rw[dif_neg h0]at h;cases h
theorem jhy(w:vW)(s:vB)(r:Bool × Nat × Nat)(hs:s.size<=1000000000)(h:cutN s=some r):vR 80 #[.string s] w (optV (jeF s r)):=by
 have q:=jiu h;go_enter Tryz.func80,Tryz.ntmps80;go_wp2_with fail
 refine vH (je8 w s r hs h) fun w1 z=>?_
 obtain⟨x,A⟩:=vE (s.extract r.2.1 (r.2.1+r.2.2))
 obtain⟨y,E⟩:∃ x,x=s.extract (r.2.1+r.2.2) s.size:=⟨_,rfl⟩
 have e:y.size=s.size - (r.2.1+r.2.2):=by rw[E];simp[cL]
 rw[<-A, <-E]
 obtain⟨l,p⟩:=r
 simp only at e q;have J:=Hd A;clear h A E hs;simp only;cases l with
 | true =>
  go_wp2_with fail
  exact bodyPost_ret (v:=optV none) vY rfl ⟨by unfold jeF;rw[if_neg (by simp)],z.o⟩
 | false =>
  by_cases he:p.1+p.2=s.size
  ·have H:y=⟨#[]⟩:=by
    have:y.size=0:=vO
    obtain⟨⟨l⟩⟩:=y
    cases l with
    | nil=>rfl
    | cons x y=>exact absurd this (iA _)
   subst H;clear e;go_wp2_with fail
   exact bodyPost_ret (v:=optV (some x)) vY rfl ⟨by unfold jeF;rw[if_pos ⟨rfl,he⟩,J.o],z.o⟩
  ·have K:=ja4 (s:=y) vO
   clear e;go_wp2_with fail
   exact bodyPost_ret (v:=optV none) vY rfl ⟨by unfold jeF;rw[if_neg (by simp[he])],z.o⟩
def jfm(s:vB)(r:Bool × Nat × Nat):Option vB:=(jeF s r).filter (fun x=>x.size=32)
theorem jdE(w:vW)(s:vB)(r:Bool × Nat × Nat)(hs:s.size<=1000000000)(h:cutN s=some r):vR 51 #[.string s] w (optV (jfm s r)):=by
 go_enter Tryz.func51,Tryz.ntmps51;go_wp2_with fail
 refine vH (jhy w s r hs h) fun w1 e=>?_;have hb:jfm s r=(jeF s r).filter (fun x=>x.size=32):=rfl
 obtain⟨o,A⟩:=vE (jeF s r)
 rw[<-A]at hb ⊢;have q:=Hd hb;clear h hs A hb;cases o with
 | none =>
  unfold optV;simp only;go_wp2_with fail
  exact bodyPost_ret (v:=optV none) vY rfl ⟨by rw[q.o];rfl,e.o⟩
 | some x =>
  unfold optV;simp only
  by_cases hx:x.size=32
  ·have E:((x.size:Int) == 32)=true:=by simp;omega
   have z:(x.size:Int)=32:=vO
   go_wp2_with fail
   exact bodyPost_ret (v:=optV (some x)) vY rfl ⟨by rw[q.o];simp[Option.filter,hx],e.o⟩
  ·have E:((x.size:Int) == 32)=false:=by simp;omega
   have z:¬(x.size:Int)=32:=vO
   go_wp2_with fail
   exact bodyPost_ret (v:=optV none) vY rfl ⟨by rw[q.o];simp[Option.filter,hx],e.o⟩
end Go.Proofs.YtepbencaoiompaaGreatDoor
