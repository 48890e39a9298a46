/- Lemmas; each is under no condition but those that it states. -/
import Derived.Test.YtfjmkebdhojanaaGreatDoorPt7
import Derived.Lib.LazyBuf
namespace Go.Proofs.YtfjmkebdhojanaaGreatDoor
set_option linter.unusedSimpArgs false
set_option linter.unusedVariables false
set_option maxRecDepth 100000
set_option maxHeartbeats 16000000
open Go Go.RowKit
theorem jgh{P:Program}(w:vW)(dT sT ty elem:TypeId)(b o dLen dCap:Nat)(t:vB)(m:Nat)(hm:m=Nat.min t.size dLen)
  (hu:P.underlying dT=some (.slice elem)) (hz:∀ w,(Go.sizeOf elem).run P w=.ok 1 w)
  (hc:∀ j,j < m->(w.cell? ⟨b,o+j,none⟩).isSome=true) (hf:∀ j,j < m->w.frozen? ⟨b,o+j,none⟩=false) :
  (Builtin.copy_ #[dT,sT] ty #[.slice (some ⟨b,o,none⟩) dLen dCap,.string t]).run P w=.ok (goInt m) (w.setCells b o (jaK (t.data.toList.take m))):=by
 have A:(jaK (t.data.toList.take m)).length=m:=by
  have:=Lib.size_eq t
  have E:Nat.min t.size dLen=min t.size dLen:=rfl;simp[jaK];rw[E]at hm;omega
 have e:=run_storeCells_cells (P:=P) b o (jaK (t.data.toList.take m)) 0 w (by rw[A];simpa using hc) (by rw[A];simpa using hf) (by
  intro v H
  obtain⟨x,_,rfl⟩:=bK.1 H
  rfl)
 simp[Builtin.copy_,run_underlying hu,Builtin.lenOf,Builtin.firstCells,hz, <-hm];unfold jaK at e;rw[jJ]at e;rw[e];simp[jaK,jJ]
structure HSt where
 V:W8
 B:vN
 n:Nat
def HSt.Ok(s:HSt):Prop:=s.B.length=64/\s.n < 64
def jiY(s:HSt)(x:vU):HSt:=if s.n+1=64 then ⟨mixW s.V (s.B.set s.n x),s.B.set s.n x,0⟩else ⟨s.V,s.B.set s.n x,s.n+1⟩
def jbr(s:HSt)(l:vN):HSt:=l.foldl jiY s
theorem HSt.Ok.push{s:HSt}(h:s.Ok)(x:vU):(jiY s x).Ok:=by
 obtain⟨e,o⟩:=h
 unfold jiY HSt.Ok;split <;> simp[e] <;> omega
theorem HSt.Ok.all{s:HSt}(h:s.Ok)(l:vN):(jbr s l).Ok:=by
 unfold jbr;induction l generalizing s with
 | nil=>exact h
 | cons x r ih=>exact ih (h.push x)
theorem jcI(s:HSt)(l r:vN):jbr s (l++r)=jbr (jbr s l) r:=dU
def layB(B:vN)(n:Nat)(xs:vN):vN:=B.take n++xs++B.drop (n+xs.length)
theorem jvy{B:vN}{n:Nat}{xs:vN}(h:n+xs.length<=B.length):(layB B n xs).length=B.length:=by simp[layB];omega
theorem jiK{B:vN}{n:Nat}(x:vU)(xs:vN)(h:n+1+xs.length<=B.length):layB (B.set n x) (n+1) xs=layB B n (x :: xs):=by
 unfold layB;have e:(B.set n x).take (n+1)=B.take n++[x]:=by
  rw[List.set_eq_take_append_cons_drop,if_pos vO,List.take_append,bN (by simp;omega)];simp[jA (show n<=B.length by omega)]
 have o:(B.set n x).drop (n+1+xs.length)=B.drop (n+(x :: xs).length):=by
  rw[List.drop_set_of_lt vO]
  congr 1;simp;omega
 rw[e,o];simp
theorem jhI(xs:vN):∀ (s:HSt),s.Ok->s.n+xs.length < 64->jbr s xs=⟨s.V,layB s.B s.n xs,s.n+xs.length⟩:=by
 induction xs with
 | nil=>intro s h _;simp[jbr,layB]
 | cons x r ih =>
  intro s h o;simp only[bF]at o;have e:jiY s x=⟨s.V,s.B.set s.n x,s.n+1⟩:=by unfold jiY;rw[if_neg vO]
  show jbr (jiY s x) r=_;rw[ih _ (h.push x) (by rw[e];simp only;omega),e];simp only[bF];rw[jiK x r (by rw[h.1];omega),show s.n+1+r.length=s.n+(r.length+1) by omega]
theorem jhH(xs:vN):∀ (s:HSt),s.Ok->s.n+xs.length=64->jbr s xs=⟨mixW s.V (layB s.B s.n xs),layB s.B s.n xs,0⟩:=by
 induction xs with
 | nil=>intro s h o;exact absurd h.2 (by simp at o;omega)
 | cons x r ih =>
  intro s h o;simp only[bF]at o;show jbr (jiY s x) r=_
  by_cases hr:r.length=0
  ·have A:r=[]:=bE hr
   subst A;have e:jiY s x=⟨mixW s.V (s.B.set s.n x),s.B.set s.n x,0⟩:=by unfold jiY;rw[if_pos (by simp at o;omega)]
   rw[e]
   have:=jiK (B:=s.B) (n:=s.n) x [] (by rw[h.1];simp at o ⊢;omega)
   rw[<-this];simp[jbr,layB]
  ·have e:jiY s x=⟨s.V,s.B.set s.n x,s.n+1⟩:=by unfold jiY;rw[if_neg vO]
   rw[ih _ (h.push x) (by rw[e];simp only;omega),e];simp only;rw[jiK x r (by rw[h.1];omega)]
def jbM(w:vW)(b:Nat)(s:HSt)(sz:Int):Prop:=Blk w b (.cells (jaR s.V.words s.B (s.n:Int) sz).toArray 198)
theorem jcJ(v:W8):v.words.length=8:=rfl
theorem jbM.held{w:vW}{b:Nat}{s:HSt}{sz:Int}(h:jbM w b s sz)(hs:s.B.length=64):w.cell? ⟨b,72,none⟩=some (.int .i64 (s.n:Int)):=h.cellL (by
 unfold jaR;rw[cQ (by simp[jcJ,jaK,hs])];simp[jcJ,jaK,hs])
theorem jbM.siz{w:vW}{b:Nat}{s:HSt}{sz:Int}(h:jbM w b s sz)(hs:s.B.length=64):w.cell? ⟨b,73,none⟩=some (.int .u64 sz):=h.cellL (by
 unfold jaR;rw[cQ (by simp[jcJ,jaK,hs])];simp[jcJ,jaK,hs])
theorem jbM.setHeld{w:vW}{b:Nat}{s:HSt}{sz:Int}(h:jbM w b s sz)(hs:s.B.length=64)(n:Nat):jbM (w.setCell ⟨b,72,none⟩ (.int .i64 (n:Int))) b ⟨s.V,s.B,n⟩ sz:=by
 have:=h.set_same (i:=72) (.int .i64 (n:Int))
 unfold jbM;unfold jaR at this ⊢;rw[gH,fK _ _ (by simp[jcJ,jaK,hs])]at this;simpa [jcJ,jaK,hs]using this
theorem jbM.setSiz{w:vW}{b:Nat}{s:HSt}{sz:Int}(h:jbM w b s sz)(hs:s.B.length=64)(z:Int):jbM (w.setCell ⟨b,73,none⟩ (.int .u64 z)) b s z:=by
 have:=h.set_same (i:=73) (.int .u64 z)
 unfold jbM;unfold jaR at this ⊢;rw[gH,fK _ _ (by simp[jcJ,jaK,hs])]at this;simpa [jcJ,jaK,hs]using this
theorem jbM.lay{w:vW}{b:Nat}{s:HSt}{sz:Int}(h:jbM w b s sz)(hs:s.B.length=64)(xs:vN)(hx:s.n+xs.length<=64):jbM (w.setCells b (8+s.n) (jaK xs)) b ⟨s.V,layB s.B s.n xs,s.n⟩ sz:=by
 have:=Blk.setCells (jaK xs) (8+s.n) w _ h (by simp[jaR,jcJ,jaK,hs];omega)
 unfold jbM;have e:(jaR s.V.words s.B (s.n:Int) sz).take (8+s.n)++jaK xs++(jaR s.V.words s.B (s.n:Int) sz).drop (8+s.n+(jaK xs).length)=jaR s.V.words (layB s.B s.n xs) (s.n:Int) sz:=by
  unfold jaR layB;have o:(s.V.words.map wv).length=8:=rfl;have A:(jaK s.B).length=64:=by simp[jaK,hs]
  have E:(jaK xs).length=xs.length:=by simp[jaK]
  rw[cE (s.V.words.map wv),List.take_append,List.drop_append,o,E];rw[bN (by rw[o];omega),gG (l:=s.V.words.map wv) (by rw[o];omega)];rw[show 8+s.n - 8=s.n by omega,show 8+s.n+xs.length - 8=s.n+xs.length by omega];rw[gL (by rw[A];omega),List.drop_append_of_le_length (by rw[A];omega)];simp[jaK,jJ,List.map_drop]
 rw[e]at this;exact this
theorem jse{P:Program}{a:Act}{w:vW}{v:vV}{p:Addr}{d:Option Tmp}{t ty:TypeId}{x:Operand}{pos:String}{af:Array Edge}{g:Option (Nat × Bool)}(h:(Instr.loadAt t (.pointer (some p))).run P w=.ok v w)(hx:a.eval x=.pointer (some p)) :
  (execOp a.eval ⟨d,.load t x,ty,pos,af,g⟩).run P w=.ok (.value v) w:=by
 simp only[execOp,hx,cA,h,Result.andThen,cO]
def jAx(v:vV):Nat:=match v with | .string t=>t.size | _=>0
def jA8(w:vW)(bh:Nat)(s:HSt)(sz:Int)(t:vB)(v:vV)(wr:vW):Prop:=∃ j:Nat,j<=t.size/\v=.string (t.extract j t.size)/\jbM wr bh (jbr s (t.data.toList.take j)) sz/\jae (fun x=>x=bh) w wr
theorem juk(sz:UInt64)(n:Nat):IntKind.u64.wrap ((sz.toNat:Int)+IntKind.u64.wrap (n:Int))=((sz+UInt64.ofNat n).toNat:Int):=by
 rw[UInt64.toNat_add,UInt64.toNat_ofNat'];show ((sz.toNat:Int)+(n:Int) % (18446744073709551616:Int)) % (18446744073709551616:Int)=_;simp only[Int.natCast_emod,Int.natCast_add];rfl
theorem Tryz.uSlU8:Tryz.prog.underlying 120=some (.slice 5):=vY
theorem Tryz.szU8(w:vW):(Go.sizeOf 5).run Tryz.prog w=.ok 1 w:=vY
theorem Tryz.uInt:Tryz.prog.underlying 3=some (.int .i64):=vY
theorem jul(w:vW)(bh:Nat)(s:HSt)(hs:s.Ok)(sz:UInt64)(t:vB)(hB:jbM w bh s (sz.toNat:Int))(hc:jb0 w)(hbh:bh≠0) :
  vQ 71 #[.pointer (some ⟨bh,0,none⟩),.string t] w fun e w'=>e=.returned (.pointer (some ⟨bh,0,none⟩))/\jbM w' bh (jbr s t.data.toList) ((sz+UInt64.ofNat t.size).toNat:Int)/\jae (fun x=>x=bh) w w':=by
 have e4:=hB.siz hs.1;have e5:w.frozen? ⟨bh,73,none⟩=false:=hB.frozen;have HB:=Hd hB;have HC:=Hd hc;have HS:=Hd hs;clear hB hc hs;go_enter Tryz.func71,Tryz.ntmps71;go_wp2_with fail
 have hz:=juk sz t.size
 obtain⟨SZ,b6⟩:∃ z,z=IntKind.u64.wrap ((sz.toNat:Int)+IntKind.u64.wrap (t.size:Int)):=⟨_,rfl⟩
 rw[<-b6]at hz ⊢;have b0:=HB.o.setSiz HS.o.1 SZ;have Z:=(jae.refl (fun x=>x=bh) w).setCell (p:=⟨bh,73,none⟩) (.inl rfl) (.int .u64 SZ)
 obtain⟨w1,b7⟩:=vE (w.setCell ⟨bh,73,none⟩ (.int .u64 SZ))
 rw[<-b7]at b0 Z ⊢;have e6:=Hd b0;have b8:=Hd Z;have HZ:=Hd hz;have b9:=Hd (HC.o.keeps Z (Ne.symm hbh));clear b0 Z b7 hz b6 e4 e5 HB HC
 obtain⟨wt,c0⟩:∃ x,x=IntKind.u64.wrap (t.size:Int):=⟨_,rfl⟩
 rw[<-c0];clear c0;go_loopw [1] (fun v wr=>jA8 w1 bh s SZ t v wr) (fun v _=>jAx v)
 case atStart=>exact⟨0,by omega,by rw[show t.extract 0 t.size=t by simp],e6.o,jae.refl _ _⟩
 case round =>
  obtain⟨j,hj,rfl,hG,hK⟩:=hrel
  have HK:=Hd hK;have e7:=Hd (b9.o.keeps hK (Ne.symm hbh))
  obtain⟨st,a1⟩:=vE (jbr s (t.data.toList.take j))
  have c3:st.Ok:=by rw[a1];exact HS.o.all _
  rw[<-a1]at hG;have HG:=Hd hG;have a2:=Hd a1
  obtain⟨r,hr⟩:=vE (t.extract j t.size)
  have H:r.size=t.size - j:=by rw[hr];simp[cJ]
  have HR:=Hd hr;rw[<-hr];clear hG a1 hK hr
  by_cases hlt:j < t.size
  ·have f2:=jbe (s:=r) vO
   obtain⟨Vs,X,n⟩:=st
   obtain⟨a3,hn⟩:=c3
   simp only at a3 hn
   obtain⟨m,hm⟩:=vE (Nat.min r.size (64 - n))
   have c4:m=min r.size (64 - n):=hm;have f3:0 < m:=vO
   have f4:m<=r.size:=vO
   have f5:n+m<=64:=vO
   have a4:Hid (HSt.Ok ⟨Vs,X,n⟩):=Hd ⟨a3,hn⟩;have c1:(n:Int)<=64:=vO
   have c2:(64 - (n:Int)).toNat=64 - n:=vO
   have c5:=Hd H;have HM:=Hd hm;have e8:=Hd c4;have b1:=Hd a3;clear H hm c4 a3;go_wp2_with fail
   refine jay [0,1,2,3,4,5,8,6,7,9,10] [6,9] Ext ExtR ExtT vY vY vY ?_
   refine vP ?_
   refine qA _ (.pointer (some ⟨bh,0,none⟩)) rfl (fun w1=>by kernel_rfl) ?_;refine vS ?_;iterate 2 refine vP ?_
   refine qA _ (.pointer (some ⟨bh,0,none⟩)) rfl (fun w1=>by kernel_rfl) ?_;refine vS ?_;iterate 2 refine vP ?_
   refine qH _ rfl (fun w2 he K hK=>?_);have X2:=(jai wr).trans he;refine jcd (w':=w2) (jse (jab Tryz.uInt rfl (jaa (HG.o.held a4.o.1) X2)) vY) (hK _ _ ?_);clear hK K he;refine vS ?_
   refine vP ?_
   refine qH _ rfl (fun w3 he K hK=>?_);have X3:=X2.trans he
   obtain⟨xs,a5⟩:∃ x,x=r.data.toList.take m:=⟨_,rfl⟩
   have c6:xs.length=m:=by rw[a5];have:=Lib.size_eq r;simp;omega
   have G1:=HG.o.keeps X3 (fun h=>h);have K1:=HK.o.trans' X3 (fun _ _ h=>h.elim);have c7:(jaR Vs.words X (n:Int) SZ).length=74:=by simp[jaR,jcJ,jaK,b1.o]
   have a6:=jgh (P:=Tryz.prog) w3 120 9 3 5 bh (8+n) (64 - n) (64 - n) r m HM.o Tryz.uSlU8 Tryz.szU8
    (by intro j hj;rw[Blk.cellL G1 (i:=8+n+j) (bA (by rw[c7];omega))];rfl) (by intro j hj;exact Blk.frozen G1)
   rw[<-a5]at a6;have G2:=jbM.lay G1 a4.o.1 xs (by simp only;omega);have K2:=K1.trans (jae.oneSetCells bh (jaK xs) (8+n) w3);simp only at G2
   obtain⟨w4,c8⟩:∃ x,x=w3.setCells bh (8+n) (jaK xs):=⟨_,rfl⟩
   rw[<-c8]at a6 G2 K2;have c9:=Hd G2;have d0:=Hd K2;have d1:=Hd a5;have a7:=Hd c6;clear G1 K1 G2 K2 c8 he X2 X3 HG HK c7 a5 c6 e7;refine jcd (w':=w4) (jl6 a6 vY) (hK _ _ ?_);clear a6 hK K w3 w2;refine vS ?_
   refine vP ?_
   refine qE (fun w5 he=>?_);have J:Hid (jbM w5 bh ⟨Vs,layB X n xs,n⟩ SZ):=Hd (c9.o.keeps he (fun h=>h));have b2:=Hd (d0.o.trans' he (fun _ _ h=>h.elim));clear he c9 d0;have A:Hid (HSt.Ok ⟨Vs,layB X n xs,n⟩):=Hd ⟨by simp only;rw[jvy (by rw[a7.o,b1.o];omega),b1.o],hn⟩;have a8:=J.o.held A.o.1;have d2:w5.frozen? ⟨bh,72,none⟩=false:=Blk.frozen J.o;simp only at a8;have d3:r.data.toList=t.data.toList.drop j:=by
    rw[HR.o,dB,fM]
    have:=Lib.size_eq t
    simp only[dZ];rw[bN (by simp)]
   have O:jbr s (t.data.toList.take (j+m))=jbr ⟨Vs,X,n⟩ xs:=by
    rw[List.take_add,jcI, <-a2.o,d1.o,d3]
   have Q:r.extract m r.size=t.extract (j+m) t.size:=by
    have H:=c5.o;rw[HR.o]at H ⊢;rw[H,ByteArray.extract_extract]
    congr 1 <;> omega
   have d4:(r.extract m r.size).size=r.size - m:=by simp[cJ]
   have d5:=Hd O;have d6:=Hd Q;have d7:=Hd d4;clear d3 O Q d4 HR a2 d1 HM e8;have d8:j+m<=t.size:=by have:=c5.o;omega
   by_cases hfull:n+m=64
   ·have hq:((n:Int)+(m:Int) == 64)=true:=by simp;omega
    have E:=jhH xs ⟨Vs,X,n⟩ a4.o (by simp only;rw[a7.o];exact hfull);simp only at E;have b3:=Hd E;have d9:=J.o.setHeld A.o.1 (n+m);have e0:=b2.o.setCell (p:=⟨bh,72,none⟩) (.inl rfl) (.int .i64 ((n+m:Nat):Int));have b4:=Hd d9;have a9:=Hd e0;clear E d9 e0 J b2;go_wp2_with fail
    rw[<-Int.natCast_add]
    obtain⟨w6,e1⟩:∃ x,x=w5.setCell ⟨bh,72,none⟩ (.int .i64 ((n+m:Nat):Int)):=⟨_,rfl⟩
    rw[<-e1]at b4 a9 ⊢;clear e1 a8 d2;refine (jBw w6 bh Vs (layB X n xs) _ _ A.o.1 b4.o (b9.o.keeps a9.o (Ne.symm hbh)) hbh).mono ?_;rintro e w7 ⟨rfl,e2,e3⟩;have b5:Hid (jbM w7 bh ⟨mixW Vs (layB X n xs),layB X n xs,n+m⟩ SZ):=Hd e2;have e9:=Hd (a9.o.trans e3);clear e2 e3 b4 a9;have a8:=b5.o.held A.o.1;have d2:w7.frozen? ⟨bh,72,none⟩=false:=Blk.frozen b5.o;simp only at a8;go_wp2_with fail
    refine⟨⟨j+m,d8,by rw[d6.o],?_,e9.o.setCell (.inl rfl) _⟩,?_⟩
    ·rw[d5.o,b3.o];exact b5.o.setHeld A.o.1 0
    ·show (r.extract m r.size).size < r.size;rw[d7.o];omega
   ·have hq:((n:Int)+(m:Int) == 64)=false:=by simp;omega
    have E:=jhI xs ⟨Vs,X,n⟩ a4.o (by simp only;rw[a7.o];omega);simp only[a7.o]at E;have b3:=Hd E;clear E;go_wp2_with fail
    refine⟨⟨j+m,d8,by rw[d6.o],?_,b2.o.setCell (.inl rfl) _⟩,?_⟩
    ·rw[d5.o,b3.o];exact J.o.setHeld A.o.1 (n+m)
    ·show (r.extract m r.size).size < r.size;rw[d7.o];omega
  ·have f0:r=⟨#[]⟩:=by
    have:r.size=0:=vO
    obtain⟨⟨l⟩⟩:=r
    cases l with
    | nil=>rfl
    | cons x y=>exact absurd this (iI _)
   have f1:j=t.size:=vO
   subst f0;have a0:st=jbr s t.data.toList:=by rw[a2.o,f1];have:=Lib.size_eq t;rw[bN vO]
   rw[a0]at HG;have HF:=Hd (b8.o.trans HK.o);clear b8 HK HR a2 a0 H c3;go_wp2_with fail
   go_ret
   exact⟨rfl,by rw[<-HZ.o];exact HG.o,HF.o⟩
def jkl(n:Nat):Nat:=(119 - n) % 64
def jee(sz:UInt64)(i:Nat):vU:=UInt8.ofNat (sz.toNat * 8 % 18446744073709551616 / 2 ^ (56 - 8 * i))
def lenL(sz:UInt64):vN:=(List.range 8).map (jee sz)
def jne(z:Nat)(sz:UInt64):vN:=128 ::(List.replicate z 0++lenL sz)
def jjh(z:Nat)(sz:UInt64)(k:Nat):vN:=128 ::(List.replicate z 0++((lenL sz).take k++List.replicate (8 - k) 0))
theorem jeO(sz:UInt64):(lenL sz).length=8:=by simp[lenL]
theorem jt8(z:Nat)(sz:UInt64)(k:Nat)(hk:k<=8):(jjh z sz k).length=1+z+8:=by simp[jjh,jeO];omega
theorem jt7(z:Nat)(sz:UInt64):jjh z sz 8=jne z sz:=by
 unfold jjh jne;rw[bN (by rw[jeO];omega)];simp
theorem jt9(z:Nat)(sz:UInt64)(k:Nat)(hk:k < 8):(jjh z sz k).set (1+z+k) (jee sz k)=jjh z sz (k+1):=by
 have e:=jeO sz;have o:k < (lenL sz).length:=vO
 have A:(lenL sz)[k]=jee sz k:=by simp[lenL]
 unfold jjh;rw[show 1+z+k=(z+k)+1 by omega,dG,fK _ _ (by simp)];simp only[List.length_replicate];rw[show z+k - z=k by omega,fK _ _ (by simp[e];omega)];rw[show 8 - k=(8 - (k+1))+1 by omega,fI,cX o,A];simp[e,jA (show k<=8 by omega)]
theorem jwO(sz:UInt64)(k:Nat):IntKind.u64.wrap ((sz.toNat:Int) * 8) / 2 ^ (56 - 8 * k) % 256=((jee sz k).toNat:Int):=by
 unfold jee;rw[fD];have h:∀ (a M p:Nat),((a:Int) * 8 % (M:Int)) / ((p:Nat):Int) % 256=((a * 8 % M / p % 256:Nat):Int):=by
  intro a M p;simp only[Int.natCast_emod,Int.natCast_ediv,Int.natCast_mul];rfl
 have e:=h sz.toNat 18446744073709551616 (2 ^ (56 - 8 * k));rw[Int.natCast_pow]at e;exact e
theorem jjD(l:vN)(k:Nat)(x:vU):(jaK l).set k (.int .u8 (x.toNat:Int))=jaK (l.set k x):=by unfold jaK;rw[iB]
theorem Tryz.uHash':(match Tryz.prog.underlying 198 with | some (.struct _)=>true | _=>false)=true:=vY
theorem Tryz.uHash:∃ fs,Tryz.prog.underlying 198=some (.struct fs):=by
 have h:=Tryz.uHash';cases hu:Tryz.prog.underlying 198 with
 | none=>rw[hu]at h;cases h
 | some d=>rw[hu]at h;cases d <;> first | exact⟨_,rfl⟩ | cases h
theorem Tryz.iHash:(Tryz.prog.info? 198).map (·.size)=some 74:=vY
theorem Tryz.newHash(w:vW):(Instr.alloc 198 true (.tuple #[])).run Tryz.prog w=.ok (.pointer (some ⟨w.heap.size,0,none⟩)) (w.alloc (.cells (jaR (List.replicate 8 0) (List.replicate 64 0) 0 0).toArray 198)):=vY
theorem jkJ(ws:List UInt32)(B:vN)(n sz:Int):(jaR ws B n sz).length=ws.length+B.length+2:=by simp[jaR];omega
theorem jkK(ws:List UInt32)(B:vN)(n sz:Int):∀ v∈jaR ws B n sz,v.oneCell'=true:=by
 intro v e;unfold jaR at e;rcases bU.1 e with e | e
 ·rcases bU.1 e with e | e
  ·exact jun v e
  ·exact jjC _ v e
 ·simp only[bM,cM,or_false]at e;rcases e with rfl | rfl <;> rfl
def jnI(x:UInt32):vU:=UInt8.ofNat x.toNat
def jgX(x:UInt32):vN:=[jnI (shrW x 24),jnI (shrW x 16),jnI (shrW x 8),jnI x]
def outL(ws:List UInt32):vN:=ws.flatMap jgX
theorem Tryz.run_byteW(x:UInt32)(w:vW):(convert 119 5 (wv x)).run Tryz.prog w=.ok (.int .u8 ((jnI x).toNat:Int)) w:=by
 have h:∀ n:Int,(convert 119 5 (.int .u32 n)).run Tryz.prog w=.ok (.int .u8 (IntKind.u8.wrap n)) w:=fun n=>by kernel_rfl
 unfold wv jnI;rw[h,jrb,jh3]
theorem Tryz.index8(V:W8)(k:Nat)(hk:k < 8)(x:UInt32)(hx:V.words[k]?=some x)(w:vW):(Instr.index 195 (.agg (V.words.map wv).toArray) (.int .i64 (k:Int))).run Tryz.prog w=.ok (wv x) w:=by
 obtain⟨a,b,c,d,e,f,g,h⟩:=V
 rcases (show k=0\/k=1\/k=2\/k=3\/k=4\/k=5\/k=6\/k=7 by omega)with rfl | rfl | rfl | rfl | rfl | rfl | rfl | rfl <;>(cases hx;kernel_rfl)
def jza(w:vW)(V:W8)(v i:vV)(wr:vW):Prop:=∃ k:Nat,k<=8/\i=.int .i64 k/\ORow 5 1 w wr v (4 * k) (jaK (outL (V.words.take k)))
def sumB(s:HSt)(sz:UInt64):vB:=⟨(outL (jbr s (jne (jkl s.n) sz)).V.words).toArray⟩
def jA6(w:vW)(g z L:Nat)(sz:UInt64)(i:vV)(wr:vW):Prop:=∃ k:Nat,k<=8/\i=.int .i64 k/\ORow 5 1 w wr (.slice (some ⟨g,0,none⟩) L L) L (jaK (jjh z sz k))
theorem jBK(w:vW)(bh:Nat)(s:HSt)(hs:s.Ok)(sz:UInt64)(hB:jbM w bh s (sz.toNat:Int))(hc:jb0 w) :
  vR 72 #[.pointer (some ⟨bh,0,none⟩)] w (.string (sumB s sz)):=by
 obtain⟨i0,hi,b8,b9,c6⟩:=info_parts Tryz.infoU8
 obtain⟨fs,e6⟩:=Tryz.uHash
 have c7:w.rangeAt bh 0 (jaR s.V.words s.B (s.n:Int) (sz.toNat:Int)):=fun j v hv=>by rw[cH];exact hB.cellL hv
 have c8:(jaR s.V.words s.B (s.n:Int) (sz.toNat:Int)).length=74:=by rw[jkJ,hs.1];rfl
 have HB:=Hd hB;have HC:=Hd hc;have HS:=Hd hs;have c9:=Hd c7;have a8:=Hd c8;clear hB hc hs c7 c8;go_enter Tryz.func72,Tryz.ntmps72;go_wp2_with (first |(refine wpList_load_mid rfl 198 (.tmp 11) rfl bh 0 rfl _ _ c9.o e6 rfl (by rw[a8.o];exact Tryz.iHash) ?_) |(refine jaj (cs:=jaR (List.replicate 8 0) (List.replicate 64 0) 0 0) Tryz.newHash rfl rfl ?_))
 intro W2 B2 E2;refine jah (old:=jaR (List.replicate 8 0) (List.replicate 64 0) 0 0) (vs:=jaR s.V.words s.B (s.n:Int) (sz.toNat:Int)) rfl rfl rfl rfl B2 (by rw[a8.o];rfl) (by rw[a8.o];exact Tryz.iHash) (jkK _ _ _ _) ?_;intro W3 B3 K3
 obtain⟨g3,a9⟩:∃ g,g=w.heap.size:=⟨_,rfl⟩
 have X3:=Hd (E2.trans' K3 (fun x hx e=>by omega):jae (fun _=>False) w W3);rw[<-a9]at B3 ⊢;have d0:g3 < W3.heap.size:=B3.lt;have g1:0 < g3:=by rw[a9];exact HC.o.lt
 have d1:Hid (jbM W3 g3 s (sz.toNat:Int)):=Hd B3;have d2:=jbM.held (HB.o.keeps X3.o (fun h=>h)) HS.o.1;have d3:=Hd (jbM.siz (HB.o.keeps X3.o (fun h=>h)) HS.o.1);clear B2 E2 B3 K3 c9 a8 HB
 obtain⟨n,hn⟩:=vE s.n
 have f6:n < 64:=by rw[hn];exact HS.o.2
 rw[<-hn]at d2
 obtain⟨z,hz⟩:=vE (jkl n)
 have e7:(119 - (n:Int)).tmod 64=(z:Int):=by rw[hz];unfold jkl;rw[Int.tmod_eq_emod_of_nonneg vO];omega
 have f7:z < 64:=by rw[hz];unfold jkl;omega
 have HZ:=Hd hz;have HN:=Hd hn;clear hz hn
 obtain⟨L,hL⟩:=vE (1+z+8)
 have e8:1+(z:Int)+8=(L:Int):=vO
 have e9:(0:Int) < (L:Int):=vO
 have HL:=Hd hL;have f0:=Hd a9;have g2:L<=72:=vO
 clear a9 hL;have d4:=jfv (P:=Tryz.prog) W3 Tryz.uBytes hi b8 b9 rfl .i64 .i64 L (by rw[c6];omega) (by unfold maxLen;omega);have J:=ORow.lit (T:=5) (sz:=1) (List.replicate L (.int .u8 0)).toArray (n:=L) (ExtR W3) (by unfold maxLen;omega) (by simp)
 obtain⟨g,hg⟩:=vE W3.heap.size
 obtain⟨W4,d5⟩:∃ W,W=W3.alloc (.cells (List.replicate L (Value.int .u8 0)).toArray 5):=⟨_,rfl⟩
 rw[<-hg, <-d5]at d4 J;have g4:g3 < g:=by rw[hg];exact d0
 have g5:=Hd hg;clear hg d5 d0;have E:=J.own.cellAt 0 vO;have b5:=J.own.frozenAt 0;have d6:=Hd J;clear J;simp only at E;rw[bA (by simp;omega)]at E;go_wp2_with fail
 have H:=d6.o.set 0 (.int .u8 128);have e0:((List.replicate L (Value.int .u8 0)).toArray.toList).set 0 (.int .u8 128)=jaK (jjh z sz 0):=by
  have e1:jjh z sz 0=(List.replicate L (0:vU)).set 0 128:=by
   rw[HL.o,show 1+z+8=(z+8)+1 by omega,fI,dL];unfold jjh;simp only[jE,cT,Nat.sub_zero,List.replicate_append_replicate]
  rw[e1, <-jjD]
  congr 1
  simp[jaK]
 rw[e0]at H
 obtain⟨W5,d7⟩:∃ W,W=W4.setCell ⟨g,0,none⟩ (.int .u8 128):=⟨_,rfl⟩
 rw[<-d7]at H ⊢;have d8:=Hd H;clear H e0 E b5 d6 d4 e7 e8 e9 d2 d7;go_loopw [25] (fun i wr=>jA6 W3 g z L sz i wr) (fun i _=>8 - (intOf i).toNat)
 case atStart=>exact⟨0,by omega,rfl,d8.o⟩
 case round =>
  obtain⟨k,hk,rfl,hR⟩:=hrel
  have K:=Hd hR;clear hR
  by_cases hlt:k < 8
  ·have f8:=jaa d3.o K.o.ext
   have a7:=K.o.own.cellAt (1+z+k) (by have:=HL.o;omega);have g6:=K.o.own.frozenAt (1+z+k);rw[bA (by rw[bytesV_len,jt8 z sz k vO];omega)]at a7;have c0:(0:Int)<=1+(z:Int)+(k:Int):=vO
   have c1:1+(z:Int)+(k:Int) < (L:Int):=by have:=HL.o;omega
   have c2:(1+(z:Int)+(k:Int)).toNat=1+z+k:=vO
   have c3:(0:Int)<=56 - 8 * (k:Int):=vO
   have c4:(56 - 8 * (k:Int)).toNat=56 - 8 * k:=vO
   have c5:56 - 8 * (k:Int) < 64:=vO
   go_wp2_with fail
   rw[jwO];have a0:=K.o.set (1+z+k) (.int .u8 ((jee sz k).toNat:Int));rw[jjD,jt9 z sz k hlt]at a0
   exact⟨⟨k+1,by omega,by go_num,a0⟩,by simp[intOf];omega⟩
  ·have b1:k=8:=vO
   subst b1;have A:=K.o.own;rw[jt7]at A;have b2:=jbB wr Tryz.uBytes Tryz.uU8 Tryz.uStr A;have b3:=Hd K.o.ext;clear A d8 K d3;go_wp2_with fail
   rw[show ((8:Nat):Int)=(8:Int)from rfl];refine (jul wr g3 s HS.o sz ⟨(jne z sz).toArray⟩ (d1.o.keeps b3.o (fun h=>h)) (HC.o.ext (X3.o.trans b3.o)) vO).mono ?_;rintro e Z ⟨rfl,d9,e2⟩
   obtain⟨S6,b0⟩:∃ x,x=jbr s (jne z sz):=⟨_,rfl⟩
   have a1:jbM Z g3 S6 ((sz+UInt64.ofNat (⟨(jne z sz).toArray⟩:vB).size).toNat:Int):=by rw[b0];exact d9
   have b6:S6.Ok:=by rw[b0];exact HS.o.all _
   have f1:Hid (Ext w Z):=Hd ((X3.o.trans b3.o).trans' e2 (fun x hx e=>by have:=f0.o;omega));have f2:=Hd b0
   obtain⟨w7,a3,O,a4⟩:=run_make_own (P:=Tryz.prog) (w:=Z) Z.heap.size 120 5 i0 _ 1 Tryz.uBytes hi b8 b9 .i64 .i64 32 (by rw[c6];omega) (by unfold maxLen;omega) (bL _)
   have b7:(Instr.makeSlice 120 (.int .i64 0) (.int .i64 32)).run Tryz.prog Z=.ok (.slice (some ⟨Z.heap.size,0,none⟩) 0 32) w7:=by rw[<-a3];rfl
   have e3:Hid (ORow 5 1 Z w7 (.slice (some ⟨Z.heap.size,0,none⟩) 0 32) 0 []):=Hd (ORow.made Z O a4);have e4:jbM w7 g3 S6 _:=a1.keeps e3.o.ext (fun h=>h);have a5:w7.rangeAt g3 0 (S6.V.words.map wv):=fun j v hv=>by
    rw[cH];exact e4.cellL (by unfold jaR;rw[cE,cS (bP.1 hv).1];exact hv)
   have Q:=Hd a5
   obtain⟨V6,b4⟩:∃ v,v=S6.V:=⟨_,rfl⟩
   rw[<-b4]at Q;have f3:=Hd b4;clear d9 a1 b6 b0 a3 O a4 e4 a5 e2 b4 b2;go_wp2_with (refine wpList_load_mid rfl 195 (.tmp 49) rfl g3 0 rfl _ _ Q.o Tryz.uArr8 rfl Tryz.iArr8 ?_)
   clear b7 Q HC d1;have f9:∀ (p:UInt32) (w:vW),(binOp .shr 119 (wv p) (.int .u64 24)).run Tryz.prog w=.ok (wv (shrW p 24)) w:=fun _ _=>jdd 24 vI .u64;have g0:∀ (p:UInt32) (w:vW),(binOp .shr 119 (wv p) (.int .u64 16)).run Tryz.prog w=.ok (wv (shrW p 16)) w:=fun _ _=>jdd 16 vI .u64;have g7:∀ (p:UInt32) (w:vW),(binOp .shr 119 (wv p) (.int .u64 8)).run Tryz.prog w=.ok (wv (shrW p 8)) w:=fun _ _=>jdd 8 vI .u64;have g8:=Tryz.run_byteW;go_loopw [7,51] (fun v i wr=>jza Z V6 v i wr) (fun _ i _=>8 - (intOf i).toNat)
   case atStart=>exact⟨0,by omega,rfl,e3.o⟩
   case round =>
    obtain⟨k,hk,rfl,hR⟩:=hrel
    obtain⟨a,c,rfl⟩:=hR.sl
    have K:=Hd hR;clear hR
    by_cases hlt:k < 8
    ·obtain⟨x,hx⟩:∃ x,V6.words[k]?=some x:=⟨_,bA (by simp[W8.words];omega)⟩
     have g9:=fun w=>Tryz.index8 V6 k hlt x hx w;have X:outL (V6.words.take (k+1))=outL (V6.words.take k)++jgX x:=by
      unfold outL;rw[bW,hx];simp
     have f4:=Hd X;clear hx X;go_wp2_with (at_builtin;refine jaO Tryz.sBytes (K.o.mono ((ExtR wr).alloc _)) (.tmp 54) (.tmp 66) rfl rfl rfl (jaJ (Blk.new wr _)) (news:=jaK (jgX x)) (jjC _) rfl rfl ?c1 ?c2 (fun v' w' r1 r2 r3=>?_))
     case c1=>unfold maxLen;omega
     case c2=>omega
     rw[<-jdw, <-f4.o,show 4 * k+4=4 * (k+1) by omega]at r1;have e5:=Hd r1;clear r1 r2 r3
     obtain⟨a2,c2,rfl⟩:=e5.o.sl
     go_wp2_with fail
     exact⟨⟨k+1,by omega,by go_num,e5.o⟩,by simp[intOf];omega⟩
    ·have b1:k=8:=vO
     subst b1;have A:=K.o.own;rw[bN (by simp[W8.words])]at A;have b2:=jbB wr Tryz.uBytes Tryz.uU8 Tryz.uStr A;have a6:(⟨(outL V6.words).toArray⟩:vB)=sumB s sz:=by
      unfold sumB;rw[f3.o,f2.o,HZ.o,HN.o]
     rw[a6]at b2;have f5:=Hd (f1.o.trans K.o.ext);clear A a6;go_wp2_with fail
     go_ret
     exact⟨rfl,f5.o⟩
def jhM:HSt:=⟨⟨0x6a09e667,0xbb67ae85,0x3c6ef372,0xa54ff53a,0x510e527f,0x9b05688c,0x1f83d9ab,0x5be0cd19⟩,List.replicate 64 0,0⟩
theorem jh0:jhM.Ok:=⟨rfl,by decide⟩
def shaL(l:vN):vB:=sumB (jbr jhM l) (UInt64.ofNat l.length)
def shaB(s:vB):vB:=shaL s.data.toList
theorem jBy(w:vW):vQ 70 #[] w fun e w'=>e=.returned (.pointer (some ⟨w.heap.size,0,none⟩))/\jbM w' w.heap.size jhM 0/\Ext w w':=by
 unfold vQ;go_in;go_wp2_with fail
 go_ret
 refine⟨rfl,?_,(ExtR w).alloc _⟩
 exact (congrArg (fun c=>Blk (w.alloc (.cells c 198)) w.heap.size (.cells (jaR jhM.V.words jhM.B (jhM.n:Int) 0).toArray 198)) vY).mp (Blk.new w _)
def jAT(w:vW)(g:Nat)(I:HSt)(xs:vM)(i:vV)(wr:vW):Prop:=∃ k:Nat,k<=xs.length/\i=.int .i64 k/\jbM wr g (jbr I (catB (xs.take k)).data.toList) ((UInt64.ofNat (catB (xs.take k)).data.toList.length).toNat:Int)/\jae (fun x=>x=g) w wr
theorem RdS.slice{w:vW}{v:vV}{xs:vM}(h:RdS w v xs):∃ a c,v=.slice a xs.length c/\∀ (j:Nat) x,xs[j]?=some x->∃ b o,a=some ⟨b,o,none⟩/\w.cell? ⟨b,o+j,none⟩=some (.string x):=by
 rcases h with⟨a,c,rfl,rfl⟩ |⟨b,o,c,rfl,h2,h3,h4⟩
 ·exact⟨a,c,rfl,fun j x e=>by simp at e⟩
 ·exact⟨some ⟨b,o,none⟩,c,rfl,fun j x e=>⟨b,o,rfl,h4 j x e⟩⟩
theorem jrR(xs:vM)(k:Nat)(x:vB)(hx:xs[k]?=some x):(catB (xs.take (k+1))).data.toList=(catB (xs.take k)).data.toList++x.data.toList:=by
 unfold catB;rw[bW,hx];simp
theorem of_t(w:vW)(v:vV)(xs:vM)(hlen:xs.length<=1000000)(hr:RdS w v xs)(hc:jb0 w) :
  vR 35 #[v] w (.string (shaB (catB xs))):=by
 obtain⟨a,c,rfl,O⟩:=hr.slice
 have a6:=Hd O;have HC:=Hd hc;clear O hc hr
 obtain⟨I,hI⟩:=vE jhM
 have Q:I.Ok:=by rw[hI];exact jh0
 have X:=Hd Q;have HI:=Hd hI;clear hI Q;go_enter Tryz.func35,Tryz.ntmps35;go_wp2_with fail
 refine (jBy w).mono ?_;rintro e w1 ⟨rfl,E,Z⟩
 obtain⟨g,hg⟩:=vE w.heap.size
 rw[<-hg]at E ⊢;rw[<-HI.o]at E;have a7:=Hd E;have H:=Hd Z;have a1:0≠g:=by have:=HC.o.lt;omega
 have HG:=Hd hg;clear E Z hg;go_wp2_with fail
 go_loopw [9] (fun i wr=>jAT w1 g I xs i wr) (fun i _=>xs.length - (intOf i).toNat)
 case atStart=>exact⟨0,by omega,rfl,by simpa [catB,jbr]using a7.o,jae.refl _ _⟩
 case round =>
  obtain⟨k,hk,rfl,K,hK⟩:=hrel
  have HH:=Hd K;have HK:=Hd hK;clear K hK
  by_cases hlt:k < xs.length
  ·obtain⟨x,hx⟩:∃ x,xs[k]?=some x:=⟨_,bA hlt⟩
   obtain⟨b,o,rfl,A⟩:=a6.o k x hx
   have a8:b≠g:=by
    have:b < w.heap.size:=fS w _ A
    have:=HG.o;omega
   have a9:wr.cell? ⟨b,o+k,none⟩=some (.string x):=by
    have h1:=jaa A H.o;have a0:b < w1.heap.size:=fS w1 _ h1;have e:=HK.o.block b a0 a8;unfold World.cell? at *;rw[e];exact h1
   have a2:=jrR xs k x hx;have J:=Hd a2;clear a2 A hx;go_wp2_with fail
   refine (jul wr g _ (X.o.all _) _ x HH.o ((HC.o.ext H.o).keeps HK.o a1) (Ne.symm a1)).mono ?_;rintro e w2 ⟨rfl,a3,a4⟩;have b0:=Hd a3;have b1:=Hd (HK.o.trans a4);clear a3 a4 a9;go_wp2_with fail
   refine⟨⟨k+1,by omega,by go_num,?_,b1.o⟩,by simp[intOf];omega⟩
   have h:=b0.o;rw[<-jcI, <-J.o]at h;rw[J.o,bC,UInt64.ofNat_add];rw[J.o,Lib.size_eq]at h;exact h
  ·have b2:k=xs.length:=vO
   subst b2;have K:=HH.o;rw[cL]at K;have b3:=Hd K;clear K HH;have a5:Hid (Ext w wr):=Hd (H.o.trans' HK.o (fun x hx e=>by have:=HG.o;omega));go_wp2_with fail
   refine vH (jBK wr g _ (X.o.all _) _ b3.o (HC.o.ext a5.o)) fun w2 b4=>?_;have b5:=Hd (a5.o.trans b4);go_wp2_with fail
   go_ret
   refine⟨?_,b5.o⟩
   rw[HI.o];unfold shaB shaL;rfl
theorem jdJ{a b:vB}(h:a.toList=b.toList):a=b:=by
 rw[bR,bR]at h
 obtain⟨⟨l⟩⟩:=a;obtain⟨⟨m⟩⟩:=b
 simp at h;rw[h]
theorem jdx(a:vB):catB [a]=a:=by
 obtain⟨⟨l⟩⟩:=a;simp[catB]
theorem jyf{W w':vW}{x:vB}{T:TypeId}(h:Ext (W.alloc (.cells #[.string x] T)) w'):RdS w' (.slice (some ⟨W.heap.size,0,none⟩) 1 1) [x]:=by
 have e:Blk w' W.heap.size (.cells #[.string x] T):=(Blk.new W _).keeps h (fun h=>h);exact .inr ⟨W.heap.size,0,1,rfl,e.lt,bL _,fun j y o=>by
  rcases j with _ | j
  ·cases o;exact e.cell vF
  ·simp at o⟩
theorem jvM(ws:List UInt32):(outL ws).length=4 * ws.length:=by
 unfold outL;induction ws with
 | nil=>rfl
 | cons x r ih=>rw[cG,bC,ih];simp[jgX];omega
theorem jt5(s:HSt)(sz:UInt64):(sumB s sz).size=32:=by
 rw[Lib.size_eq];unfold sumB;rw[List.toList_toArray,jvM];rfl
theorem jbd(s:vB):(shaB s).size=32:=jt5 _ _
def refB(s:vB):vB:=if s.size < 32 then s else jao (shaB s)
theorem jyh(w:vW)(s:vB)(hc:jb0 w):vR 113 #[.string s] w (.string (refB s)):=by
 have O:=Hd hc;clear hc
 by_cases hlt:s.size < 32
 ·have Q:(s.size:Int) < 32:=vO
  unfold vR vQ;go_in;go_wp2_with fail
  go_ret
  exact⟨by unfold refB;rw[if_pos hlt];rfl,ExtR w⟩
 ·have Q:¬(s.size:Int) < 32:=vO
  unfold vR vQ;go_in;go_wp2_with fail
  refine vH (of_t _ _ [s] (by simp) (jyf (ExtR _)) (O.o.ext ((ExtR w).alloc _))) fun w1 E=>?_;rw[jdx];have H:Hid (Ext w w1):=Hd (((ExtR w).alloc _).trans E)
  obtain⟨h,A⟩:=vE (shaB s)
  have e:h.size<=1000000000:=by rw[A,jbd];omega
  rw[<-A];have X:=Hd A;clear A;go_wp2_with fail
  refine vH (jea w1 h e) fun Z J=>?_;have K:=Hd (H.o.trans J);clear e;go_wp2_with fail
  go_ret
  exact⟨by unfold refB;rw[if_neg hlt, <-X.o];rfl,K.o⟩
def jfq(s:vB)(r:Bool × Nat × Nat):Option vB:=if r.1=false/\r.2.1+r.2.2=s.size then some (s.extract r.2.1 (r.2.1+r.2.2))else none
def optV:Option vB->vV
 | some x=>.tuple #[.string x,.bool true]
 | none=>.tuple #[.string ⟨#[]⟩,.bool false]
theorem jxu{s:vB}{r:Bool × Nat × Nat}(h:cutN s=some r):r.2.1+r.2.2<=s.size:=by
 unfold cutN at h
 by_cases h0:0 < s.size
 ·rw[dif_pos h0]at h
  simp only at h
  by_cases h1:s[0].toNat < 128
  ·rw[if_pos h1]at h
   obtain rfl:=bO h;simp only;omega
  ·rw[if_neg h1]at h
   obtain⟨o,e⟩:∃ o:Bool × Nat,o=if s[0].toNat < 192 then (false,s[0].toNat - 128)else (true,s[0].toNat - 192):=⟨_,rfl⟩
   rw[<-e]at h;clear e
   obtain⟨l,m⟩:=o
   simp only at h
   by_cases h3:m<=55
   ·rw[if_pos h3]at h
    split at h
    ·rename_i hc;obtain rfl:=bO h;exact hc.1
    ·cases h
   ·rw[if_neg h3]at h
    split at h
    ·split at h
     ·rename_i hc;obtain rfl:=bO h;exact hc
     ·cases h
    ·cases h
 ·rw[dif_neg h0]at h;cases h
theorem jiW(w:vW)(s:vB)(r:Bool × Nat × Nat)(hs:s.size<=1000000000)(h:cutN s=some r):vR 116 #[.string s] w (optV (jfq s r)):=by
 have A:=jxu h;unfold vR vQ;go_in;go_wp2_with fail
 refine vH (jot w s r hs h) fun w1 E=>?_
 obtain⟨x,H⟩:=vE (s.extract r.2.1 (r.2.1+r.2.2))
 obtain⟨y,J⟩:∃ x,x=s.extract (r.2.1+r.2.2) s.size:=⟨_,rfl⟩
 have e:y.size=s.size - (r.2.1+r.2.2):=by rw[J];simp[cJ]
 rw[<-H, <-J]
 obtain⟨l,p⟩:=r
 simp only at e A;have O:=Hd H;clear h H J hs;simp only;cases l with
 | true =>
  go_wp2_with fail
  exact bodyPost_ret (v:=optV none) vY rfl ⟨by unfold jfq;rw[if_neg (by simp)],E.o⟩
 | false =>
  by_cases he:p.1+p.2=s.size
  ·have K:y=⟨#[]⟩:=by
    have:y.size=0:=vO
    obtain⟨⟨l⟩⟩:=y
    cases l with
    | nil=>rfl
    | cons x y=>exact absurd this (iI _)
   subst K;clear e;go_wp2_with fail
   exact bodyPost_ret (v:=optV (some x)) vY rfl ⟨by unfold jfq;rw[if_pos ⟨rfl,he⟩,O.o],E.o⟩
  ·have Q:=jbe (s:=y) vO
   clear e;go_wp2_with fail
   exact bodyPost_ret (v:=optV none) vY rfl ⟨by unfold jfq;rw[if_neg (by simp[he])],E.o⟩
def jfi(s:vB)(r:Bool × Nat × Nat):Option vB:=(jfq s r).filter (fun x=>x.size=32)
theorem je3(w:vW)(s:vB)(r:Bool × Nat × Nat)(hs:s.size<=1000000000)(h:cutN s=some r):vR 83 #[.string s] w (optV (jfi s r)):=by
 unfold vR vQ;go_in;go_wp2_with fail
 refine vH (jiW w s r hs h) fun w1 e=>?_;have hb:jfi s r=(jfq s r).filter (fun x=>x.size=32):=rfl
 obtain⟨o,H⟩:=vE (jfq s r)
 rw[<-H]at hb ⊢;have A:=Hd hb;clear h hs H hb;cases o with
 | none =>
  unfold optV;simp only;go_wp2_with fail
  exact bodyPost_ret (v:=optV none) vY rfl ⟨by rw[A.o];rfl,e.o⟩
 | some x =>
  unfold optV;simp only
  by_cases hx:x.size=32
  ·have J:((x.size:Int) == 32)=true:=by simp;omega
   have E:(x.size:Int)=32:=vO
   go_wp2_with fail
   exact bodyPost_ret (v:=optV (some x)) vY rfl ⟨by rw[A.o];simp[Option.filter,hx],e.o⟩
  ·have J:((x.size:Int) == 32)=false:=by simp;omega
   have E:¬(x.size:Int)=32:=vO
   go_wp2_with fail
   exact bodyPost_ret (v:=optV none) vY rfl ⟨by rw[A.o];simp[Option.filter,hx],e.o⟩
