/- Lemmas; each is under no condition but those that it states. -/
import Derived.Test.YtnkdaacmpceghaaGreatDoorPa7
import Derived.Lib.LazyBuf
namespace Go.Proofs.YtnkdaacmpceghaaGreatDoor
set_option linter.unusedSimpArgs false
set_option linter.unusedVariables false
set_option maxRecDepth 100000
set_option maxHeartbeats 16000000
open Go Go.RowKit
variable (l xs:vN)(z:Nat)(ws:List UInt32)(B:vN)(w:vW)(bh:Nat)(s:vB)(sz:UInt64){b n:Nat}{P:Program}{v:vV}{W w':vW}
theorem jfk(w:vW)(dT sT ty elem:TypeId)(b o dLen dCap:Nat)(t:vB)(m:Nat)(hm:m=Nat.min t.size dLen)
  (hu:P.underlying dT=some (.slice elem)) (hz:∀ w,(Go.sizeOf elem).run P w=.ok 1 w)
  (hc:∀ j,j < m->(w.cell? ⟨b,o+j,none⟩).isSome=true) (hf:∀ j,j < m->w.frozen? ⟨b,o+j,none⟩=false) :
  (Builtin.copy_ #[dT,sT] ty #[.slice (some ⟨b,o,none⟩) dLen dCap,.string t]).run P w=.ok (goInt m) (w.setCells b o (jaB (t.data.toList.take m))):=by
 have q:(jaB (t.data.toList.take m)).length=m:=by
  have:=Lib.size_eq t
  have A:Nat.min t.size dLen=min t.size dLen:=rfl;simp[jaB];rw[A]at hm;omega
 have e:=run_storeCells_cells (P:=P) b o (jaB (t.data.toList.take m)) 0 w (by rw[q];simpa using hc) (by rw[q];simpa using hf) (by
  intro v H
  obtain⟨x,_,rfl⟩:=bD.1 H
  rfl)
 simp[Builtin.copy_,run_underlying hu,Builtin.lenOf,Builtin.firstCells,hz, <-hm];unfold jaB at e;rw[iT]at e;rw[e];simp[jaB,iT]
structure HSt where
 V:W8
 B:vN
 n:Nat
def HSt.Ok(s:HSt):Prop:=s.B.length=64/\s.n < 64
def jhM(s:HSt)(x:vU):HSt:=if s.n+1=64 then ⟨mixW s.V (s.B.set s.n x),s.B.set s.n x,0⟩else ⟨s.V,s.B.set s.n x,s.n+1⟩
def jbu(s:HSt)(l:vN):HSt:=l.foldl jhM s
theorem HSt.Ok.push{s:HSt}(h:s.Ok)(x:vU):(jhM s x).Ok:=by
 obtain⟨e,q⟩:=h
 unfold jhM HSt.Ok;split <;> simp[e] <;> omega
theorem HSt.Ok.all{s:HSt}(h:s.Ok)(l:vN):(jbu s l).Ok:=by
 unfold jbu;induction l generalizing s with
 | nil=>exact h
 | cons x r ih=>exact ih (h.push x)
theorem je4(s:HSt)(l r:vN):jbu s (l++r)=jbu (jbu s l) r:=dX
def layB(B:vN)(n:Nat)(xs:vN):vN:=B.take n++xs++B.drop (n+xs.length)
theorem jts{B:vN}{xs:vN}(h:n+xs.length<=B.length):(layB B n xs).length=B.length:=by simp[layB];omega
theorem jhC{B:vN}(x:vU)(xs:vN)(h:n+1+xs.length<=B.length):layB (B.set n x) (n+1) xs=layB B n (x :: xs):=by
 unfold layB;have e:(B.set n x).take (n+1)=B.take n++[x]:=by
  rw[List.set_eq_take_append_cons_drop,if_pos vO,List.take_append,cF (by simp;omega)];simp[Nat.min_eq_left (show n<=B.length by omega)]
 have q:(B.set n x).drop (n+1+xs.length)=B.drop (n+(x :: xs).length):=by
  rw[List.drop_set_of_lt vO]
  congr 1;simp;omega
 rw[e,q];simp
theorem jkJ:∀ (s:HSt),s.Ok->s.n+xs.length < 64->jbu s xs=⟨s.V,layB s.B s.n xs,s.n+xs.length⟩:=by
 induction xs with
 | nil=>intro s h _;simp[jbu,layB]
 | cons x r ih =>
  intro s h q;simp only[bU]at q;have e:jhM s x=⟨s.V,s.B.set s.n x,s.n+1⟩:=by unfold jhM;rw[if_neg vO]
  show jbu (jhM s x) r=_;rw[ih _ (h.push x) (by rw[e];simp only;omega),e];simp only[bU];rw[jhC x r (by rw[h.1];omega),show s.n+1+r.length=s.n+(r.length+1) by omega]
theorem jkI:∀ (s:HSt),s.Ok->s.n+xs.length=64->jbu s xs=⟨mixW s.V (layB s.B s.n xs),layB s.B s.n xs,0⟩:=by
 induction xs with
 | nil=>intro s h q;exact absurd h.2 (by simp at q;omega)
 | cons x r ih =>
  intro s h q;simp only[bU]at q;show jbu (jhM s x) r=_
  by_cases hr:r.length=0
  ·have A:r=[]:=bO hr
   subst A;have e:jhM s x=⟨mixW s.V (s.B.set s.n x),s.B.set s.n x,0⟩:=by unfold jhM;rw[if_pos (by simp at q;omega)]
   rw[e]
   have:=jhC (B:=s.B) (n:=s.n) x [] (by rw[h.1];simp at q ⊢;omega)
   rw[<-this];simp[jbu,layB]
  ·have e:jhM s x=⟨s.V,s.B.set s.n x,s.n+1⟩:=by unfold jhM;rw[if_neg vO]
   rw[ih _ (h.push x) (by rw[e];simp only;omega),e];simp only;rw[jhC x r (by rw[h.1];omega)]
def jbr(w:vW)(b:Nat)(s:HSt)(sz:Int):Prop:=Blk w b (.cells (jaC s.V.words s.B (s.n:Int) sz).toArray 261)
theorem jcf(v:W8):v.words.length=8:=rfl
theorem jbr.held{w:vW}{s:HSt}{sz:Int}(h:jbr w b s sz)(hs:s.B.length=64):w.cell? ⟨b,72,none⟩=some (.int .i64 (s.n:Int)):=h.cellL (by
 unfold jaC;rw[cO (by simp[jcf,jaB,hs])];simp[jcf,jaB,hs])
theorem jbr.siz{w:vW}{s:HSt}{sz:Int}(h:jbr w b s sz)(hs:s.B.length=64):w.cell? ⟨b,73,none⟩=some (.int .u64 sz):=h.cellL (by
 unfold jaC;rw[cO (by simp[jcf,jaB,hs])];simp[jcf,jaB,hs])
theorem jbr.setHeld{w:vW}{s:HSt}{sz:Int}(h:jbr w b s sz)(hs:s.B.length=64)(n:Nat):jbr (w.setCell ⟨b,72,none⟩ (.int .i64 (n:Int))) b ⟨s.V,s.B,n⟩ sz:=by
 have:=h.set_same (i:=72) (.int .i64 (n:Int))
 unfold jbr;unfold jaC at this ⊢;rw[fJ,dK _ _ (by simp[jcf,jaB,hs])]at this;simpa [jcf,jaB,hs]using this
theorem jbr.setSiz{w:vW}{s:HSt}{sz:Int}(h:jbr w b s sz)(hs:s.B.length=64)(z:Int):jbr (w.setCell ⟨b,73,none⟩ (.int .u64 z)) b s z:=by
 have:=h.set_same (i:=73) (.int .u64 z)
 unfold jbr;unfold jaC at this ⊢;rw[fJ,dK _ _ (by simp[jcf,jaB,hs])]at this;simpa [jcf,jaB,hs]using this
theorem jbr.lay{w:vW}{s:HSt}{sz:Int}(h:jbr w b s sz)(hs:s.B.length=64)(xs:vN)(hx:s.n+xs.length<=64):jbr (w.setCells b (8+s.n) (jaB xs)) b ⟨s.V,layB s.B s.n xs,s.n⟩ sz:=by
 have:=Blk.setCells (jaB xs) (8+s.n) w _ h (by simp[jaC,jcf,jaB,hs];omega)
 unfold jbr;have e:(jaC s.V.words s.B (s.n:Int) sz).take (8+s.n)++jaB xs++(jaC s.V.words s.B (s.n:Int) sz).drop (8+s.n+(jaB xs).length)=jaC s.V.words (layB s.B s.n xs) (s.n:Int) sz:=by
  unfold jaC layB;have q:(s.V.words.map wv).length=8:=rfl;have A:(jaB s.B).length=64:=by simp[jaB,hs]
  have H:(jaB xs).length=xs.length:=by simp[jaB]
  rw[cE (s.V.words.map wv),List.take_append,List.drop_append,q,H];rw[cF (by rw[q];omega),fG (l:=s.V.words.map wv) (by rw[q];omega)];rw[show 8+s.n - 8=s.n by omega,show 8+s.n+xs.length - 8=s.n+xs.length by omega];rw[List.take_append_of_le_length (by rw[A];omega),List.drop_append_of_le_length (by rw[A];omega)];simp[jaB,iT,List.map_drop]
 rw[e]at this;exact this
theorem jp0{a:Act}{w:vW}{p:Addr}{d:Option Tmp}{t ty:TypeId}{x:Operand}{pos:String}{af:Array Edge}{g:Option (Nat × Bool)}(h:(Instr.loadAt t (.pointer (some p))).run P w=.ok v w)(hx:a.eval x=.pointer (some p)) :
  (execOp a.eval ⟨d,.load t x,ty,pos,af,g⟩).run P w=.ok (.value v) w:=by
 simp only[execOp,hx,bK,h,Result.andThen,cP]
def jyF(v:vV):Nat:=match v with | .string t=>t.size | _=>0
def jy8(w:vW)(bh:Nat)(s:HSt)(sz:Int)(t:vB)(v:vV)(wr:vW):Prop:=∃ j:Nat,j<=t.size/\v=.string (t.extract j t.size)/\jbr wr bh (jbu s (t.data.toList.take j)) sz/\jac (fun x=>x=bh) w wr
theorem jrY(n:Nat):IntKind.u64.wrap ((sz.toNat:Int)+IntKind.u64.wrap (n:Int))=((sz+UInt64.ofNat n).toNat:Int):=by
 rw[UInt64.toNat_add,UInt64.toNat_ofNat'];show ((sz.toNat:Int)+(n:Int) % (18446744073709551616:Int)) % (18446744073709551616:Int)=_;simp only[Int.natCast_emod,Int.natCast_add];rfl
theorem Tryz.uSlU8:Tryz.prog.underlying 211=some (.slice 5):=vY
theorem Tryz.szU8:(Go.sizeOf 5).run Tryz.prog w=.ok 1 w:=vY
theorem Tryz.uInt:Tryz.prog.underlying 3=some (.int .i64):=vY
theorem jrZ(s:HSt)(hs:s.Ok)(sz:UInt64)(t:vB)(hB:jbr w bh s (sz.toNat:Int))(hc:jbA w)(hbh:bh≠1) :
  vQ 87 #[.pointer (some ⟨bh,0,none⟩),.string t] w fun e w'=>e=.returned (.pointer (some ⟨bh,0,none⟩))/\jbr w' bh (jbu s t.data.toList) ((sz+UInt64.ofNat t.size).toNat:Int)/\jac (fun x=>x=bh) w w':=by
 have e7:=hB.siz hs.1;have e8:w.frozen? ⟨bh,73,none⟩=false:=hB.frozen;have HB:=Hd hB;have HC:=Hd hc;have HS:=Hd hs;clear hB hc hs;go_enter Tryz.func87,Tryz.ntmps87;go_wp2_with fail
 have hz:=jrY sz t.size
 obtain⟨SZ,b8⟩:∃ z,z=IntKind.u64.wrap ((sz.toNat:Int)+IntKind.u64.wrap (t.size:Int)):=⟨_,rfl⟩
 rw[<-b8]at hz ⊢;have b2:=HB.o.setSiz HS.o.1 SZ;have a1:=(jac.refl (fun x=>x=bh) w).setCell (p:=⟨bh,73,none⟩) (.inl rfl) (.int .u64 SZ)
 obtain⟨w1,b9⟩:=vE (w.setCell ⟨bh,73,none⟩ (.int .u64 SZ))
 rw[<-b9]at b2 a1 ⊢;have e9:=Hd b2;have c0:=Hd a1;have HZ:=Hd hz;have c3:=Hd (HC.o.keeps a1 (Ne.symm hbh));clear b2 a1 b9 hz b8 e7 e8 HB HC
 obtain⟨wt,c4⟩:∃ x,x=IntKind.u64.wrap (t.size:Int):=⟨_,rfl⟩
 rw[<-c4];clear c4;go_loopw [1] (fun v wr=>jy8 w1 bh s SZ t v wr) (fun v _=>jyF v)
 case atStart=>exact⟨0,by omega,by rw[show t.extract 0 t.size=t by simp],e9.o,jac.refl _ _⟩
 case round =>
  obtain⟨j,hj,rfl,hG,hK⟩:=hrel
  have HK:=Hd hK;have f0:=Hd (c3.o.keeps hK (Ne.symm hbh))
  obtain⟨st,a2⟩:=vE (jbu s (t.data.toList.take j))
  have c5:st.Ok:=by rw[a2];exact HS.o.all _
  rw[<-a2]at hG;have HG:=Hd hG;have a3:=Hd a2
  obtain⟨r,hr⟩:=vE (t.extract j t.size)
  have H:r.size=t.size - j:=by rw[hr];simp[dH]
  have HR:=Hd hr;rw[<-hr];clear hG a2 hK hr
  by_cases hlt:j < t.size
  ·have f5:=jbq (s:=r) vO
   obtain⟨Vs,Z,n⟩:=st
   obtain⟨a4,hn⟩:=c5
   simp only at a4 hn
   obtain⟨m,hm⟩:=vE (Nat.min r.size (64 - n))
   have c7:m=min r.size (64 - n):=hm;have f6:0 < m:=vO
   have f7:m<=r.size:=vO
   have f8:n+m<=64:=vO
   have a5:Hid (HSt.Ok ⟨Vs,Z,n⟩):=Hd ⟨a4,hn⟩;have c1:(n:Int)<=64:=vO
   have c2:(64 - (n:Int)).toNat=64 - n:=vO
   have c8:=Hd H;have HM:=Hd hm;have f1:=Hd c7;have b3:=Hd a4;clear H hm c7 a4;go_wp2_with fail
   refine jaq [0,1,2,3,4,5,8,6,7,9,10] [6,9] Ext ExtR ExtT vY vY vY ?_
   refine vP ?_
   refine qA _ (.pointer (some ⟨bh,0,none⟩)) rfl (fun w1=>by kernel_rfl) ?_;refine vS ?_;iterate 2 refine vP ?_
   refine qA _ (.pointer (some ⟨bh,0,none⟩)) rfl (fun w1=>by kernel_rfl) ?_;refine vS ?_;iterate 2 refine vP ?_
   refine qH _ rfl (fun w2 he K hK=>?_);have X2:=(jak wr).trans he;refine jbk (w':=w2) (jp0 (jab Tryz.uInt rfl (jaa (HG.o.held a5.o.1) X2)) vY) (hK _ _ ?_);clear hK K he;refine vS ?_
   refine vP ?_
   refine qH _ rfl (fun w3 he K hK=>?_);have X3:=X2.trans he
   obtain⟨xs,a7⟩:∃ x,x=r.data.toList.take m:=⟨_,rfl⟩
   have c9:xs.length=m:=by rw[a7];have:=Lib.size_eq r;simp;omega
   have G1:=HG.o.keeps X3 (fun h=>h);have K1:=HK.o.trans' X3 (fun _ _ h=>h.elim);have d0:(jaC Vs.words Z (n:Int) SZ).length=74:=by simp[jaC,jcf,jaB,b3.o]
   have a8:=jfk (P:=Tryz.prog) w3 211 9 3 5 bh (8+n) (64 - n) (64 - n) r m HM.o Tryz.uSlU8 Tryz.szU8
    (by intro j hj;rw[Blk.cellL G1 (i:=8+n+j) (bB (by rw[d0];omega))];rfl) (by intro j hj;exact Blk.frozen G1)
   rw[<-a7]at a8;have G2:=jbr.lay G1 a5.o.1 xs (by simp only;omega);have K2:=K1.trans (jac.oneSetCells bh (jaB xs) (8+n) w3);simp only at G2
   obtain⟨w4,d1⟩:∃ x,x=w3.setCells bh (8+n) (jaB xs):=⟨_,rfl⟩
   rw[<-d1]at a8 G2 K2;have d2:=Hd G2;have d3:=Hd K2;have d4:=Hd a7;have a9:=Hd c9;clear G1 K1 G2 K2 d1 he X2 X3 HG HK d0 a7 c9 f0;refine jbk (w':=w4) (jkf a8 vY) (hK _ _ ?_);clear a8 hK K w3 w2;refine vS ?_
   refine vP ?_
   refine qE (fun w5 he=>?_);have J:Hid (jbr w5 bh ⟨Vs,layB Z n xs,n⟩ SZ):=Hd (d2.o.keeps he (fun h=>h));have b4:=Hd (d3.o.trans' he (fun _ _ h=>h.elim));clear he d2 d3;have q:Hid (HSt.Ok ⟨Vs,layB Z n xs,n⟩):=Hd ⟨by simp only;rw[jts (by rw[a9.o,b3.o];omega),b3.o],hn⟩;have b0:=J.o.held q.o.1;have d5:w5.frozen? ⟨bh,72,none⟩=false:=Blk.frozen J.o;simp only at b0;have d6:r.data.toList=t.data.toList.drop j:=by
    rw[HR.o,fH,gA]
    have:=Lib.size_eq t
    simp only[fL];rw[cF (by simp)]
   have O:jbu s (t.data.toList.take (j+m))=jbu ⟨Vs,Z,n⟩ xs:=by
    rw[List.take_add,je4, <-a3.o,d4.o,d6]
   have X:r.extract m r.size=t.extract (j+m) t.size:=by
    have H:=c8.o;rw[HR.o]at H ⊢;rw[H,ByteArray.extract_extract]
    congr 1 <;> omega
   have d7:(r.extract m r.size).size=r.size - m:=by simp[dH]
   have d8:=Hd O;have d9:=Hd X;have e0:=Hd d7;clear d6 O X d7 HR a3 d4 HM f1;have e1:j+m<=t.size:=by have:=c8.o;omega
   by_cases hfull:n+m=64
   ·have hq:((n:Int)+(m:Int) == 64)=true:=by simp;omega
    have A:=jkI xs ⟨Vs,Z,n⟩ a5.o (by simp only;rw[a9.o];exact hfull);simp only at A;have b5:=Hd A;have e2:=J.o.setHeld q.o.1 (n+m);have e3:=b4.o.setCell (p:=⟨bh,72,none⟩) (.inl rfl) (.int .i64 ((n+m:Nat):Int));have b6:=Hd e2;have b1:=Hd e3;clear A e2 e3 J b4;go_wp2_with fail
    rw[<-Int.natCast_add]
    obtain⟨w6,e4⟩:∃ x,x=w5.setCell ⟨bh,72,none⟩ (.int .i64 ((n+m:Nat):Int)):=⟨_,rfl⟩
    rw[<-e4]at b6 b1 ⊢;clear e4 b0 d5;refine (jzn w6 bh Vs (layB Z n xs) _ _ q.o.1 b6.o (c3.o.keeps b1.o (Ne.symm hbh)) hbh).mono ?_;rintro e w7 ⟨rfl,e5,e6⟩;have b7:Hid (jbr w7 bh ⟨mixW Vs (layB Z n xs),layB Z n xs,n+m⟩ SZ):=Hd e5;have f2:=Hd (b1.o.trans e6);clear e5 e6 b6 b1;have b0:=b7.o.held q.o.1;have d5:w7.frozen? ⟨bh,72,none⟩=false:=Blk.frozen b7.o;simp only at b0;go_wp2_with fail
    refine⟨⟨j+m,e1,by rw[d9.o],?_,f2.o.setCell (.inl rfl) _⟩,?_⟩
    ·rw[d8.o,b5.o];exact b7.o.setHeld q.o.1 0
    ·show (r.extract m r.size).size < r.size;rw[e0.o];omega
   ·have hq:((n:Int)+(m:Int) == 64)=false:=by simp;omega
    have A:=jkJ xs ⟨Vs,Z,n⟩ a5.o (by simp only;rw[a9.o];omega);simp only[a9.o]at A;have b5:=Hd A;clear A;go_wp2_with fail
    refine⟨⟨j+m,e1,by rw[d9.o],?_,b4.o.setCell (.inl rfl) _⟩,?_⟩
    ·rw[d8.o,b5.o];exact J.o.setHeld q.o.1 (n+m)
    ·show (r.extract m r.size).size < r.size;rw[e0.o];omega
  ·have f3:r=⟨#[]⟩:=by
    have:r.size=0:=vO
    obtain⟨⟨l⟩⟩:=r
    cases l with
    | nil=>rfl
    | cons x y=>exact absurd this (gV _)
   have f4:j=t.size:=vO
   subst f3;have a0:st=jbu s t.data.toList:=by rw[a3.o,f4];have:=Lib.size_eq t;rw[cF vO]
   rw[a0]at HG;have HF:=Hd (c0.o.trans HK.o);clear c0 HK HR a3 a0 H c5;go_wp2_with fail
   go_ret
   exact⟨rfl,by rw[<-HZ.o];exact HG.o,HF.o⟩
def jnw(n:Nat):Nat:=(119 - n) % 64
def jgn(sz:UInt64)(i:Nat):vU:=UInt8.ofNat (sz.toNat * 8 % 18446744073709551616 / 2 ^ (56 - 8 * i))
def lenL(sz:UInt64):vN:=(List.range 8).map (jgn sz)
def joC(z:Nat)(sz:UInt64):vN:=128 ::(List.replicate z 0++lenL sz)
def jhT(z:Nat)(sz:UInt64)(k:Nat):vN:=128 ::(List.replicate z 0++((lenL sz).take k++List.replicate (8 - k) 0))
theorem jjj:(lenL sz).length=8:=by simp[lenL]
theorem jrL(k:Nat)(hk:k<=8):(jhT z sz k).length=1+z+8:=by simp[jhT,jjj];omega
theorem jrK:jhT z sz 8=joC z sz:=by
 unfold jhT joC;rw[cF (by rw[jjj];omega)];simp
theorem jrM(k:Nat)(hk:k < 8):(jhT z sz k).set (1+z+k) (jgn sz k)=jhT z sz (k+1):=by
 have e:=jjj sz;have q:k < (lenL sz).length:=vO
 have A:(lenL sz)[k]=jgn sz k:=by simp[lenL]
 unfold jhT;rw[show 1+z+k=(z+k)+1 by omega,dB,dK _ _ (by simp)];simp only[gT];rw[show z+k - z=k by omega,dK _ _ (by simp[e];omega)];rw[show 8 - k=(8 - (k+1))+1 by omega,dQ,cS q,A];simp[e,Nat.min_eq_left (show k<=8 by omega)]
theorem jx5(k:Nat):IntKind.u64.wrap ((sz.toNat:Int) * 8) / 2 ^ (56 - 8 * k) % 256=((jgn sz k).toNat:Int):=by
 unfold jgn;rw[UInt8.toNat_ofNat'];have h:∀ (a M p:Nat),((a:Int) * 8 % (M:Int)) / ((p:Nat):Int) % 256=((a * 8 % M / p % 256:Nat):Int):=by
  intro a M p;simp only[Int.natCast_emod,Int.natCast_ediv,Int.natCast_mul];rfl
 have e:=h sz.toNat 18446744073709551616 (2 ^ (56 - 8 * k));rw[Int.natCast_pow]at e;exact e
theorem jii(k:Nat)(x:vU):(jaB l).set k (.int .u8 (x.toNat:Int))=jaB (l.set k x):=by unfold jaB;rw[gB]
theorem Tryz.uHash':(match Tryz.prog.underlying 261 with | some (.struct _)=>true | _=>false)=true:=vY
theorem Tryz.uHash:∃ fs,Tryz.prog.underlying 261=some (.struct fs):=by
 have h:=Tryz.uHash';cases hu:Tryz.prog.underlying 261 with
 | none=>rw[hu]at h;cases h
 | some d=>rw[hu]at h;cases d <;> first | exact⟨_,rfl⟩ | cases h
theorem Tryz.iHash:(Tryz.prog.info? 261).map (·.size)=some 74:=vY
theorem Tryz.newHash:(Instr.alloc 261 true (.tuple #[])).run Tryz.prog w=.ok (.pointer (some ⟨w.heap.size,0,none⟩)) (w.alloc (.cells (jaC (List.replicate 8 0) (List.replicate 64 0) 0 0).toArray 261)):=vY
theorem jjg(n sz:Int):(jaC ws B n sz).length=ws.length+B.length+2:=by simp[jaC];omega
theorem jjh(n sz:Int):∀ v∈jaC ws B n sz,v.oneCell'=true:=by
 intro v e;unfold jaC at e;rcases bQ.1 e with e | e
 ·rcases bQ.1 e with e | e
  ·exact jr1 v e
  ·exact jih _ v e
 ·simp only[bZ,gW,or_false]at e;rcases e with rfl | rfl <;> rfl
def jnM(x:UInt32):vU:=UInt8.ofNat x.toNat
def jns(x:UInt32):vN:=[jnM (shrW x 24),jnM (shrW x 16),jnM (shrW x 8),jnM x]
def outL(ws:List UInt32):vN:=ws.flatMap jns
theorem Tryz.run_byteW(x:UInt32)(w:vW):(convert 257 5 (wv x)).run Tryz.prog w=.ok (.int .u8 ((jnM x).toNat:Int)) w:=by
 have h:∀ n:Int,(convert 257 5 (.int .u32 n)).run Tryz.prog w=.ok (.int .u8 (IntKind.u8.wrap n)) w:=fun n=>by kernel_rfl
 unfold wv jnM;rw[h,joG,jg4]
theorem Tryz.index8(V:W8)(k:Nat)(hk:k < 8)(x:UInt32)(hx:V.words[k]?=some x)(w:vW):(Instr.index 258 (.agg (V.words.map wv).toArray) (.int .i64 (k:Int))).run Tryz.prog w=.ok (wv x) w:=by
 obtain⟨a,b,c,d,e,f,g,h⟩:=V
 rcases (show k=0\/k=1\/k=2\/k=3\/k=4\/k=5\/k=6\/k=7 by omega)with rfl | rfl | rfl | rfl | rfl | rfl | rfl | rfl <;>(cases hx;kernel_rfl)
def jxe(w:vW)(V:W8)(v i:vV)(wr:vW):Prop:=∃ k:Nat,k<=8/\i=.int .i64 k/\ORow 5 1 w wr v (4 * k) (jaB (outL (V.words.take k)))
def sumB(s:HSt)(sz:UInt64):vB:=⟨(outL (jbu s (joC (jnw s.n) sz)).V.words).toArray⟩
def jy5(w:vW)(g z L:Nat)(sz:UInt64)(i:vV)(wr:vW):Prop:=∃ k:Nat,k<=8/\i=.int .i64 k/\ORow 5 1 w wr (.slice (some ⟨g,0,none⟩) L L) L (jaB (jhT z sz k))
theorem jzs(s:HSt)(hs:s.Ok)(sz:UInt64)(hB:jbr w bh s (sz.toNat:Int))(hc:jbA w) :
  vR 88 #[.pointer (some ⟨bh,0,none⟩)] w (.string (sumB s sz)):=by
 obtain⟨i0,hi,b9,c7,c8⟩:=info_parts Tryz.infoU8
 obtain⟨fs,e8⟩:=Tryz.uHash
 have c9:w.rangeAt bh 0 (jaC s.V.words s.B (s.n:Int) (sz.toNat:Int)):=fun j v hv=>by rw[bT];exact hB.cellL hv
 have d0:(jaC s.V.words s.B (s.n:Int) (sz.toNat:Int)).length=74:=by rw[jjg,hs.1];rfl
 have HB:=Hd hB;have HC:=Hd hc;have HS:=Hd hs;have d1:=Hd c9;have a9:=Hd d0;clear hB hc hs c9 d0;go_enter Tryz.func88,Tryz.ntmps88;go_wp2_with (first |(refine wpList_load_mid rfl 261 (.tmp 11) rfl bh 0 rfl _ _ d1.o e8 rfl (by rw[a9.o];exact Tryz.iHash) ?_) |(refine jah (cs:=jaC (List.replicate 8 0) (List.replicate 64 0) 0 0) Tryz.newHash rfl rfl ?_))
 intro W2 B2 E2;refine jad (old:=jaC (List.replicate 8 0) (List.replicate 64 0) 0 0) (vs:=jaC s.V.words s.B (s.n:Int) (sz.toNat:Int)) rfl rfl rfl rfl B2 (by rw[a9.o];rfl) (by rw[a9.o];exact Tryz.iHash) (jjh _ _ _ _) ?_;intro W3 B3 K3
 obtain⟨g3,b0⟩:∃ g,g=w.heap.size:=⟨_,rfl⟩
 have X3:=Hd (E2.trans' K3 (fun x hx e=>by omega):jac (fun _=>False) w W3);rw[<-b0]at B3 ⊢;have d2:g3 < W3.heap.size:=B3.lt;have g5:1 < g3:=by rw[b0];exact HC.o.lt
 have d3:Hid (jbr W3 g3 s (sz.toNat:Int)):=Hd B3;have d4:=jbr.held (HB.o.keeps X3.o (fun h=>h)) HS.o.1;have d5:=Hd (jbr.siz (HB.o.keeps X3.o (fun h=>h)) HS.o.1);clear B2 E2 B3 K3 d1 a9 HB
 obtain⟨n,hn⟩:=vE s.n
 have f8:n < 64:=by rw[hn];exact HS.o.2
 rw[<-hn]at d4
 obtain⟨z,hz⟩:=vE (jnw n)
 have e9:(119 - (n:Int)).tmod 64=(z:Int):=by rw[hz];unfold jnw;rw[Int.tmod_eq_emod_of_nonneg vO];omega
 have f9:z < 64:=by rw[hz];unfold jnw;omega
 have HZ:=Hd hz;have HN:=Hd hn;clear hz hn
 obtain⟨L,hL⟩:=vE (1+z+8)
 have f0:1+(z:Int)+8=(L:Int):=vO
 have f1:(0:Int) < (L:Int):=vO
 have HL:=Hd hL;have f2:=Hd b0;have g6:L<=72:=vO
 clear b0 hL;have d6:=jeH (P:=Tryz.prog) W3 Tryz.uBytes hi b9 c7 rfl .i64 .i64 L (by rw[c8];omega) (by unfold maxLen;omega);have J:=ORow.lit (T:=5) (sz:=1) (List.replicate L (.int .u8 0)).toArray (n:=L) (ExtR W3) (by unfold maxLen;omega) (by simp)
 obtain⟨g,hg⟩:=vE W3.heap.size
 obtain⟨W4,d7⟩:∃ W,W=W3.alloc (.cells (List.replicate L (Value.int .u8 0)).toArray 5):=⟨_,rfl⟩
 rw[<-hg, <-d7]at d6 J;have g7:g3 < g:=by rw[hg];exact d2
 have g8:=Hd hg;clear hg d7 d2;have A:=J.own.cellAt 0 vO;have b6:=J.own.frozenAt 0;have d8:=Hd J;clear J;simp only at A;rw[bB (by simp;omega)]at A;go_wp2_with fail
 have H:=d8.o.set 0 (.int .u8 128);have e0:((List.replicate L (Value.int .u8 0)).toArray.toList).set 0 (.int .u8 128)=jaB (jhT z sz 0):=by
  have e1:jhT z sz 0=(List.replicate L (0:vU)).set 0 128:=by
   rw[HL.o,show 1+z+8=(z+8)+1 by omega,dQ,dG];unfold jhT;simp only[gO,cN,Nat.sub_zero,List.replicate_append_replicate]
  rw[e1, <-jii]
  congr 1
  simp[jaB]
 rw[e0]at H
 obtain⟨W5,d9⟩:∃ W,W=W4.setCell ⟨g,0,none⟩ (.int .u8 128):=⟨_,rfl⟩
 rw[<-d9]at H ⊢;have e2:=Hd H;clear H e0 A b6 d8 d6 e9 f0 f1 d4 d9;go_loopw [25] (fun i wr=>jy5 W3 g z L sz i wr) (fun i _=>8 - (intOf i).toNat)
 case atStart=>exact⟨0,by omega,rfl,e2.o⟩
 case round =>
  obtain⟨k,hk,rfl,hR⟩:=hrel
  have K:=Hd hR;clear hR
  by_cases hlt:k < 8
  ·have g0:=jaa d5.o K.o.ext
   have a8:=K.o.own.cellAt (1+z+k) (by have:=HL.o;omega);have g9:=K.o.own.frozenAt (1+z+k);rw[bB (by rw[bytesV_len,jrL z sz k vO];omega)]at a8;have c0:(0:Int)<=1+(z:Int)+(k:Int):=vO
   have c1:1+(z:Int)+(k:Int) < (L:Int):=by have:=HL.o;omega
   have c2:(1+(z:Int)+(k:Int)).toNat=1+z+k:=vO
   have c3:(0:Int)<=56 - 8 * (k:Int):=vO
   have c4:(56 - 8 * (k:Int)).toNat=56 - 8 * k:=vO
   have c5:56 - 8 * (k:Int) < 64:=vO
   go_wp2_with fail
   rw[jx5];have a0:=K.o.set (1+z+k) (.int .u8 ((jgn sz k).toNat:Int));rw[jii,jrM z sz k hlt]at a0
   exact⟨⟨k+1,by omega,by go_num,a0⟩,by simp[intOf];omega⟩
  ·have b2:k=8:=vO
   subst b2;have q:=K.o.own;rw[jrK]at q;have b3:=jby wr Tryz.uBytes Tryz.uU8 Tryz.uStr q;have b4:=Hd K.o.ext;clear q e2 K d5;go_wp2_with fail
   rw[show ((8:Nat):Int)=(8:Int)from rfl];refine (jrZ wr g3 s HS.o sz ⟨(joC z sz).toArray⟩ (d3.o.keeps b4.o (fun h=>h)) (HC.o.ext (X3.o.trans b4.o)) vO).mono ?_;rintro e w6 ⟨rfl,e3,e4⟩
   obtain⟨S6,b1⟩:∃ x,x=jbu s (joC z sz):=⟨_,rfl⟩
   have a1:jbr w6 g3 S6 ((sz+UInt64.ofNat (⟨(joC z sz).toArray⟩:vB).size).toNat:Int):=by rw[b1];exact e3
   have b7:S6.Ok:=by rw[b1];exact HS.o.all _
   have f3:Hid (Ext w w6):=Hd ((X3.o.trans b4.o).trans' e4 (fun x hx e=>by have:=f2.o;omega));have f4:=Hd b1
   obtain⟨w7,a3,O,a4⟩:=run_make_own (P:=Tryz.prog) (w:=w6) w6.heap.size 211 5 i0 _ 1 Tryz.uBytes hi b9 c7 .i64 .i64 32 (by rw[c8];omega) (by unfold maxLen;omega) (bL _)
   have b8:(Instr.makeSlice 211 (.int .i64 0) (.int .i64 32)).run Tryz.prog w6=.ok (.slice (some ⟨w6.heap.size,0,none⟩) 0 32) w7:=by rw[<-a3];rfl
   have e5:Hid (ORow 5 1 w6 w7 (.slice (some ⟨w6.heap.size,0,none⟩) 0 32) 0 []):=Hd (ORow.made w6 O a4);have e6:jbr w7 g3 S6 _:=a1.keeps e5.o.ext (fun h=>h);have a5:w7.rangeAt g3 0 (S6.V.words.map wv):=fun j v hv=>by
    rw[bT];exact e6.cellL (by unfold jaC;rw[cE,cR (bH.1 hv).1];exact hv)
   have X:=Hd a5
   obtain⟨V6,b5⟩:∃ v,v=S6.V:=⟨_,rfl⟩
   rw[<-b5]at X;have f5:=Hd b5;clear e3 a1 b7 b1 a3 O a4 e6 a5 e4 b5 b3;go_wp2_with (refine wpList_load_mid rfl 258 (.tmp 49) rfl g3 0 rfl _ _ X.o Tryz.uArr8 rfl Tryz.iArr8 ?_)
   clear b8 X HC d3;have g2:∀ (p:UInt32) (w:vW),(binOp .shr 257 (wv p) (.int .u64 24)).run Tryz.prog w=.ok (wv (shrW p 24)) w:=fun _ _=>jfP 24 vI .u64;have g4:∀ (p:UInt32) (w:vW),(binOp .shr 257 (wv p) (.int .u64 16)).run Tryz.prog w=.ok (wv (shrW p 16)) w:=fun _ _=>jfP 16 vI .u64;have h0:∀ (p:UInt32) (w:vW),(binOp .shr 257 (wv p) (.int .u64 8)).run Tryz.prog w=.ok (wv (shrW p 8)) w:=fun _ _=>jfP 8 vI .u64;have h1:=Tryz.run_byteW;go_loopw [7,51] (fun v i wr=>jxe w6 V6 v i wr) (fun _ i _=>8 - (intOf i).toNat)
   case atStart=>exact⟨0,by omega,rfl,e5.o⟩
   case round =>
    obtain⟨k,hk,rfl,hR⟩:=hrel
    obtain⟨a,c,rfl⟩:=hR.sl
    have K:=Hd hR;clear hR
    by_cases hlt:k < 8
    ·obtain⟨x,hx⟩:∃ x,V6.words[k]?=some x:=⟨_,bB (by simp[W8.words];omega)⟩
     have h2:=fun w=>Tryz.index8 V6 k hlt x hx w;have Z:outL (V6.words.take (k+1))=outL (V6.words.take k)++jns x:=by
      unfold outL;rw[bX,hx];simp
     have f6:=Hd Z;clear hx Z;go_wp2_with (at_builtin;refine ja0 Tryz.sBytes (K.o.mono ((ExtR wr).alloc _)) (.tmp 54) (.tmp 66) rfl rfl rfl (jaN (Blk.new wr _)) (news:=jaB (jns x)) (jih _) rfl rfl ?c1 ?c2 (fun v' w' r1 r2 r3=>?_))
     case c1=>unfold maxLen;omega
     case c2=>omega
     rw[<-jcS, <-f6.o,show 4 * k+4=4 * (k+1) by omega]at r1;have e7:=Hd r1;clear r1 r2 r3
     obtain⟨a2,c2,rfl⟩:=e7.o.sl
     go_wp2_with fail
     exact⟨⟨k+1,by omega,by go_num,e7.o⟩,by simp[intOf];omega⟩
    ·have b2:k=8:=vO
     subst b2;have q:=K.o.own;rw[cF (by simp[W8.words])]at q;have b3:=jby wr Tryz.uBytes Tryz.uU8 Tryz.uStr q;have a7:(⟨(outL V6.words).toArray⟩:vB)=sumB s sz:=by
      unfold sumB;rw[f5.o,f4.o,HZ.o,HN.o]
     rw[a7]at b3;have f7:=Hd (f3.o.trans K.o.ext);clear q a7;go_wp2_with fail
     go_ret
     exact⟨rfl,f7.o⟩
def jlr:HSt:=⟨⟨0x6a09e667,0xbb67ae85,0x3c6ef372,0xa54ff53a,0x510e527f,0x9b05688c,0x1f83d9ab,0x5be0cd19⟩,List.replicate 64 0,0⟩
theorem jtj:jlr.Ok:=⟨rfl,by decide⟩
def shaL(l:vN):vB:=sumB (jbu jlr l) (UInt64.ofNat l.length)
def shaB(s:vB):vB:=shaL s.data.toList
theorem jzo:vQ 86 #[] w fun e w'=>e=.returned (.pointer (some ⟨w.heap.size,0,none⟩))/\jbr w' w.heap.size jlr 0/\Ext w w':=by
 unfold vQ;go_in;go_wp2_with fail
 go_ret
 refine⟨rfl,?_,(ExtR w).alloc _⟩
 exact (congrArg (fun c=>Blk (w.alloc (.cells c 261)) w.heap.size (.cells (jaC jlr.V.words jlr.B (jlr.n:Int) 0).toArray 261)) vY).mp (Blk.new w _)
def jyX(w:vW)(g:Nat)(I:HSt)(xs:vM)(i:vV)(wr:vW):Prop:=∃ k:Nat,k<=xs.length/\i=.int .i64 k/\jbr wr g (jbu I (catB (xs.take k)).data.toList) ((UInt64.ofNat (catB (xs.take k)).data.toList.length).toNat:Int)/\jac (fun x=>x=g) w wr
theorem RdS.slice{w:vW}{xs:vM}(h:RdS w v xs):∃ a c,v=.slice a xs.length c/\∀ (j:Nat) x,xs[j]?=some x->∃ b o,a=some ⟨b,o,none⟩/\w.cell? ⟨b,o+j,none⟩=some (.string x):=by
 rcases h with⟨a,c,rfl,rfl⟩ |⟨b,o,c,rfl,h2,h3,h4⟩
 ·exact⟨a,c,rfl,fun j x e=>by simp at e⟩
 ·exact⟨some ⟨b,o,none⟩,c,rfl,fun j x e=>⟨b,o,rfl,h4 j x e⟩⟩
theorem jpq(xs:vM)(k:Nat)(x:vB)(hx:xs[k]?=some x):(catB (xs.take (k+1))).data.toList=(catB (xs.take k)).data.toList++x.data.toList:=by
 unfold catB;rw[bX,hx];simp
theorem of_t(v:vV)(xs:vM)(hlen:xs.length<=1000000)(hr:RdS w v xs)(hc:jbA w) :
  vR 43 #[v] w (.string (shaB (catB xs))):=by
 obtain⟨a,c,rfl,O⟩:=hr.slice
 have a8:=Hd O;have HC:=Hd hc;clear O hc hr
 obtain⟨I,hI⟩:=vE jlr
 have X:I.Ok:=by rw[hI];exact jtj
 have Z:=Hd X;have HI:=Hd hI;clear hI X;go_enter Tryz.func43,Tryz.ntmps43;go_wp2_with fail
 refine (jzo w).mono ?_;rintro e w1 ⟨rfl,A,a1⟩
 obtain⟨g,hg⟩:=vE w.heap.size
 rw[<-hg]at A ⊢;rw[<-HI.o]at A;have a9:=Hd A;have H:=Hd a1;have a2:1≠g:=by have:=HC.o.lt;omega
 have HG:=Hd hg;clear A a1 hg;go_wp2_with fail
 go_loopw [9] (fun i wr=>jyX w1 g I xs i wr) (fun i _=>xs.length - (intOf i).toNat)
 case atStart=>exact⟨0,by omega,rfl,by simpa [catB,jbu]using a9.o,jac.refl _ _⟩
 case round =>
  obtain⟨k,hk,rfl,K,hK⟩:=hrel
  have HH:=Hd K;have HK:=Hd hK;clear K hK
  by_cases hlt:k < xs.length
  ·obtain⟨x,hx⟩:∃ x,xs[k]?=some x:=⟨_,bB hlt⟩
   obtain⟨b,o,rfl,q⟩:=a8.o k x hx
   have b0:b≠g:=by
    have:b < w.heap.size:=dN w _ q
    have:=HG.o;omega
   have b1:wr.cell? ⟨b,o+k,none⟩=some (.string x):=by
    have h1:=jaa q H.o;have a0:b < w1.heap.size:=dN w1 _ h1;have e:=HK.o.block b a0 b0;unfold World.cell? at *;rw[e];exact h1
   have a3:=jpq xs k x hx;have J:=Hd a3;clear a3 q hx;go_wp2_with fail
   refine (jrZ wr g _ (Z.o.all _) _ x HH.o ((HC.o.ext H.o).keeps HK.o a2) (Ne.symm a2)).mono ?_;rintro e w2 ⟨rfl,a4,a5⟩;have b2:=Hd a4;have b3:=Hd (HK.o.trans a5);clear a4 a5 b1;go_wp2_with fail
   refine⟨⟨k+1,by omega,by go_num,?_,b3.o⟩,by simp[intOf];omega⟩
   have h:=b2.o;rw[<-je4, <-J.o]at h;rw[J.o,bI,UInt64.ofNat_add];rw[J.o,Lib.size_eq]at h;exact h
  ·have b4:k=xs.length:=vO
   subst b4;have K:=HH.o;rw[cG]at K;have b5:=Hd K;clear K HH;have a7:Hid (Ext w wr):=Hd (H.o.trans' HK.o (fun x hx e=>by have:=HG.o;omega));go_wp2_with fail
   refine vH (jzs wr g _ (Z.o.all _) _ b5.o (HC.o.ext a7.o)) fun w2 b6=>?_;have b7:=Hd (a7.o.trans b6);go_wp2_with fail
   go_ret
   refine⟨?_,b7.o⟩
   rw[HI.o];unfold shaB shaL;rfl
theorem jiY{a b:vB}(h:a.toList=b.toList):a=b:=by
 rw[bR,bR]at h
 obtain⟨⟨l⟩⟩:=a;obtain⟨⟨m⟩⟩:=b
 simp at h;rw[h]
theorem jdS(a:vB):catB [a]=a:=by
 obtain⟨⟨l⟩⟩:=a;simp[catB]
theorem jwf{x:vB}{T:TypeId}(h:Ext (W.alloc (.cells #[.string x] T)) w'):RdS w' (.slice (some ⟨W.heap.size,0,none⟩) 1 1) [x]:=by
 have e:Blk w' W.heap.size (.cells #[.string x] T):=(Blk.new W _).keeps h (fun h=>h);exact .inr ⟨W.heap.size,0,1,rfl,e.lt,bL _,fun j y q=>by
  rcases j with _ | j
  ·cases q;exact e.cell vF
  ·simp at q⟩
theorem jtO:(outL ws).length=4 * ws.length:=by
 unfold outL;induction ws with
 | nil=>rfl
 | cons x r ih=>rw[dY,bI,ih];simp[jns];omega
theorem jrJ(s:HSt)(sz:UInt64):(sumB s sz).size=32:=by
 rw[Lib.size_eq];unfold sumB;rw[List.toList_toArray,jtO];rfl
theorem jbg:(shaB s).size=32:=jrJ _ _
def refB(s:vB):vB:=if s.size < 32 then s else jam (shaB s)
theorem jwh(hc:jbA w):vR 174 #[.string s] w (.string (refB s)):=by
 have O:=Hd hc;clear hc
 by_cases hlt:s.size < 32
 ·have X:(s.size:Int) < 32:=vO
  unfold vR vQ;go_in;go_wp2_with fail
  go_ret
  exact⟨by unfold refB;rw[if_pos hlt];rfl,ExtR w⟩
 ·have X:¬(s.size:Int) < 32:=vO
  unfold vR vQ;go_in;go_wp2_with fail
  refine vH (of_t _ _ [s] (by simp) (jwf (ExtR _)) (O.o.ext ((ExtR w).alloc _))) fun w1 A=>?_;rw[jdS];have H:Hid (Ext w w1):=Hd (((ExtR w).alloc _).trans A)
  obtain⟨h,q⟩:=vE (shaB s)
  have e:h.size<=1000000000:=by rw[q,jbg];omega
  rw[<-q];have Z:=Hd q;clear q;go_wp2_with fail
  refine vH (jct w1 h e) fun w2 J=>?_;have K:=Hd (H.o.trans J);clear e;go_wp2_with fail
  go_ret
  exact⟨by unfold refB;rw[if_neg hlt, <-Z.o];rfl,K.o⟩
def jeB(s:vB)(r:Bool × Nat × Nat):Option vB:=if r.1=false/\r.2.1+r.2.2=s.size then some (s.extract r.2.1 (r.2.1+r.2.2))else none
def optV:Option vB->vV
 | some x=>.tuple #[.string x,.bool true]
 | none=>.tuple #[.string ⟨#[]⟩,.bool false]
theorem jvr{s:vB}{r:Bool × Nat × Nat}(h:cutN s=some r):r.2.1+r.2.2<=s.size:=by
 unfold cutN at h
 by_cases h0:0 < s.size
 ·rw[dif_pos h0]at h
  simp only at h
  by_cases h1:s[0].toNat < 128
  ·rw[if_pos h1]at h
   obtain rfl:=bP h;simp only;omega
  ·rw[if_neg h1]at h
   obtain⟨q,e⟩:∃ q:Bool × Nat,q=if s[0].toNat < 192 then (false,s[0].toNat - 128)else (true,s[0].toNat - 192):=⟨_,rfl⟩
   rw[<-e]at h;clear e
   obtain⟨l,m⟩:=q
   simp only at h
   by_cases h3:m<=55
   ·rw[if_pos h3]at h
    split at h
    ·rename_i hc;obtain rfl:=bP h;exact hc.1
    ·cases h
   ·rw[if_neg h3]at h
    split at h
    ·split at h
     ·rename_i hc;obtain rfl:=bP h;exact hc
     ·cases h
    ·cases h
 ·rw[dif_neg h0]at h;cases h
theorem jhK(r:Bool × Nat × Nat)(hs:s.size<=1000000000)(h:cutN s=some r):vR 170 #[.string s] w (optV (jeB s r)):=by
 have q:=jvr h;unfold vR vQ;go_in;go_wp2_with fail
 refine vH (jgw w s r hs h) fun w1 A=>?_
 obtain⟨x,H⟩:=vE (s.extract r.2.1 (r.2.1+r.2.2))
 obtain⟨y,J⟩:∃ x,x=s.extract (r.2.1+r.2.2) s.size:=⟨_,rfl⟩
 have e:y.size=s.size - (r.2.1+r.2.2):=by rw[J];simp[dH]
 rw[<-H, <-J]
 obtain⟨l,p⟩:=r
 simp only at e q;have O:=Hd H;clear h H J hs;simp only;cases l with
 | true =>
  go_wp2_with fail
  exact bodyPost_ret (v:=optV none) vY rfl ⟨by unfold jeB;rw[if_neg (by simp)],A.o⟩
 | false =>
  by_cases he:p.1+p.2=s.size
  ·have K:y=⟨#[]⟩:=by
    have:y.size=0:=vO
    obtain⟨⟨l⟩⟩:=y
    cases l with
    | nil=>rfl
    | cons x y=>exact absurd this (gV _)
   subst K;clear e;go_wp2_with fail
   exact bodyPost_ret (v:=optV (some x)) vY rfl ⟨by unfold jeB;rw[if_pos ⟨rfl,he⟩,O.o],A.o⟩
  ·have X:=jbq (s:=y) vO
   clear e;go_wp2_with fail
   exact bodyPost_ret (v:=optV none) vY rfl ⟨by unfold jeB;rw[if_neg (by simp[he])],A.o⟩
def jfA(s:vB)(r:Bool × Nat × Nat):Option vB:=(jeB s r).filter (fun x=>x.size=32)
theorem jfB(r:Bool × Nat × Nat)(hs:s.size<=1000000000)(h:cutN s=some r):vR 119 #[.string s] w (optV (jfA s r)):=by
 unfold vR vQ;go_in;go_wp2_with fail
 refine vH (jhK w s r hs h) fun w1 e=>?_;have hb:jfA s r=(jeB s r).filter (fun x=>x.size=32):=rfl
 obtain⟨o,H⟩:=vE (jeB s r)
 rw[<-H]at hb ⊢;have q:=Hd hb;clear h hs H hb;cases o with
 | none =>
  unfold optV;simp only;go_wp2_with fail
  exact bodyPost_ret (v:=optV none) vY rfl ⟨by rw[q.o];rfl,e.o⟩
 | some x =>
  unfold optV;simp only
  by_cases hx:x.size=32
  ·have J:((x.size:Int) == 32)=true:=by simp;omega
   have A:(x.size:Int)=32:=vO
   go_wp2_with fail
   exact bodyPost_ret (v:=optV (some x)) vY rfl ⟨by rw[q.o];simp[Option.filter,hx],e.o⟩
  ·have J:((x.size:Int) == 32)=false:=by simp;omega
   have A:¬(x.size:Int)=32:=vO
   go_wp2_with fail
   exact bodyPost_ret (v:=optV none) vY rfl ⟨by rw[q.o];simp[Option.filter,hx],e.o⟩
