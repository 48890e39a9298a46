/- Lemmas; each is under no condition but those that it states. -/
import Derived.Test.YtmobgkphhbmhbaaGreatDoorPb7
import Derived.Lib.LazyBuf
namespace Go.Proofs.YtmobgkphhbmhbaaGreatDoor
set_option linter.unusedSimpArgs false
set_option linter.unusedVariables false
set_option maxRecDepth 100000
set_option maxHeartbeats 16000000
open Go Go.RowKit
theorem jf3{P:Program}(w:vW)(dT sT ty elem:TypeId)(b o dLen dCap:Nat)(t:vB)(m:Nat)(hm:m=Nat.min t.size dLen)
  (hu:P.underlying dT=some (.slice elem)) (hz:∀ w,(Go.sizeOf elem).run P w=.ok 1 w)
  (hc:∀ j,j < m->(w.cell? ⟨b,o+j,none⟩).isSome=true) (hf:∀ j,j < m->w.frozen? ⟨b,o+j,none⟩=false) :
  (Builtin.copy_ #[dT,sT] ty #[.slice (some ⟨b,o,none⟩) dLen dCap,.string t]).run P w=.ok (goInt m) (w.setCells b o (jaI (t.data.toList.take m))):=by
 have q:(jaI (t.data.toList.take m)).length=m:=by
  have:=Lib.size_eq t
  have z:Nat.min t.size dLen=min t.size dLen:=rfl;simp[jaI];rw[z]at hm;omega
 have e:=run_storeCells_cells (P:=P) b o (jaI (t.data.toList.take m)) 0 w (by rw[q];simpa using hc) (by rw[q];simpa using hf) (by
  intro v A
  obtain⟨x,_,rfl⟩:=bH.1 A
  rfl)
 simp[Builtin.copy_,run_underlying hu,Builtin.lenOf,Builtin.firstCells,hz, <-hm];unfold jaI at e;rw[iV]at e;rw[e];simp[jaI,iV]
structure HSt where
 V:W8
 B:vN
 n:Nat
def HSt.Ok(s:HSt):Prop:=s.B.length=64/\s.n < 64
def jiv(s:HSt)(x:vU):HSt:=if s.n+1=64 then ⟨mixW s.V (s.B.set s.n x),s.B.set s.n x,0⟩else ⟨s.V,s.B.set s.n x,s.n+1⟩
def jbI(s:HSt)(l:vN):HSt:=l.foldl jiv s
theorem HSt.Ok.push{s:HSt}(h:s.Ok)(x:vU):(jiv s x).Ok:=by
 obtain⟨e,o⟩:=h
 unfold jiv HSt.Ok;split <;> simp[e] <;> omega
theorem HSt.Ok.all{s:HSt}(h:s.Ok)(l:vN):(jbI s l).Ok:=by
 unfold jbI;induction l generalizing s with
 | nil=>exact h
 | cons x r ih=>exact ih (h.push x)
theorem jfI(s:HSt)(l r:vN):jbI s (l++r)=jbI (jbI s l) r:=fN
def layB(B:vN)(n:Nat)(xs:vN):vN:=B.take n++xs++B.drop (n+xs.length)
theorem jtU{B:vN}{n:Nat}{xs:vN}(h:n+xs.length<=B.length):(layB B n xs).length=B.length:=by simp[layB];omega
theorem jil{B:vN}{n:Nat}(x:vU)(xs:vN)(h:n+1+xs.length<=B.length):layB (B.set n x) (n+1) xs=layB B n (x :: xs):=by
 unfold layB;have e:(B.set n x).take (n+1)=B.take n++[x]:=by
  rw[List.set_eq_take_append_cons_drop,if_pos vO,List.take_append,cD (by simp;omega)];simp[Nat.min_eq_left (show n<=B.length by omega)]
 have o:(B.set n x).drop (n+1+xs.length)=B.drop (n+(x :: xs).length):=by
  rw[List.drop_set_of_lt vO]
  congr 1;simp;omega
 rw[e,o];simp
theorem jl3(xs:vN):∀ (s:HSt),s.Ok->s.n+xs.length < 64->jbI s xs=⟨s.V,layB s.B s.n xs,s.n+xs.length⟩:=by
 induction xs with
 | nil=>intro s h _;simp[jbI,layB]
 | cons x r ih =>
  intro s h o;simp only[bP]at o;have e:jiv s x=⟨s.V,s.B.set s.n x,s.n+1⟩:=by unfold jiv;rw[if_neg vO]
  show jbI (jiv s x) r=_;rw[ih _ (h.push x) (by rw[e];simp only;omega),e];simp only[bP];rw[jil x r (by rw[h.1];omega),show s.n+1+r.length=s.n+(r.length+1) by omega]
theorem jl2(xs:vN):∀ (s:HSt),s.Ok->s.n+xs.length=64->jbI s xs=⟨mixW s.V (layB s.B s.n xs),layB s.B s.n xs,0⟩:=by
 induction xs with
 | nil=>intro s h o;exact absurd h.2 (by simp at o;omega)
 | cons x r ih =>
  intro s h o;simp only[bP]at o;show jbI (jiv s x) r=_
  by_cases hr:r.length=0
  ·have q:r=[]:=bE hr
   subst q;have e:jiv s x=⟨mixW s.V (s.B.set s.n x),s.B.set s.n x,0⟩:=by unfold jiv;rw[if_pos (by simp at o;omega)]
   rw[e]
   have:=jil (B:=s.B) (n:=s.n) x [] (by rw[h.1];simp at o ⊢;omega)
   rw[<-this];simp[jbI,layB]
  ·have e:jiv s x=⟨s.V,s.B.set s.n x,s.n+1⟩:=by unfold jiv;rw[if_neg vO]
   rw[ih _ (h.push x) (by rw[e];simp only;omega),e];simp only;rw[jil x r (by rw[h.1];omega)]
def jbF(w:vW)(b:Nat)(s:HSt)(sz:Int):Prop:=Blk w b (.cells (jaJ s.V.words s.B (s.n:Int) sz).toArray 189)
theorem jcw(v:W8):v.words.length=8:=rfl
theorem jbF.held{w:vW}{b:Nat}{s:HSt}{sz:Int}(h:jbF w b s sz)(hs:s.B.length=64):w.cell? ⟨b,72,none⟩=some (.int .i64 (s.n:Int)):=h.cellL (by
 unfold jaJ;rw[cX (by simp[jcw,jaI,hs])];simp[jcw,jaI,hs])
theorem jbF.siz{w:vW}{b:Nat}{s:HSt}{sz:Int}(h:jbF w b s sz)(hs:s.B.length=64):w.cell? ⟨b,73,none⟩=some (.int .u64 sz):=h.cellL (by
 unfold jaJ;rw[cX (by simp[jcw,jaI,hs])];simp[jcw,jaI,hs])
theorem jbF.setHeld{w:vW}{b:Nat}{s:HSt}{sz:Int}(h:jbF w b s sz)(hs:s.B.length=64)(n:Nat):jbF (w.setCell ⟨b,72,none⟩ (.int .i64 (n:Int))) b ⟨s.V,s.B,n⟩ sz:=by
 have:=h.set_same (i:=72) (.int .i64 (n:Int))
 unfold jbF;unfold jaJ at this ⊢;rw[gK,fJ _ _ (by simp[jcw,jaI,hs])]at this;simpa [jcw,jaI,hs]using this
theorem jbF.setSiz{w:vW}{b:Nat}{s:HSt}{sz:Int}(h:jbF w b s sz)(hs:s.B.length=64)(z:Int):jbF (w.setCell ⟨b,73,none⟩ (.int .u64 z)) b s z:=by
 have:=h.set_same (i:=73) (.int .u64 z)
 unfold jbF;unfold jaJ at this ⊢;rw[gK,fJ _ _ (by simp[jcw,jaI,hs])]at this;simpa [jcw,jaI,hs]using this
theorem jbF.lay{w:vW}{b:Nat}{s:HSt}{sz:Int}(h:jbF w b s sz)(hs:s.B.length=64)(xs:vN)(hx:s.n+xs.length<=64):jbF (w.setCells b (8+s.n) (jaI xs)) b ⟨s.V,layB s.B s.n xs,s.n⟩ sz:=by
 have:=Blk.setCells (jaI xs) (8+s.n) w _ h (by simp[jaJ,jcw,jaI,hs];omega)
 unfold jbF;have e:(jaJ s.V.words s.B (s.n:Int) sz).take (8+s.n)++jaI xs++(jaJ s.V.words s.B (s.n:Int) sz).drop (8+s.n+(jaI xs).length)=jaJ s.V.words (layB s.B s.n xs) (s.n:Int) sz:=by
  unfold jaJ layB;have o:(s.V.words.map wv).length=8:=rfl;have q:(jaI s.B).length=64:=by simp[jaI,hs]
  have z:(jaI xs).length=xs.length:=by simp[jaI]
  rw[bW (s.V.words.map wv),List.take_append,List.drop_append,o,z];rw[cD (by rw[o];omega),iM (l:=s.V.words.map wv) (by rw[o];omega)];rw[show 8+s.n - 8=s.n by omega,show 8+s.n+xs.length - 8=s.n+xs.length by omega];rw[gE (by rw[q];omega),List.drop_append_of_le_length (by rw[q];omega)];simp[jaI,iV,List.map_drop]
 rw[e]at this;exact this
theorem jq0{P:Program}{a:Act}{w:vW}{v:vV}{p:Addr}{d:Option Tmp}{t ty:TypeId}{x:Operand}{pos:String}{af:Array Edge}{g:Option (Nat × Bool)}(h:(Instr.loadAt t (.pointer (some p))).run P w=.ok v w)(hx:a.eval x=.pointer (some p)) :
  (execOp a.eval ⟨d,.load t x,ty,pos,af,g⟩).run P w=.ok (.value v) w:=by
 simp only[execOp,hx,bT,h,Result.andThen,cI]
def jya(v:vV):Nat:=match v with | .string t=>t.size | _=>0
def jyx(w:vW)(bh:Nat)(s:HSt)(sz:Int)(t:vB)(v:vV)(wr:vW):Prop:=∃ j:Nat,j<=t.size/\v=.string (t.extract j t.size)/\jbF wr bh (jbI s (t.data.toList.take j)) sz/\jad (fun x=>x=bh) w wr
theorem jsN(sz:UInt64)(n:Nat):IntKind.u64.wrap ((sz.toNat:Int)+IntKind.u64.wrap (n:Int))=((sz+UInt64.ofNat n).toNat:Int):=by
 rw[UInt64.toNat_add,UInt64.toNat_ofNat'];show ((sz.toNat:Int)+(n:Int) % (18446744073709551616:Int)) % (18446744073709551616:Int)=_;simp only[Int.natCast_emod,Int.natCast_add];rfl
theorem Tryz.uSlU8:Tryz.prog.underlying 56=some (.slice 5):=vY
theorem Tryz.szU8(w:vW):(Go.sizeOf 5).run Tryz.prog w=.ok 1 w:=vY
theorem Tryz.uInt:Tryz.prog.underlying 3=some (.int .i64):=vY
theorem jsO(w:vW)(bh:Nat)(s:HSt)(hs:s.Ok)(sz:UInt64)(t:vB)(hB:jbF w bh s (sz.toNat:Int))(hc:jbV w)(hbh:bh≠0) :
  vQ 82 #[.pointer (some ⟨bh,0,none⟩),.string t] w fun e w'=>e=.returned (.pointer (some ⟨bh,0,none⟩))/\jbF w' bh (jbI s t.data.toList) ((sz+UInt64.ofNat t.size).toNat:Int)/\jad (fun x=>x=bh) w w':=by
 have e4:=hB.siz hs.1;have e5:w.frozen? ⟨bh,73,none⟩=false:=hB.frozen;have HB:=Hd hB;have HC:=Hd hc;have HS:=Hd hs;clear hB hc hs;go_enter Tryz.func82,Tryz.ntmps82;go_wp2_with fail
 have hz:=jsN sz t.size
 obtain⟨SZ,b6⟩:∃ z,z=IntKind.u64.wrap ((sz.toNat:Int)+IntKind.u64.wrap (t.size:Int)):=⟨_,rfl⟩
 rw[<-b6]at hz ⊢;have b0:=HB.o.setSiz HS.o.1 SZ;have X:=(jad.refl (fun x=>x=bh) w).setCell (p:=⟨bh,73,none⟩) (.inl rfl) (.int .u64 SZ)
 obtain⟨w1,b7⟩:=vE (w.setCell ⟨bh,73,none⟩ (.int .u64 SZ))
 rw[<-b7]at b0 X ⊢;have e6:=Hd b0;have b8:=Hd X;have HZ:=Hd hz;have b9:=Hd (HC.o.keeps X (Ne.symm hbh));clear b0 X b7 hz b6 e4 e5 HB HC
 obtain⟨wt,c0⟩:∃ x,x=IntKind.u64.wrap (t.size:Int):=⟨_,rfl⟩
 rw[<-c0];clear c0;go_loopw [1] (fun v wr=>jyx w1 bh s SZ t v wr) (fun v _=>jya v)
 case atStart=>exact⟨0,by omega,by rw[show t.extract 0 t.size=t by simp],e6.o,jad.refl _ _⟩
 case round =>
  obtain⟨j,hj,rfl,hG,Z⟩:=hrel
  have HK:=Hd Z;have e7:=Hd (b9.o.keeps Z (Ne.symm hbh))
  obtain⟨st,a1⟩:=vE (jbI s (t.data.toList.take j))
  have c3:st.Ok:=by rw[a1];exact HS.o.all _
  rw[<-a1]at hG;have HG:=Hd hG;have a2:=Hd a1
  obtain⟨r,hr⟩:=vE (t.extract j t.size)
  have E:r.size=t.size - j:=by rw[hr];simp[cS]
  have HR:=Hd hr;rw[<-hr];clear hG a1 Z hr
  by_cases hlt:j < t.size
  ·have f2:=jbe (s:=r) vO
   obtain⟨Vs,Q,n⟩:=st
   obtain⟨a3,hn⟩:=c3
   simp only at a3 hn
   obtain⟨m,hm⟩:=vE (Nat.min r.size (64 - n))
   have c4:m=min r.size (64 - n):=hm;have f3:0 < m:=vO
   have f4:m<=r.size:=vO
   have f5:n+m<=64:=vO
   have a4:Hid (HSt.Ok ⟨Vs,Q,n⟩):=Hd ⟨a3,hn⟩;have c1:(n:Int)<=64:=vO
   have c2:(64 - (n:Int)).toNat=64 - n:=vO
   have c5:=Hd E;have HM:=Hd hm;have e8:=Hd c4;have b1:=Hd a3;clear E hm c4 a3;go_wp2_with fail
   refine jas [0,1,2,3,4,5,8,6,7,9,10] [6,9] Ext ExtR ExtT vY vY vY ?_
   refine vP ?_
   refine qA _ (.pointer (some ⟨bh,0,none⟩)) rfl (fun w1=>by kernel_rfl) ?_;refine vS ?_;iterate 2 refine vP ?_
   refine qA _ (.pointer (some ⟨bh,0,none⟩)) rfl (fun w1=>by kernel_rfl) ?_;refine vS ?_;iterate 2 refine vP ?_
   refine qH _ rfl (fun w2 he K Z=>?_);have X2:=(jam wr).trans he;refine jcr (w':=w2) (jq0 (jac Tryz.uInt rfl (jaa (HG.o.held a4.o.1) X2)) vY) (Z _ _ ?_);clear Z K he;refine vS ?_
   refine vP ?_
   refine qH _ rfl (fun w3 he K Z=>?_);have X3:=X2.trans he
   obtain⟨xs,a5⟩:∃ x,x=r.data.toList.take m:=⟨_,rfl⟩
   have c6:xs.length=m:=by rw[a5];have:=Lib.size_eq r;simp;omega
   have G1:=HG.o.keeps X3 (fun h=>h);have K1:=HK.o.trans' X3 (fun _ _ h=>h.elim);have c7:(jaJ Vs.words Q (n:Int) SZ).length=74:=by simp[jaJ,jcw,jaI,b1.o]
   have a6:=jf3 (P:=Tryz.prog) w3 56 9 3 5 bh (8+n) (64 - n) (64 - n) r m HM.o Tryz.uSlU8 Tryz.szU8
    (by intro j hj;rw[Blk.cellL G1 (i:=8+n+j) (bA (by rw[c7];omega))];rfl) (by intro j hj;exact Blk.frozen G1)
   rw[<-a5]at a6;have G2:=jbF.lay G1 a4.o.1 xs (by simp only;omega);have K2:=K1.trans (jad.oneSetCells bh (jaI xs) (8+n) w3);simp only at G2
   obtain⟨w4,c8⟩:∃ x,x=w3.setCells bh (8+n) (jaI xs):=⟨_,rfl⟩
   rw[<-c8]at a6 G2 K2;have c9:=Hd G2;have d0:=Hd K2;have d1:=Hd a5;have a7:=Hd c6;clear G1 K1 G2 K2 c8 he X2 X3 HG HK c7 a5 c6 e7;refine jcr (w':=w4) (jln a6 vY) (Z _ _ ?_);clear a6 Z K w3 w2;refine vS ?_
   refine vP ?_
   refine qE (fun w5 he=>?_);have H:Hid (jbF w5 bh ⟨Vs,layB Q n xs,n⟩ SZ):=Hd (c9.o.keeps he (fun h=>h));have b2:=Hd (d0.o.trans' he (fun _ _ h=>h.elim));clear he c9 d0;have q:Hid (HSt.Ok ⟨Vs,layB Q n xs,n⟩):=Hd ⟨by simp only;rw[jtU (by rw[a7.o,b1.o];omega),b1.o],hn⟩;have a8:=H.o.held q.o.1;have d2:w5.frozen? ⟨bh,72,none⟩=false:=Blk.frozen H.o;simp only at a8;have d3:r.data.toList=t.data.toList.drop j:=by
    rw[HR.o,fF,fV]
    have:=Lib.size_eq t
    simp only[fG];rw[cD (by simp)]
   have J:jbI s (t.data.toList.take (j+m))=jbI ⟨Vs,Q,n⟩ xs:=by
    rw[List.take_add,jfI, <-a2.o,d1.o,d3]
   have O:r.extract m r.size=t.extract (j+m) t.size:=by
    have E:=c5.o;rw[HR.o]at E ⊢;rw[E,ByteArray.extract_extract]
    congr 1 <;> omega
   have d4:(r.extract m r.size).size=r.size - m:=by simp[cS]
   have d5:=Hd J;have d6:=Hd O;have d7:=Hd d4;clear d3 J O d4 HR a2 d1 HM e8;have d8:j+m<=t.size:=by have:=c5.o;omega
   by_cases hfull:n+m=64
   ·have hq:((n:Int)+(m:Int) == 64)=true:=by simp;omega
    have A:=jl2 xs ⟨Vs,Q,n⟩ a4.o (by simp only;rw[a7.o];exact hfull);simp only at A;have b3:=Hd A;have d9:=H.o.setHeld q.o.1 (n+m);have e0:=b2.o.setCell (p:=⟨bh,72,none⟩) (.inl rfl) (.int .i64 ((n+m:Nat):Int));have b4:=Hd d9;have a9:=Hd e0;clear A d9 e0 H b2;go_wp2_with fail
    rw[<-Int.natCast_add]
    obtain⟨w6,e1⟩:∃ x,x=w5.setCell ⟨bh,72,none⟩ (.int .i64 ((n+m:Nat):Int)):=⟨_,rfl⟩
    rw[<-e1]at b4 a9 ⊢;clear e1 a8 d2;refine (jyW w6 bh Vs (layB Q n xs) _ _ q.o.1 b4.o (b9.o.keeps a9.o (Ne.symm hbh)) hbh).mono ?_;rintro e w7 ⟨rfl,e2,e3⟩;have b5:Hid (jbF w7 bh ⟨mixW Vs (layB Q n xs),layB Q n xs,n+m⟩ SZ):=Hd e2;have e9:=Hd (a9.o.trans e3);clear e2 e3 b4 a9;have a8:=b5.o.held q.o.1;have d2:w7.frozen? ⟨bh,72,none⟩=false:=Blk.frozen b5.o;simp only at a8;go_wp2_with fail
    refine⟨⟨j+m,d8,by rw[d6.o],?_,e9.o.setCell (.inl rfl) _⟩,?_⟩
    ·rw[d5.o,b3.o];exact b5.o.setHeld q.o.1 0
    ·show (r.extract m r.size).size < r.size;rw[d7.o];omega
   ·have hq:((n:Int)+(m:Int) == 64)=false:=by simp;omega
    have A:=jl3 xs ⟨Vs,Q,n⟩ a4.o (by simp only;rw[a7.o];omega);simp only[a7.o]at A;have b3:=Hd A;clear A;go_wp2_with fail
    refine⟨⟨j+m,d8,by rw[d6.o],?_,b2.o.setCell (.inl rfl) _⟩,?_⟩
    ·rw[d5.o,b3.o];exact H.o.setHeld q.o.1 (n+m)
    ·show (r.extract m r.size).size < r.size;rw[d7.o];omega
  ·have f0:r=⟨#[]⟩:=by
    have:r.size=0:=vO
    obtain⟨⟨l⟩⟩:=r
    cases l with
    | nil=>rfl
    | cons x y=>exact absurd this (gY _)
   have f1:j=t.size:=vO
   subst f0;have a0:st=jbI s t.data.toList:=by rw[a2.o,f1];have:=Lib.size_eq t;rw[cD vO]
   rw[a0]at HG;have HF:=Hd (b8.o.trans HK.o);clear b8 HK HR a2 a0 E c3;go_wp2_with fail
   go_ret
   exact⟨rfl,by rw[<-HZ.o];exact HG.o,HF.o⟩
def jo1(n:Nat):Nat:=(119 - n) % 64
def jg4(sz:UInt64)(i:Nat):vU:=UInt8.ofNat (sz.toNat * 8 % 18446744073709551616 / 2 ^ (56 - 8 * i))
def lenL(sz:UInt64):vN:=(List.range 8).map (jg4 sz)
def jpV(z:Nat)(sz:UInt64):vN:=128 ::(List.replicate z 0++lenL sz)
def jiF(z:Nat)(sz:UInt64)(k:Nat):vN:=128 ::(List.replicate z 0++((lenL sz).take k++List.replicate (8 - k) 0))
theorem jkh(sz:UInt64):(lenL sz).length=8:=by simp[lenL]
theorem jsG(z:Nat)(sz:UInt64)(k:Nat)(hk:k<=8):(jiF z sz k).length=1+z+8:=by simp[jiF,jkh];omega
theorem jsF(z:Nat)(sz:UInt64):jiF z sz 8=jpV z sz:=by
 unfold jiF jpV;rw[cD (by rw[jkh];omega)];simp
theorem jsH(z:Nat)(sz:UInt64)(k:Nat)(hk:k < 8):(jiF z sz k).set (1+z+k) (jg4 sz k)=jiF z sz (k+1):=by
 have e:=jkh sz;have o:k < (lenL sz).length:=vO
 have q:(lenL sz)[k]=jg4 sz k:=by simp[lenL]
 unfold jiF;rw[show 1+z+k=(z+k)+1 by omega,cY,fJ _ _ (by simp)];simp only[List.length_replicate];rw[show z+k - z=k by omega,fJ _ _ (by simp[e];omega)];rw[show 8 - k=(8 - (k+1))+1 by omega,fI,cR o,q];simp[e,Nat.min_eq_left (show k<=8 by omega)]
theorem jxQ(sz:UInt64)(k:Nat):IntKind.u64.wrap ((sz.toNat:Int) * 8) / 2 ^ (56 - 8 * k) % 256=((jg4 sz k).toNat:Int):=by
 unfold jg4;rw[gG];have h:∀ (a M p:Nat),((a:Int) * 8 % (M:Int)) / ((p:Nat):Int) % 256=((a * 8 % M / p % 256:Nat):Int):=by
  intro a M p;simp only[Int.natCast_emod,Int.natCast_ediv,Int.natCast_mul];rfl
 have e:=h sz.toNat 18446744073709551616 (2 ^ (56 - 8 * k));rw[Int.natCast_pow]at e;exact e
theorem ji3(l:vN)(k:Nat)(x:vU):(jaI l).set k (.int .u8 (x.toNat:Int))=jaI (l.set k x):=by unfold jaI;rw[iL]
theorem Tryz.uHash':(match Tryz.prog.underlying 189 with | some (.struct _)=>true | _=>false)=true:=vY
theorem Tryz.uHash:∃ fs,Tryz.prog.underlying 189=some (.struct fs):=by
 have h:=Tryz.uHash';cases hu:Tryz.prog.underlying 189 with
 | none=>rw[hu]at h;cases h
 | some d=>rw[hu]at h;cases d <;> first | exact⟨_,rfl⟩ | cases h
theorem Tryz.iHash:(Tryz.prog.info? 189).map (·.size)=some 74:=vY
theorem Tryz.newHash(w:vW):(Instr.alloc 189 true (.tuple #[])).run Tryz.prog w=.ok (.pointer (some ⟨w.heap.size,0,none⟩)) (w.alloc (.cells (jaJ (List.replicate 8 0) (List.replicate 64 0) 0 0).toArray 189)):=vY
theorem jka(ws:List UInt32)(B:vN)(n sz:Int):(jaJ ws B n sz).length=ws.length+B.length+2:=by simp[jaJ];omega
theorem jkb(ws:List UInt32)(B:vN)(n sz:Int):∀ v∈jaJ ws B n sz,v.oneCell'=true:=by
 intro v e;unfold jaJ at e;rcases bR.1 e with e | e
 ·rcases bR.1 e with e | e
  ·exact jsQ v e
  ·exact ji2 _ v e
 ·simp only[bJ,cJ,or_false]at e;rcases e with rfl | rfl <;> rfl
def jpf(x:UInt32):vU:=UInt8.ofNat x.toNat
def joW(x:UInt32):vN:=[jpf (shrW x 24),jpf (shrW x 16),jpf (shrW x 8),jpf x]
def outL(ws:List UInt32):vN:=ws.flatMap joW
theorem Tryz.run_byteW(x:UInt32)(w:vW):(convert 167 5 (wv x)).run Tryz.prog w=.ok (.int .u8 ((jpf x).toNat:Int)) w:=by
 have h:∀ n:Int,(convert 167 5 (.int .u32 n)).run Tryz.prog w=.ok (.int .u8 (IntKind.u8.wrap n)) w:=fun n=>by kernel_rfl
 unfold wv jpf;rw[h,jpZ,jhD]
theorem Tryz.index8(V:W8)(k:Nat)(hk:k < 8)(x:UInt32)(hx:V.words[k]?=some x)(w:vW):(Instr.index 185 (.agg (V.words.map wv).toArray) (.int .i64 (k:Int))).run Tryz.prog w=.ok (wv x) w:=by
 obtain⟨a,b,c,d,e,f,g,h⟩:=V
 rcases (show k=0\/k=1\/k=2\/k=3\/k=4\/k=5\/k=6\/k=7 by omega)with rfl | rfl | rfl | rfl | rfl | rfl | rfl | rfl <;>(cases hx;kernel_rfl)
def jw5(w:vW)(V:W8)(v i:vV)(wr:vW):Prop:=∃ k:Nat,k<=8/\i=.int .i64 k/\ORow 5 1 w wr v (4 * k) (jaI (outL (V.words.take k)))
def sumB(s:HSt)(sz:UInt64):vB:=⟨(outL (jbI s (jpV (jo1 s.n) sz)).V.words).toArray⟩
def jyv(w:vW)(g z L:Nat)(sz:UInt64)(i:vV)(wr:vW):Prop:=∃ k:Nat,k<=8/\i=.int .i64 k/\ORow 5 1 w wr (.slice (some ⟨g,0,none⟩) L L) L (jaI (jiF z sz k))
theorem jy3(w:vW)(bh:Nat)(s:HSt)(hs:s.Ok)(sz:UInt64)(hB:jbF w bh s (sz.toNat:Int))(hc:jbV w) :
  vR 83 #[.pointer (some ⟨bh,0,none⟩)] w (.string (sumB s sz)):=by
 obtain⟨i0,hi,b7,b8,b9⟩:=info_parts Tryz.infoU8
 obtain⟨fs,e5⟩:=Tryz.uHash
 have c6:w.rangeAt bh 0 (jaJ s.V.words s.B (s.n:Int) (sz.toNat:Int)):=fun j v hv=>by rw[cM];exact hB.cellL hv
 have c7:(jaJ s.V.words s.B (s.n:Int) (sz.toNat:Int)).length=74:=by rw[jka,hs.1];rfl
 have HB:=Hd hB;have HC:=Hd hc;have HS:=Hd hs;have c8:=Hd c6;have Z:=Hd c7;clear hB hc hs c6 c7;go_enter Tryz.func83,Tryz.ntmps83;go_wp2_with (first |(refine wpList_load_mid rfl 189 (.tmp 11) rfl bh 0 rfl _ _ c8.o e5 rfl (by rw[Z.o];exact Tryz.iHash) ?_) |(refine jal (cs:=jaJ (List.replicate 8 0) (List.replicate 64 0) 0 0) Tryz.newHash rfl rfl ?_))
 intro W2 B2 E2;refine jah (old:=jaJ (List.replicate 8 0) (List.replicate 64 0) 0 0) (vs:=jaJ s.V.words s.B (s.n:Int) (sz.toNat:Int)) rfl rfl rfl rfl B2 (by rw[Z.o];rfl) (by rw[Z.o];exact Tryz.iHash) (jkb _ _ _ _) ?_;intro W3 B3 K3
 obtain⟨g3,a8⟩:∃ g,g=w.heap.size:=⟨_,rfl⟩
 have X3:=Hd (E2.trans' K3 (fun x hx e=>by omega):jad (fun _=>False) w W3);rw[<-a8]at B3 ⊢;have c9:g3 < W3.heap.size:=B3.lt;have g0:0 < g3:=by rw[a8];exact HC.o.lt
 have d0:Hid (jbF W3 g3 s (sz.toNat:Int)):=Hd B3;have d1:=jbF.held (HB.o.keeps X3.o (fun h=>h)) HS.o.1;have d2:=Hd (jbF.siz (HB.o.keeps X3.o (fun h=>h)) HS.o.1);clear B2 E2 B3 K3 c8 Z HB
 obtain⟨n,hn⟩:=vE s.n
 have f5:n < 64:=by rw[hn];exact HS.o.2
 rw[<-hn]at d1
 obtain⟨z,hz⟩:=vE (jo1 n)
 have e6:(119 - (n:Int)).tmod 64=(z:Int):=by rw[hz];unfold jo1;rw[Int.tmod_eq_emod_of_nonneg vO];omega
 have f6:z < 64:=by rw[hz];unfold jo1;omega
 have HZ:=Hd hz;have HN:=Hd hn;clear hz hn
 obtain⟨L,hL⟩:=vE (1+z+8)
 have e7:1+(z:Int)+8=(L:Int):=vO
 have e8:(0:Int) < (L:Int):=vO
 have HL:=Hd hL;have e9:=Hd a8;have g1:L<=72:=vO
 clear a8 hL;have d3:=jfa (P:=Tryz.prog) W3 Tryz.uBytes hi b7 b8 rfl .i64 .i64 L (by rw[b9];omega) (by unfold maxLen;omega);have H:=ORow.lit (T:=5) (sz:=1) (List.replicate L (.int .u8 0)).toArray (n:=L) (ExtR W3) (by unfold maxLen;omega) (by simp)
 obtain⟨g,hg⟩:=vE W3.heap.size
 obtain⟨W4,d4⟩:∃ W,W=W3.alloc (.cells (List.replicate L (Value.int .u8 0)).toArray 5):=⟨_,rfl⟩
 rw[<-hg, <-d4]at d3 H;have g2:g3 < g:=by rw[hg];exact c9
 have g4:=Hd hg;clear hg d4 c9;have A:=H.own.cellAt 0 vO;have b4:=H.own.frozenAt 0;have d5:=Hd H;clear H;simp only at A;rw[bA (by simp;omega)]at A;go_wp2_with fail
 have E:=d5.o.set 0 (.int .u8 128);have e0:((List.replicate L (Value.int .u8 0)).toArray.toList).set 0 (.int .u8 128)=jaI (jiF z sz 0):=by
  have e1:jiF z sz 0=(List.replicate L (0:vU)).set 0 128:=by
   rw[HL.o,show 1+z+8=(z+8)+1 by omega,fI,dI];unfold jiF;simp only[List.take_zero,cP,Nat.sub_zero,List.replicate_append_replicate]
  rw[e1, <-ji3]
  congr 1
  simp[jaI]
 rw[e0]at E
 obtain⟨W5,d6⟩:∃ W,W=W4.setCell ⟨g,0,none⟩ (.int .u8 128):=⟨_,rfl⟩
 rw[<-d6]at E ⊢;have d7:=Hd E;clear E e0 A b4 d5 d3 e6 e7 e8 d1 d6;go_loopw [25] (fun i wr=>jyv W3 g z L sz i wr) (fun i _=>8 - (intOf i).toNat)
 case atStart=>exact⟨0,by omega,rfl,d7.o⟩
 case round =>
  obtain⟨k,hk,rfl,hR⟩:=hrel
  have J:=Hd hR;clear hR
  by_cases hlt:k < 8
  ·have f7:=jaa d2.o J.o.ext
   have a7:=J.o.own.cellAt (1+z+k) (by have:=HL.o;omega);have g5:=J.o.own.frozenAt (1+z+k);rw[bA (by rw[bytesV_len,jsG z sz k vO];omega)]at a7;have c0:(0:Int)<=1+(z:Int)+(k:Int):=vO
   have c1:1+(z:Int)+(k:Int) < (L:Int):=by have:=HL.o;omega
   have c2:(1+(z:Int)+(k:Int)).toNat=1+z+k:=vO
   have c3:(0:Int)<=56 - 8 * (k:Int):=vO
   have c4:(56 - 8 * (k:Int)).toNat=56 - 8 * k:=vO
   have c5:56 - 8 * (k:Int) < 64:=vO
   go_wp2_with fail
   rw[jxQ];have a0:=J.o.set (1+z+k) (.int .u8 ((jg4 sz k).toNat:Int));rw[ji3,jsH z sz k hlt]at a0
   exact⟨⟨k+1,by omega,by go_num,a0⟩,by simp[intOf];omega⟩
  ·have b0:k=8:=vO
   subst b0;have q:=J.o.own;rw[jsF]at q;have b1:=jbB wr Tryz.uBytes Tryz.uU8 Tryz.uStr q;have b2:=Hd J.o.ext;clear q d7 J d2;go_wp2_with fail
   rw[show ((8:Nat):Int)=(8:Int)from rfl];refine (jsO wr g3 s HS.o sz ⟨(jpV z sz).toArray⟩ (d0.o.keeps b2.o (fun h=>h)) (HC.o.ext (X3.o.trans b2.o)) vO).mono ?_;rintro e X ⟨rfl,d8,d9⟩
   obtain⟨S6,a9⟩:∃ x,x=jbI s (jpV z sz):=⟨_,rfl⟩
   have a1:jbF X g3 S6 ((sz+UInt64.ofNat (⟨(jpV z sz).toArray⟩:vB).size).toNat:Int):=by rw[a9];exact d8
   have b5:S6.Ok:=by rw[a9];exact HS.o.all _
   have f0:Hid (Ext w X):=Hd ((X3.o.trans b2.o).trans' d9 (fun x hx e=>by have:=e9.o;omega));have f1:=Hd a9
   obtain⟨w7,a3,K,a4⟩:=run_make_own (P:=Tryz.prog) (w:=X) X.heap.size 56 5 i0 _ 1 Tryz.uBytes hi b7 b8 .i64 .i64 32 (by rw[b9];omega) (by unfold maxLen;omega) (bM _)
   have b6:(Instr.makeSlice 56 (.int .i64 0) (.int .i64 32)).run Tryz.prog X=.ok (.slice (some ⟨X.heap.size,0,none⟩) 0 32) w7:=by rw[<-a3];rfl
   have e2:Hid (ORow 5 1 X w7 (.slice (some ⟨X.heap.size,0,none⟩) 0 32) 0 []):=Hd (ORow.made X K a4);have e3:jbF w7 g3 S6 _:=a1.keeps e2.o.ext (fun h=>h);have a5:w7.rangeAt g3 0 (S6.V.words.map wv):=fun j v hv=>by
    rw[cM];exact e3.cellL (by unfold jaJ;rw[bW,cU (bU.1 hv).1];exact hv)
   have O:=Hd a5
   obtain⟨V6,b3⟩:∃ v,v=S6.V:=⟨_,rfl⟩
   rw[<-b3]at O;have f2:=Hd b3;clear d8 a1 b5 a9 a3 K a4 e3 a5 d9 b3 b1;go_wp2_with (refine wpList_load_mid rfl 185 (.tmp 49) rfl g3 0 rfl _ _ O.o Tryz.uArr8 rfl Tryz.iArr8 ?_)
   clear b6 O HC d0;have f8:∀ (p:UInt32) (w:vW),(binOp .shr 167 (wv p) (.int .u64 24)).run Tryz.prog w=.ok (wv (shrW p 24)) w:=fun _ _=>jgD 24 vI .u64;have f9:∀ (p:UInt32) (w:vW),(binOp .shr 167 (wv p) (.int .u64 16)).run Tryz.prog w=.ok (wv (shrW p 16)) w:=fun _ _=>jgD 16 vI .u64;have g6:∀ (p:UInt32) (w:vW),(binOp .shr 167 (wv p) (.int .u64 8)).run Tryz.prog w=.ok (wv (shrW p 8)) w:=fun _ _=>jgD 8 vI .u64;have g7:=Tryz.run_byteW;go_loopw [7,51] (fun v i wr=>jw5 X V6 v i wr) (fun _ i _=>8 - (intOf i).toNat)
   case atStart=>exact⟨0,by omega,rfl,e2.o⟩
   case round =>
    obtain⟨k,hk,rfl,hR⟩:=hrel
    obtain⟨a,c,rfl⟩:=hR.sl
    have J:=Hd hR;clear hR
    by_cases hlt:k < 8
    ·obtain⟨x,hx⟩:∃ x,V6.words[k]?=some x:=⟨_,bA (by simp[W8.words];omega)⟩
     have g8:=fun w=>Tryz.index8 V6 k hlt x hx w;have Q:outL (V6.words.take (k+1))=outL (V6.words.take k)++joW x:=by
      unfold outL;rw[cE,hx];simp
     have f3:=Hd Q;clear hx Q;go_wp2_with (at_builtin;refine ja7 Tryz.sBytes (J.o.mono ((ExtR wr).alloc _)) (.tmp 54) (.tmp 66) rfl rfl rfl (ja5 (Blk.new wr _)) (news:=jaI (joW x)) (ji2 _) rfl rfl ?c1 ?c2 (fun v' w' r1 r2 r3=>?_))
     case c1=>unfold maxLen;omega
     case c2=>omega
     rw[<-jdm, <-f3.o,show 4 * k+4=4 * (k+1) by omega]at r1;have e4:=Hd r1;clear r1 r2 r3
     obtain⟨a2,c2,rfl⟩:=e4.o.sl
     go_wp2_with fail
     exact⟨⟨k+1,by omega,by go_num,e4.o⟩,by simp[intOf];omega⟩
    ·have b0:k=8:=vO
     subst b0;have q:=J.o.own;rw[cD (by simp[W8.words])]at q;have b1:=jbB wr Tryz.uBytes Tryz.uU8 Tryz.uStr q;have a6:(⟨(outL V6.words).toArray⟩:vB)=sumB s sz:=by
      unfold sumB;rw[f2.o,f1.o,HZ.o,HN.o]
     rw[a6]at b1;have f4:=Hd (f0.o.trans J.o.ext);clear q a6;go_wp2_with fail
     go_ret
     exact⟨rfl,f4.o⟩
def jmY:HSt:=⟨⟨0x6a09e667,0xbb67ae85,0x3c6ef372,0xa54ff53a,0x510e527f,0x9b05688c,0x1f83d9ab,0x5be0cd19⟩,List.replicate 64 0,0⟩
theorem jtN:jmY.Ok:=⟨rfl,by decide⟩
def shaL(l:vN):vB:=sumB (jbI jmY l) (UInt64.ofNat l.length)
def shaB(s:vB):vB:=shaL s.data.toList
theorem jyX(w:vW):vQ 81 #[] w fun e w'=>e=.returned (.pointer (some ⟨w.heap.size,0,none⟩))/\jbF w' w.heap.size jmY 0/\Ext w w':=by
 go_enter Tryz.func81,Tryz.ntmps81;go_wp2_with fail
 go_ret
 refine⟨rfl,?_,(ExtR w).alloc _⟩
 exact (congrArg (fun c=>Blk (w.alloc (.cells c 189)) w.heap.size (.cells (jaJ jmY.V.words jmY.B (jmY.n:Int) 0).toArray 189)) vY).mp (Blk.new w _)
def jyp(w:vW)(g:Nat)(I:HSt)(xs:vM)(i:vV)(wr:vW):Prop:=∃ k:Nat,k<=xs.length/\i=.int .i64 k/\jbF wr g (jbI I (catB (xs.take k)).data.toList) ((UInt64.ofNat (catB (xs.take k)).data.toList.length).toNat:Int)/\jad (fun x=>x=g) w wr
theorem RdS.slice{w:vW}{v:vV}{xs:vM}(h:RdS w v xs):∃ a c,v=.slice a xs.length c/\∀ (j:Nat) x,xs[j]?=some x->∃ b o,a=some ⟨b,o,none⟩/\w.cell? ⟨b,o+j,none⟩=some (.string x):=by
 rcases h with⟨a,c,rfl,rfl⟩ |⟨b,o,c,rfl,h2,h3,h4⟩
 ·exact⟨a,c,rfl,fun j x e=>by simp at e⟩
 ·exact⟨some ⟨b,o,none⟩,c,rfl,fun j x e=>⟨b,o,rfl,h4 j x e⟩⟩
theorem jqG(xs:vM)(k:Nat)(x:vB)(hx:xs[k]?=some x):(catB (xs.take (k+1))).data.toList=(catB (xs.take k)).data.toList++x.data.toList:=by
 unfold catB;rw[cE,hx];simp
theorem of_t(w:vW)(v:vV)(xs:vM)(hlen:xs.length<=1000000)(hr:RdS w v xs)(hc:jbV w) :
  vR 43 #[v] w (.string (shaB (catB xs))):=by
 obtain⟨a,c,rfl,J⟩:=hr.slice
 have a4:=Hd J;have HC:=Hd hc;clear J hc hr
 obtain⟨I,hI⟩:=vE jmY
 have K:I.Ok:=by rw[hI];exact jtN
 have O:=Hd K;have HI:=Hd hI;clear hI K;go_enter Tryz.func43,Tryz.ntmps43;go_wp2_with fail
 refine (jyX w).mono ?_;rintro e w1 ⟨rfl,z,Q⟩
 obtain⟨g,hg⟩:=vE w.heap.size
 rw[<-hg]at z ⊢;rw[<-HI.o]at z;have a5:=Hd z;have A:=Hd Q;have X:0≠g:=by have:=HC.o.lt;omega
 have HG:=Hd hg;clear z Q hg;go_wp2_with fail
 go_loopw [9] (fun i wr=>jyp w1 g I xs i wr) (fun i _=>xs.length - (intOf i).toNat)
 case atStart=>exact⟨0,by omega,rfl,by simpa [catB,jbI]using a5.o,jad.refl _ _⟩
 case round =>
  obtain⟨k,hk,rfl,H,hK⟩:=hrel
  have HH:=Hd H;have HK:=Hd hK;clear H hK
  by_cases hlt:k < xs.length
  ·obtain⟨x,hx⟩:∃ x,xs[k]?=some x:=⟨_,bA hlt⟩
   obtain⟨b,o,rfl,q⟩:=a4.o k x hx
   have a6:b≠g:=by
    have:b < w.heap.size:=dZ w _ q
    have:=HG.o;omega
   have a7:wr.cell? ⟨b,o+k,none⟩=some (.string x):=by
    have h1:=jaa q A.o;have Z:b < w1.heap.size:=dZ w1 _ h1;have e:=HK.o.block b Z a6;unfold World.cell? at *;rw[e];exact h1
   have a0:=jqG xs k x hx;have E:=Hd a0;clear a0 q hx;go_wp2_with fail
   refine (jsO wr g _ (O.o.all _) _ x HH.o ((HC.o.ext A.o).keeps HK.o X) (Ne.symm X)).mono ?_;rintro e w2 ⟨rfl,a1,a2⟩;have a8:=Hd a1;have a9:=Hd (HK.o.trans a2);clear a1 a2 a7;go_wp2_with fail
   refine⟨⟨k+1,by omega,by go_num,?_,a9.o⟩,by simp[intOf];omega⟩
   have h:=a8.o;rw[<-jfI, <-E.o]at h;rw[E.o,bF,UInt64.ofNat_add];rw[E.o,Lib.size_eq]at h;exact h
  ·have b0:k=xs.length:=vO
   subst b0;have H:=HH.o;rw[cG]at H;have b1:=Hd H;clear H HH;have a3:Hid (Ext w wr):=Hd (A.o.trans' HK.o (fun x hx e=>by have:=HG.o;omega));go_wp2_with fail
   refine vH (jy3 wr g _ (O.o.all _) _ b1.o (HC.o.ext a3.o)) fun w2 b2=>?_;have b3:=Hd (a3.o.trans b2);go_wp2_with fail
   go_ret
   refine⟨?_,b3.o⟩
   rw[HI.o];unfold shaB shaL;rfl
theorem jhd{a b:vB}(h:a.toList=b.toList):a=b:=by
 rw[bX,bX]at h
 obtain⟨⟨l⟩⟩:=a;obtain⟨⟨m⟩⟩:=b
 simp at h;rw[h]
theorem jdN(a:vB):catB [a]=a:=by
 obtain⟨⟨l⟩⟩:=a;simp[catB]
theorem jwj{W w':vW}{x:vB}{T:TypeId}(h:Ext (W.alloc (.cells #[.string x] T)) w'):RdS w' (.slice (some ⟨W.heap.size,0,none⟩) 1 1) [x]:=by
 have e:Blk w' W.heap.size (.cells #[.string x] T):=(Blk.new W _).keeps h (fun h=>h);exact .inr ⟨W.heap.size,0,1,rfl,e.lt,bM _,fun j y o=>by
  rcases j with _ | j
  ·cases o;exact e.cell vF
  ·simp at o⟩
theorem jt8(ws:List UInt32):(outL ws).length=4 * ws.length:=by
 unfold outL;induction ws with
 | nil=>rfl
 | cons x r ih=>rw[cF,bF,ih];simp[joW];omega
theorem jsD(s:HSt)(sz:UInt64):(sumB s sz).size=32:=by
 rw[Lib.size_eq];unfold sumB;rw[List.toList_toArray,jt8];rfl
theorem jbg(s:vB):(shaB s).size=32:=jsD _ _
def refB(s:vB):vB:=if s.size < 32 then s else jaC (shaB s)
theorem jwl(w:vW)(s:vB)(hc:jbV w):vR 150 #[.string s] w (.string (refB s)):=by
 have J:=Hd hc;clear hc
 by_cases hlt:s.size < 32
 ·have K:(s.size:Int) < 32:=vO
  go_enter Tryz.func150,Tryz.ntmps150;go_wp2_with fail
  go_ret
  exact⟨by unfold refB;rw[if_pos hlt];rfl,ExtR w⟩
 ·have K:¬(s.size:Int) < 32:=vO
  go_enter Tryz.func150,Tryz.ntmps150;go_wp2_with fail
  refine vH (of_t _ _ [s] (by simp) (jwj (ExtR _)) (J.o.ext ((ExtR w).alloc _))) fun w1 z=>?_;rw[jdN];have A:Hid (Ext w w1):=Hd (((ExtR w).alloc _).trans z)
  obtain⟨h,q⟩:=vE (shaB s)
  have e:h.size<=1000000000:=by rw[q,jbg];omega
  rw[<-q];have O:=Hd q;clear q;go_wp2_with fail
  refine vH (jdT w1 h e) fun Q E=>?_;have H:=Hd (A.o.trans E);clear e;go_wp2_with fail
  go_ret
  exact⟨by unfold refB;rw[if_neg hlt, <-O.o];rfl,H.o⟩
def je5(s:vB)(r:Bool × Nat × Nat):Option vB:=if r.1=false/\r.2.1+r.2.2=s.size then some (s.extract r.2.1 (r.2.1+r.2.2))else none
def optV:Option vB->vV
 | some x=>.tuple #[.string x,.bool true]
 | none=>.tuple #[.string ⟨#[]⟩,.bool false]
theorem jvC{s:vB}{r:Bool × Nat × Nat}(h:cutN s=some r):r.2.1+r.2.2<=s.size:=by
 unfold cutN at h
 by_cases h0:0 < s.size
 ·rw[dif_pos h0]at h
  simp only at h
  by_cases h1:s[0].toNat < 128
  ·rw[if_pos h1]at h
   obtain rfl:=bV h;simp only;omega
  ·rw[if_neg h1]at h
   obtain⟨o,e⟩:∃ o:Bool × Nat,o=if s[0].toNat < 192 then (false,s[0].toNat - 128)else (true,s[0].toNat - 192):=⟨_,rfl⟩
   rw[<-e]at h;clear e
   obtain⟨l,m⟩:=o
   simp only at h
   by_cases h3:m<=55
   ·rw[if_pos h3]at h
    split at h
    ·rename_i hc;obtain rfl:=bV h;exact hc.1
    ·cases h
   ·rw[if_neg h3]at h
    split at h
    ·split at h
     ·rename_i hc;obtain rfl:=bV h;exact hc
     ·cases h
    ·cases h
 ·rw[dif_neg h0]at h;cases h
theorem jit(w:vW)(s:vB)(r:Bool × Nat × Nat)(hs:s.size<=1000000000)(h:cutN s=some r):vR 125 #[.string s] w (optV (je5 s r)):=by
 have q:=jvC h;go_enter Tryz.func125,Tryz.ntmps125;go_wp2_with fail
 refine vH (jnn w s r hs h) fun w1 z=>?_
 obtain⟨x,A⟩:=vE (s.extract r.2.1 (r.2.1+r.2.2))
 obtain⟨y,E⟩:∃ x,x=s.extract (r.2.1+r.2.2) s.size:=⟨_,rfl⟩
 have e:y.size=s.size - (r.2.1+r.2.2):=by rw[E];simp[cS]
 rw[<-A, <-E]
 obtain⟨l,p⟩:=r
 simp only at e q;have J:=Hd A;clear h A E hs;simp only;cases l with
 | true =>
  go_wp2_with fail
  exact bodyPost_ret (v:=optV none) vY rfl ⟨by unfold je5;rw[if_neg (by simp)],z.o⟩
 | false =>
  by_cases he:p.1+p.2=s.size
  ·have H:y=⟨#[]⟩:=by
    have:y.size=0:=vO
    obtain⟨⟨l⟩⟩:=y
    cases l with
    | nil=>rfl
    | cons x y=>exact absurd this (gY _)
   subst H;clear e;go_wp2_with fail
   exact bodyPost_ret (v:=optV (some x)) vY rfl ⟨by unfold je5;rw[if_pos ⟨rfl,he⟩,J.o],z.o⟩
  ·have K:=jbe (s:=y) vO
   clear e;go_wp2_with fail
   exact bodyPost_ret (v:=optV none) vY rfl ⟨by unfold je5;rw[if_neg (by simp[he])],z.o⟩
def jeV(s:vB)(r:Bool × Nat × Nat):Option vB:=(je5 s r).filter (fun x=>x.size=32)
theorem jeJ(w:vW)(s:vB)(r:Bool × Nat × Nat)(hs:s.size<=1000000000)(h:cutN s=some r):vR 87 #[.string s] w (optV (jeV s r)):=by
 go_enter Tryz.func87,Tryz.ntmps87;go_wp2_with fail
 refine vH (jit w s r hs h) fun w1 e=>?_;have hb:jeV s r=(je5 s r).filter (fun x=>x.size=32):=rfl
 obtain⟨o,A⟩:=vE (je5 s r)
 rw[<-A]at hb ⊢;have q:=Hd hb;clear h hs A hb;cases o with
 | none =>
  unfold optV;simp only;go_wp2_with fail
  exact bodyPost_ret (v:=optV none) vY rfl ⟨by rw[q.o];rfl,e.o⟩
 | some x =>
  unfold optV;simp only
  by_cases hx:x.size=32
  ·have E:((x.size:Int) == 32)=true:=by simp;omega
   have z:(x.size:Int)=32:=vO
   go_wp2_with fail
   exact bodyPost_ret (v:=optV (some x)) vY rfl ⟨by rw[q.o];simp[Option.filter,hx],e.o⟩
  ·have E:((x.size:Int) == 32)=false:=by simp;omega
   have z:¬(x.size:Int)=32:=vO
   go_wp2_with fail
   exact bodyPost_ret (v:=optV none) vY rfl ⟨by rw[q.o];simp[Option.filter,hx],e.o⟩
end Go.Proofs.YtmobgkphhbmhbaaGreatDoor
