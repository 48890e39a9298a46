/- Lemmas; each is under no condition but those that it states. -/
import Derived.Test.YtegloohdmjadoaaGreatDoorPu8
import Derived.Lib.LazyBuf
namespace Go.Proofs.YtegloohdmjadoaaGreatDoor
set_option linter.unusedSimpArgs false
set_option linter.unusedVariables false
set_option maxRecDepth 100000
set_option maxHeartbeats 16000000
open Go Go.RowKit
theorem jf4{P:Program}(w:vW)(dT sT ty elem:TypeId)(b o dLen dCap:Nat)(t:vB)(m:Nat)(hm:m=Nat.min t.size dLen)
  (hu:P.underlying dT=some (.slice elem)) (hz:∀ w,(Go.sizeOf elem).run P w=.ok 1 w)
  (hc:∀ j,j < m->(w.cell? ⟨b,o+j,none⟩).isSome=true) (hf:∀ j,j < m->w.frozen? ⟨b,o+j,none⟩=false) :
  (Builtin.copy_ #[dT,sT] ty #[.slice (some ⟨b,o,none⟩) dLen dCap,.string t]).run P w=.ok (goInt m) (w.setCells b o (jaK (t.data.toList.take m))):=by
 have A:(jaK (t.data.toList.take m)).length=m:=by
  have:=Lib.size_eq t
  have E:Nat.min t.size dLen=min t.size dLen:=rfl;simp[jaK];rw[E]at hm;omega
 have e:=run_storeCells_cells (P:=P) b o (jaK (t.data.toList.take m)) 0 w (by rw[A];simpa using hc) (by rw[A];simpa using hf) (by
  intro v H
  obtain⟨x,_,rfl⟩:=bI.1 H
  rfl)
 simp[Builtin.copy_,run_underlying hu,Builtin.lenOf,Builtin.firstCells,hz, <-hm];unfold jaK at e;rw[List.map_take]at e;rw[e];simp[jaK,List.map_take]
structure HSt where
 V:W8
 B:vN
 n:Nat
def HSt.Ok(s:HSt):Prop:=s.B.length=64/\s.n < 64
def jiX(s:HSt)(x:vU):HSt:=if s.n+1=64 then ⟨mixW s.V (s.B.set s.n x),s.B.set s.n x,0⟩else ⟨s.V,s.B.set s.n x,s.n+1⟩
def jbn(s:HSt)(l:vN):HSt:=l.foldl jiX s
theorem HSt.Ok.push{s:HSt}(h:s.Ok)(x:vU):(jiX s x).Ok:=by
 obtain⟨e,m⟩:=h
 unfold jiX HSt.Ok;split <;> simp[e] <;> omega
theorem HSt.Ok.all{s:HSt}(h:s.Ok)(l:vN):(jbn s l).Ok:=by
 unfold jbn;induction l generalizing s with
 | nil=>exact h
 | cons x r ih=>exact ih (h.push x)
theorem jcB(s:HSt)(l r:vN):jbn s (l++r)=jbn (jbn s l) r:=dF
def layB(B:vN)(n:Nat)(xs:vN):vN:=B.take n++xs++B.drop (n+xs.length)
theorem juR{B:vN}{n:Nat}{xs:vN}(h:n+xs.length<=B.length):(layB B n xs).length=B.length:=by simp[layB];omega
theorem jiI{B:vN}{n:Nat}(x:vU)(xs:vN)(h:n+1+xs.length<=B.length):layB (B.set n x) (n+1) xs=layB B n (x :: xs):=by
 unfold layB;have e:(B.set n x).take (n+1)=B.take n++[x]:=by
  rw[List.set_eq_take_append_cons_drop,if_pos vO,List.take_append,bQ (by simp;omega)];simp[iG (show n<=B.length by omega)]
 have m:(B.set n x).drop (n+1+xs.length)=B.drop (n+(x :: xs).length):=by
  rw[List.drop_set_of_lt vO]
  congr 1;simp;omega
 rw[e,m];simp
theorem jhC(xs:vN):∀ (s:HSt),s.Ok->s.n+xs.length < 64->jbn s xs=⟨s.V,layB s.B s.n xs,s.n+xs.length⟩:=by
 induction xs with
 | nil=>intro s h _;simp[jbn,layB]
 | cons x r ih =>
  intro s h m;simp only[bP]at m;have e:jiX s x=⟨s.V,s.B.set s.n x,s.n+1⟩:=by unfold jiX;rw[if_neg vO]
  show jbn (jiX s x) r=_;rw[ih _ (h.push x) (by rw[e];simp only;omega),e];simp only[bP];rw[jiI x r (by rw[h.1];omega),show s.n+1+r.length=s.n+(r.length+1) by omega]
theorem jhB(xs:vN):∀ (s:HSt),s.Ok->s.n+xs.length=64->jbn s xs=⟨mixW s.V (layB s.B s.n xs),layB s.B s.n xs,0⟩:=by
 induction xs with
 | nil=>intro s h m;exact absurd h.2 (by simp at m;omega)
 | cons x r ih =>
  intro s h m;simp only[bP]at m;show jbn (jiX s x) r=_
  by_cases hr:r.length=0
  ·have o:r=[]:=bD hr
   subst o;have e:jiX s x=⟨mixW s.V (s.B.set s.n x),s.B.set s.n x,0⟩:=by unfold jiX;rw[if_pos (by simp at m;omega)]
   rw[e]
   have:=jiI (B:=s.B) (n:=s.n) x [] (by rw[h.1];simp at m ⊢;omega)
   rw[<-this];simp[jbn,layB]
  ·have e:jiX s x=⟨s.V,s.B.set s.n x,s.n+1⟩:=by unfold jiX;rw[if_neg vO]
   rw[ih _ (h.push x) (by rw[e];simp only;omega),e];simp only;rw[jiI x r (by rw[h.1];omega)]
def jbJ(w:vW)(b:Nat)(s:HSt)(sz:Int):Prop:=Blk w b (.cells (jaP s.V.words s.B (s.n:Int) sz).toArray 158)
theorem jcC(v:W8):v.words.length=8:=rfl
theorem jbJ.held{w:vW}{b:Nat}{s:HSt}{sz:Int}(h:jbJ w b s sz)(hs:s.B.length=64):w.cell? ⟨b,72,none⟩=some (.int .i64 (s.n:Int)):=h.cellL (by
 unfold jaP;rw[cV (by simp[jcC,jaK,hs])];simp[jcC,jaK,hs])
theorem jbJ.siz{w:vW}{b:Nat}{s:HSt}{sz:Int}(h:jbJ w b s sz)(hs:s.B.length=64):w.cell? ⟨b,73,none⟩=some (.int .u64 sz):=h.cellL (by
 unfold jaP;rw[cV (by simp[jcC,jaK,hs])];simp[jcC,jaK,hs])
theorem jbJ.setHeld{w:vW}{b:Nat}{s:HSt}{sz:Int}(h:jbJ w b s sz)(hs:s.B.length=64)(n:Nat):jbJ (w.setCell ⟨b,72,none⟩ (.int .i64 (n:Int))) b ⟨s.V,s.B,n⟩ sz:=by
 have:=h.set_same (i:=72) (.int .i64 (n:Int))
 unfold jbJ;unfold jaP at this ⊢;rw[gA,fD _ _ (by simp[jcC,jaK,hs])]at this;simpa [jcC,jaK,hs]using this
theorem jbJ.setSiz{w:vW}{b:Nat}{s:HSt}{sz:Int}(h:jbJ w b s sz)(hs:s.B.length=64)(z:Int):jbJ (w.setCell ⟨b,73,none⟩ (.int .u64 z)) b s z:=by
 have:=h.set_same (i:=73) (.int .u64 z)
 unfold jbJ;unfold jaP at this ⊢;rw[gA,fD _ _ (by simp[jcC,jaK,hs])]at this;simpa [jcC,jaK,hs]using this
theorem jbJ.lay{w:vW}{b:Nat}{s:HSt}{sz:Int}(h:jbJ w b s sz)(hs:s.B.length=64)(xs:vN)(hx:s.n+xs.length<=64):jbJ (w.setCells b (8+s.n) (jaK xs)) b ⟨s.V,layB s.B s.n xs,s.n⟩ sz:=by
 have:=Blk.setCells (jaK xs) (8+s.n) w _ h (by simp[jaP,jcC,jaK,hs];omega)
 unfold jbJ;have e:(jaP s.V.words s.B (s.n:Int) sz).take (8+s.n)++jaK xs++(jaP s.V.words s.B (s.n:Int) sz).drop (8+s.n+(jaK xs).length)=jaP s.V.words (layB s.B s.n xs) (s.n:Int) sz:=by
  unfold jaP layB;have m:(s.V.words.map wv).length=8:=rfl;have o:(jaK s.B).length=64:=by simp[jaK,hs]
  have A:(jaK xs).length=xs.length:=by simp[jaK]
  rw[cB (s.V.words.map wv),List.take_append,List.drop_append,m,A];rw[bQ (by rw[m];omega),gW (l:=s.V.words.map wv) (by rw[m];omega)];rw[show 8+s.n - 8=s.n by omega,show 8+s.n+xs.length - 8=s.n+xs.length by omega];rw[List.take_append_of_le_length (by rw[o];omega),iE (by rw[o];omega)];simp[jaK,List.map_take,List.map_drop]
 rw[e]at this;exact this
theorem jrH{P:Program}{a:Act}{w:vW}{v:vV}{p:Addr}{d:Option Tmp}{t ty:TypeId}{x:Operand}{pos:String}{af:Array Edge}{g:Option (Nat × Bool)}(h:(Instr.loadAt t (.pointer (some p))).run P w=.ok v w)(hx:a.eval x=.pointer (some p)) :
  (execOp a.eval ⟨d,.load t x,ty,pos,af,g⟩).run P w=.ok (.value v) w:=by
 simp only[execOp,hx,cA,h,Result.andThen,cR]
def jzP(v:vV):Nat:=match v with | .string t=>t.size | _=>0
def jAx(w:vW)(bh:Nat)(s:HSt)(sz:Int)(t:vB)(v:vV)(wr:vW):Prop:=∃ j:Nat,j<=t.size/\v=.string (t.extract j t.size)/\jbJ wr bh (jbn s (t.data.toList.take j)) sz/\jae (fun x=>x=bh) w wr
theorem jtE(sz:UInt64)(n:Nat):IntKind.u64.wrap ((sz.toNat:Int)+IntKind.u64.wrap (n:Int))=((sz+UInt64.ofNat n).toNat:Int):=by
 rw[UInt64.toNat_add,UInt64.toNat_ofNat'];show ((sz.toNat:Int)+(n:Int) % (18446744073709551616:Int)) % (18446744073709551616:Int)=_;simp only[Int.natCast_emod,Int.natCast_add];rfl
theorem Tryz.uSlU8:Tryz.prog.underlying 52=some (.slice 5):=vY
theorem Tryz.szU8(w:vW):(Go.sizeOf 5).run Tryz.prog w=.ok 1 w:=vY
theorem Tryz.uInt:Tryz.prog.underlying 3=some (.int .i64):=vY
theorem jtF(w:vW)(bh:Nat)(s:HSt)(hs:s.Ok)(sz:UInt64)(t:vB)(hB:jbJ w bh s (sz.toNat:Int))(hc:jbW w)(hbh:bh≠0) :
  vQ 68 #[.pointer (some ⟨bh,0,none⟩),.string t] w fun e w'=>e=.returned (.pointer (some ⟨bh,0,none⟩))/\jbJ w' bh (jbn s t.data.toList) ((sz+UInt64.ofNat t.size).toNat:Int)/\jae (fun x=>x=bh) w w':=by
 have e4:=hB.siz hs.1;have e5:w.frozen? ⟨bh,73,none⟩=false:=hB.frozen;have HB:=Hd hB;have HC:=Hd hc;have HS:=Hd hs;clear hB hc hs;go_enter Tryz.func68,Tryz.ntmps68;go_wp2_with fail
 have hz:=jtE sz t.size
 obtain⟨SZ,b6⟩:∃ z,z=IntKind.u64.wrap ((sz.toNat:Int)+IntKind.u64.wrap (t.size:Int)):=⟨_,rfl⟩
 rw[<-b6]at hz ⊢;have b0:=HB.o.setSiz HS.o.1 SZ;have Z:=(jae.refl (fun x=>x=bh) w).setCell (p:=⟨bh,73,none⟩) (.inl rfl) (.int .u64 SZ)
 obtain⟨w1,b7⟩:=vE (w.setCell ⟨bh,73,none⟩ (.int .u64 SZ))
 rw[<-b7]at b0 Z ⊢;have e6:=Hd b0;have b8:=Hd Z;have HZ:=Hd hz;have b9:=Hd (HC.o.keeps Z (Ne.symm hbh));clear b0 Z b7 hz b6 e4 e5 HB HC
 obtain⟨wt,c0⟩:∃ x,x=IntKind.u64.wrap (t.size:Int):=⟨_,rfl⟩
 rw[<-c0];clear c0;go_loopw [1] (fun v wr=>jAx w1 bh s SZ t v wr) (fun v _=>jzP v)
 case atStart=>exact⟨0,by omega,by rw[show t.extract 0 t.size=t by simp],e6.o,jae.refl _ _⟩
 case round =>
  obtain⟨j,hj,rfl,hG,hK⟩:=hrel
  have HK:=Hd hK;have e7:=Hd (b9.o.keeps hK (Ne.symm hbh))
  obtain⟨st,a1⟩:=vE (jbn s (t.data.toList.take j))
  have c3:st.Ok:=by rw[a1];exact HS.o.all _
  rw[<-a1]at hG;have HG:=Hd hG;have a2:=Hd a1
  obtain⟨r,hr⟩:=vE (t.extract j t.size)
  have H:r.size=t.size - j:=by rw[hr];simp[cH]
  have HR:=Hd hr;rw[<-hr];clear hG a1 hK hr
  by_cases hlt:j < t.size
  ·have f2:=jbe (s:=r) vO
   obtain⟨Vs,X,n⟩:=st
   obtain⟨a3,hn⟩:=c3
   simp only at a3 hn
   obtain⟨m,hm⟩:=vE (Nat.min r.size (64 - n))
   have c4:m=min r.size (64 - n):=hm;have f3:0 < m:=vO
   have f4:m<=r.size:=vO
   have f5:n+m<=64:=vO
   have a4:Hid (HSt.Ok ⟨Vs,X,n⟩):=Hd ⟨a3,hn⟩;have c1:(n:Int)<=64:=vO
   have c2:(64 - (n:Int)).toNat=64 - n:=vO
   have c5:=Hd H;have HM:=Hd hm;have e8:=Hd c4;have b1:=Hd a3;clear H hm c4 a3;go_wp2_with fail
   refine jay [0,1,2,3,4,5,8,6,7,9,10] [6,9] Ext ExtR ExtT vY vY vY ?_
   refine vP ?_
   refine qA _ (.pointer (some ⟨bh,0,none⟩)) rfl (fun w1=>by kernel_rfl) ?_;refine vS ?_;iterate 2 refine vP ?_
   refine qA _ (.pointer (some ⟨bh,0,none⟩)) rfl (fun w1=>by kernel_rfl) ?_;refine vS ?_;iterate 2 refine vP ?_
   refine qH _ rfl (fun w2 he K hK=>?_);have X2:=(jai wr).trans he;refine jcu (w':=w2) (jrH (jab Tryz.uInt rfl (jaa (HG.o.held a4.o.1) X2)) vY) (hK _ _ ?_);clear hK K he;refine vS ?_
   refine vP ?_
   refine qH _ rfl (fun w3 he K hK=>?_);have X3:=X2.trans he
   obtain⟨xs,a5⟩:∃ x,x=r.data.toList.take m:=⟨_,rfl⟩
   have c6:xs.length=m:=by rw[a5];have:=Lib.size_eq r;simp;omega
   have G1:=HG.o.keeps X3 (fun h=>h);have K1:=HK.o.trans' X3 (fun _ _ h=>h.elim);have c7:(jaP Vs.words X (n:Int) SZ).length=74:=by simp[jaP,jcC,jaK,b1.o]
   have a6:=jf4 (P:=Tryz.prog) w3 52 9 3 5 bh (8+n) (64 - n) (64 - n) r m HM.o Tryz.uSlU8 Tryz.szU8
    (by intro j hj;rw[Blk.cellL G1 (i:=8+n+j) (bA (by rw[c7];omega))];rfl) (by intro j hj;exact Blk.frozen G1)
   rw[<-a5]at a6;have G2:=jbJ.lay G1 a4.o.1 xs (by simp only;omega);have K2:=K1.trans (jae.oneSetCells bh (jaK xs) (8+n) w3);simp only at G2
   obtain⟨w4,c8⟩:∃ x,x=w3.setCells bh (8+n) (jaK xs):=⟨_,rfl⟩
   rw[<-c8]at a6 G2 K2;have c9:=Hd G2;have d0:=Hd K2;have d1:=Hd a5;have a7:=Hd c6;clear G1 K1 G2 K2 c8 he X2 X3 HG HK c7 a5 c6 e7;refine jcu (w':=w4) (jlH a6 vY) (hK _ _ ?_);clear a6 hK K w3 w2;refine vS ?_
   refine vP ?_
   refine qE (fun w5 he=>?_);have J:Hid (jbJ w5 bh ⟨Vs,layB X n xs,n⟩ SZ):=Hd (c9.o.keeps he (fun h=>h));have b2:=Hd (d0.o.trans' he (fun _ _ h=>h.elim));clear he c9 d0;have A:Hid (HSt.Ok ⟨Vs,layB X n xs,n⟩):=Hd ⟨by simp only;rw[juR (by rw[a7.o,b1.o];omega),b1.o],hn⟩;have a8:=J.o.held A.o.1;have d2:w5.frozen? ⟨bh,72,none⟩=false:=Blk.frozen J.o;simp only at a8;have d3:r.data.toList=t.data.toList.drop j:=by
    rw[HR.o,cX,fF]
    have:=Lib.size_eq t
    simp only[dQ];rw[bQ (by simp)]
   have O:jbn s (t.data.toList.take (j+m))=jbn ⟨Vs,X,n⟩ xs:=by
    rw[List.take_add,jcB, <-a2.o,d1.o,d3]
   have Q:r.extract m r.size=t.extract (j+m) t.size:=by
    have H:=c5.o;rw[HR.o]at H ⊢;rw[H,ByteArray.extract_extract]
    congr 1 <;> omega
   have d4:(r.extract m r.size).size=r.size - m:=by simp[cH]
   have d5:=Hd O;have d6:=Hd Q;have d7:=Hd d4;clear d3 O Q d4 HR a2 d1 HM e8;have d8:j+m<=t.size:=by have:=c5.o;omega
   by_cases hfull:n+m=64
   ·have hq:((n:Int)+(m:Int) == 64)=true:=by simp;omega
    have E:=jhB xs ⟨Vs,X,n⟩ a4.o (by simp only;rw[a7.o];exact hfull);simp only at E;have b3:=Hd E;have d9:=J.o.setHeld A.o.1 (n+m);have e0:=b2.o.setCell (p:=⟨bh,72,none⟩) (.inl rfl) (.int .i64 ((n+m:Nat):Int));have b4:=Hd d9;have a9:=Hd e0;clear E d9 e0 J b2;go_wp2_with fail
    rw[<-Int.natCast_add]
    obtain⟨w6,e1⟩:∃ x,x=w5.setCell ⟨bh,72,none⟩ (.int .i64 ((n+m:Nat):Int)):=⟨_,rfl⟩
    rw[<-e1]at b4 a9 ⊢;clear e1 a8 d2;refine (jAM w6 bh Vs (layB X n xs) _ _ A.o.1 b4.o (b9.o.keeps a9.o (Ne.symm hbh)) hbh).mono ?_;rintro e w7 ⟨rfl,e2,e3⟩;have b5:Hid (jbJ w7 bh ⟨mixW Vs (layB X n xs),layB X n xs,n+m⟩ SZ):=Hd e2;have e9:=Hd (a9.o.trans e3);clear e2 e3 b4 a9;have a8:=b5.o.held A.o.1;have d2:w7.frozen? ⟨bh,72,none⟩=false:=Blk.frozen b5.o;simp only at a8;go_wp2_with fail
    refine⟨⟨j+m,d8,by rw[d6.o],?_,e9.o.setCell (.inl rfl) _⟩,?_⟩
    ·rw[d5.o,b3.o];exact b5.o.setHeld A.o.1 0
    ·show (r.extract m r.size).size < r.size;rw[d7.o];omega
   ·have hq:((n:Int)+(m:Int) == 64)=false:=by simp;omega
    have E:=jhC xs ⟨Vs,X,n⟩ a4.o (by simp only;rw[a7.o];omega);simp only[a7.o]at E;have b3:=Hd E;clear E;go_wp2_with fail
    refine⟨⟨j+m,d8,by rw[d6.o],?_,b2.o.setCell (.inl rfl) _⟩,?_⟩
    ·rw[d5.o,b3.o];exact J.o.setHeld A.o.1 (n+m)
    ·show (r.extract m r.size).size < r.size;rw[d7.o];omega
  ·have f0:r=⟨#[]⟩:=by
    have:r.size=0:=vO
    obtain⟨⟨l⟩⟩:=r
    cases l with
    | nil=>rfl
    | cons x y=>exact absurd this (iA _)
   have f1:j=t.size:=vO
   subst f0;have a0:st=jbn s t.data.toList:=by rw[a2.o,f1];have:=Lib.size_eq t;rw[bQ vO]
   rw[a0]at HG;have HF:=Hd (b8.o.trans HK.o);clear b8 HK HR a2 a0 H c3;go_wp2_with fail
   go_ret
   exact⟨rfl,by rw[<-HZ.o];exact HG.o,HF.o⟩
def jj1(n:Nat):Nat:=(119 - n) % 64
def jd7(sz:UInt64)(i:Nat):vU:=UInt8.ofNat (sz.toNat * 8 % 18446744073709551616 / 2 ^ (56 - 8 * i))
def lenL(sz:UInt64):vN:=(List.range 8).map (jd7 sz)
def jmG(z:Nat)(sz:UInt64):vN:=128 ::(List.replicate z 0++lenL sz)
def jjc(z:Nat)(sz:UInt64)(k:Nat):vN:=128 ::(List.replicate z 0++((lenL sz).take k++List.replicate (8 - k) 0))
theorem jeI(sz:UInt64):(lenL sz).length=8:=by simp[lenL]
theorem jts(z:Nat)(sz:UInt64)(k:Nat)(hk:k<=8):(jjc z sz k).length=1+z+8:=by simp[jjc,jeI];omega
theorem jtr(z:Nat)(sz:UInt64):jjc z sz 8=jmG z sz:=by
 unfold jjc jmG;rw[bQ (by rw[jeI];omega)];simp
theorem jtt(z:Nat)(sz:UInt64)(k:Nat)(hk:k < 8):(jjc z sz k).set (1+z+k) (jd7 sz k)=jjc z sz (k+1):=by
 have e:=jeI sz;have m:k < (lenL sz).length:=vO
 have o:(lenL sz)[k]=jd7 sz k:=by simp[lenL]
 unfold jjc;rw[show 1+z+k=(z+k)+1 by omega,dB,fD _ _ (by simp)];simp only[List.length_replicate];rw[show z+k - z=k by omega,fD _ _ (by simp[e];omega)];rw[show 8 - k=(8 - (k+1))+1 by omega,fC,cS m,o];simp[e,iG (show k<=8 by omega)]
theorem jv9(sz:UInt64)(k:Nat):IntKind.u64.wrap ((sz.toNat:Int) * 8) / 2 ^ (56 - 8 * k) % 256=((jd7 sz k).toNat:Int):=by
 unfold jd7;rw[fJ];have h:∀ (a M p:Nat),((a:Int) * 8 % (M:Int)) / ((p:Nat):Int) % 256=((a * 8 % M / p % 256:Nat):Int):=by
  intro a M p;simp only[Int.natCast_emod,Int.natCast_ediv,Int.natCast_mul];rfl
 have e:=h sz.toNat 18446744073709551616 (2 ^ (56 - 8 * k));rw[Int.natCast_pow]at e;exact e
theorem jjv(l:vN)(k:Nat)(x:vU):(jaK l).set k (.int .u8 (x.toNat:Int))=jaK (l.set k x):=by unfold jaK;rw[gU]
theorem Tryz.uHash':(match Tryz.prog.underlying 158 with | some (.struct _)=>true | _=>false)=true:=vY
theorem Tryz.uHash:∃ fs,Tryz.prog.underlying 158=some (.struct fs):=by
 have h:=Tryz.uHash';cases hu:Tryz.prog.underlying 158 with
 | none=>rw[hu]at h;cases h
 | some d=>rw[hu]at h;cases d <;> first | exact⟨_,rfl⟩ | cases h
theorem Tryz.iHash:(Tryz.prog.info? 158).map (·.size)=some 74:=vY
theorem Tryz.newHash(w:vW):(Instr.alloc 158 true (.tuple #[])).run Tryz.prog w=.ok (.pointer (some ⟨w.heap.size,0,none⟩)) (w.alloc (.cells (jaP (List.replicate 8 0) (List.replicate 64 0) 0 0).toArray 158)):=vY
theorem jks(ws:List UInt32)(B:vN)(n sz:Int):(jaP ws B n sz).length=ws.length+B.length+2:=by simp[jaP];omega
theorem jkt(ws:List UInt32)(B:vN)(n sz:Int):∀ v∈jaP ws B n sz,v.oneCell'=true:=by
 intro v e;unfold jaP at e;rcases bW.1 e with e | e
 ·rcases bW.1 e with e | e
  ·exact jtH v e
  ·exact jju _ v e
 ·simp only[bX,iS,or_false]at e;rcases e with rfl | rfl <;> rfl
def jm1(x:UInt32):vU:=UInt8.ofNat x.toNat
def jgI(x:UInt32):vN:=[jm1 (shrW x 24),jm1 (shrW x 16),jm1 (shrW x 8),jm1 x]
def outL(ws:List UInt32):vN:=ws.flatMap jgI
theorem Tryz.run_byteW(x:UInt32)(w:vW):(convert 145 5 (wv x)).run Tryz.prog w=.ok (.int .u8 ((jm1 x).toNat:Int)) w:=by
 have h:∀ n:Int,(convert 145 5 (.int .u32 n)).run Tryz.prog w=.ok (.int .u8 (IntKind.u8.wrap n)) w:=fun n=>by kernel_rfl
 unfold wv jm1;rw[h,jqB,jhY]
theorem Tryz.index8(V:W8)(k:Nat)(hk:k < 8)(x:UInt32)(hx:V.words[k]?=some x)(w:vW):(Instr.index 154 (.agg (V.words.map wv).toArray) (.int .i64 (k:Int))).run Tryz.prog w=.ok (wv x) w:=by
 obtain⟨a,b,c,d,e,f,g,h⟩:=V
 rcases (show k=0\/k=1\/k=2\/k=3\/k=4\/k=5\/k=6\/k=7 by omega)with rfl | rfl | rfl | rfl | rfl | rfl | rfl | rfl <;>(cases hx;kernel_rfl)
def jyx(w:vW)(V:W8)(v i:vV)(wr:vW):Prop:=∃ k:Nat,k<=8/\i=.int .i64 k/\ORow 5 1 w wr v (4 * k) (jaK (outL (V.words.take k)))
def sumB(s:HSt)(sz:UInt64):vB:=⟨(outL (jbn s (jmG (jj1 s.n) sz)).V.words).toArray⟩
def jAv(w:vW)(g z L:Nat)(sz:UInt64)(i:vV)(wr:vW):Prop:=∃ k:Nat,k<=8/\i=.int .i64 k/\ORow 5 1 w wr (.slice (some ⟨g,0,none⟩) L L) L (jaK (jjc z sz k))
theorem jAY(w:vW)(bh:Nat)(s:HSt)(hs:s.Ok)(sz:UInt64)(hB:jbJ w bh s (sz.toNat:Int))(hc:jbW w) :
  vR 69 #[.pointer (some ⟨bh,0,none⟩)] w (.string (sumB s sz)):=by
 obtain⟨i0,hi,b7,b8,b9⟩:=info_parts Tryz.infoU8
 obtain⟨fs,e5⟩:=Tryz.uHash
 have c6:w.rangeAt bh 0 (jaP s.V.words s.B (s.n:Int) (sz.toNat:Int)):=fun j v hv=>by rw[cF];exact hB.cellL hv
 have c7:(jaP s.V.words s.B (s.n:Int) (sz.toNat:Int)).length=74:=by rw[jks,hs.1];rfl
 have HB:=Hd hB;have HC:=Hd hc;have HS:=Hd hs;have c8:=Hd c6;have Z:=Hd c7;clear hB hc hs c6 c7;go_enter Tryz.func69,Tryz.ntmps69;go_wp2_with (first |(refine wpList_load_mid rfl 158 (.tmp 11) rfl bh 0 rfl _ _ c8.o e5 rfl (by rw[Z.o];exact Tryz.iHash) ?_) |(refine jaj (cs:=jaP (List.replicate 8 0) (List.replicate 64 0) 0 0) Tryz.newHash rfl rfl ?_))
 intro W2 B2 E2;refine jag (old:=jaP (List.replicate 8 0) (List.replicate 64 0) 0 0) (vs:=jaP s.V.words s.B (s.n:Int) (sz.toNat:Int)) rfl rfl rfl rfl B2 (by rw[Z.o];rfl) (by rw[Z.o];exact Tryz.iHash) (jkt _ _ _ _) ?_;intro W3 B3 K3
 obtain⟨g3,a8⟩:∃ g,g=w.heap.size:=⟨_,rfl⟩
 have X3:=Hd (E2.trans' K3 (fun x hx e=>by omega):jae (fun _=>False) w W3);rw[<-a8]at B3 ⊢;have c9:g3 < W3.heap.size:=B3.lt;have g0:0 < g3:=by rw[a8];exact HC.o.lt
 have d0:Hid (jbJ W3 g3 s (sz.toNat:Int)):=Hd B3;have d1:=jbJ.held (HB.o.keeps X3.o (fun h=>h)) HS.o.1;have d2:=Hd (jbJ.siz (HB.o.keeps X3.o (fun h=>h)) HS.o.1);clear B2 E2 B3 K3 c8 Z HB
 obtain⟨n,hn⟩:=vE s.n
 have f5:n < 64:=by rw[hn];exact HS.o.2
 rw[<-hn]at d1
 obtain⟨z,hz⟩:=vE (jj1 n)
 have e6:(119 - (n:Int)).tmod 64=(z:Int):=by rw[hz];unfold jj1;rw[Int.tmod_eq_emod_of_nonneg vO];omega
 have f6:z < 64:=by rw[hz];unfold jj1;omega
 have HZ:=Hd hz;have HN:=Hd hn;clear hz hn
 obtain⟨L,hL⟩:=vE (1+z+8)
 have e7:1+(z:Int)+8=(L:Int):=vO
 have e8:(0:Int) < (L:Int):=vO
 have HL:=Hd hL;have e9:=Hd a8;have g1:L<=72:=vO
 clear a8 hL;have d3:=jfl (P:=Tryz.prog) W3 Tryz.uBytes hi b7 b8 rfl .i64 .i64 L (by rw[b9];omega) (by unfold maxLen;omega);have H:=ORow.lit (T:=5) (sz:=1) (List.replicate L (.int .u8 0)).toArray (n:=L) (ExtR W3) (by unfold maxLen;omega) (by simp)
 obtain⟨g,hg⟩:=vE W3.heap.size
 obtain⟨W4,d4⟩:∃ W,W=W3.alloc (.cells (List.replicate L (Value.int .u8 0)).toArray 5):=⟨_,rfl⟩
 rw[<-hg, <-d4]at d3 H;have g2:g3 < g:=by rw[hg];exact c9
 have g4:=Hd hg;clear hg d4 c9;have A:=H.own.cellAt 0 vO;have b4:=H.own.frozenAt 0;have d5:=Hd H;clear H;simp only at A;rw[bA (by simp;omega)]at A;go_wp2_with fail
 have E:=d5.o.set 0 (.int .u8 128);have e0:((List.replicate L (Value.int .u8 0)).toArray.toList).set 0 (.int .u8 128)=jaK (jjc z sz 0):=by
  have e1:jjc z sz 0=(List.replicate L (0:vU)).set 0 128:=by
   rw[HL.o,show 1+z+8=(z+8)+1 by omega,fC,dJ];unfold jjc;simp only[jC,cM,Nat.sub_zero,List.replicate_append_replicate]
  rw[e1, <-jjv]
  congr 1
  simp[jaK]
 rw[e0]at E
 obtain⟨W5,d6⟩:∃ W,W=W4.setCell ⟨g,0,none⟩ (.int .u8 128):=⟨_,rfl⟩
 rw[<-d6]at E ⊢;have d7:=Hd E;clear E e0 A b4 d5 d3 e6 e7 e8 d1 d6;go_loopw [25] (fun i wr=>jAv W3 g z L sz i wr) (fun i _=>8 - (intOf i).toNat)
 case atStart=>exact⟨0,by omega,rfl,d7.o⟩
 case round =>
  obtain⟨k,hk,rfl,hR⟩:=hrel
  have J:=Hd hR;clear hR
  by_cases hlt:k < 8
  ·have f7:=jaa d2.o J.o.ext
   have a7:=J.o.own.cellAt (1+z+k) (by have:=HL.o;omega);have g5:=J.o.own.frozenAt (1+z+k);rw[bA (by rw[bytesV_len,jts z sz k vO];omega)]at a7;have c0:(0:Int)<=1+(z:Int)+(k:Int):=vO
   have c1:1+(z:Int)+(k:Int) < (L:Int):=by have:=HL.o;omega
   have c2:(1+(z:Int)+(k:Int)).toNat=1+z+k:=vO
   have c3:(0:Int)<=56 - 8 * (k:Int):=vO
   have c4:(56 - 8 * (k:Int)).toNat=56 - 8 * k:=vO
   have c5:56 - 8 * (k:Int) < 64:=vO
   go_wp2_with fail
   rw[jv9];have a0:=J.o.set (1+z+k) (.int .u8 ((jd7 sz k).toNat:Int));rw[jjv,jtt z sz k hlt]at a0
   exact⟨⟨k+1,by omega,by go_num,a0⟩,by simp[intOf];omega⟩
  ·have b0:k=8:=vO
   subst b0;have m:=J.o.own;rw[jtr]at m;have b1:=jbr wr Tryz.uBytes Tryz.uU8 Tryz.uStr m;have b2:=Hd J.o.ext;clear m d7 J d2;go_wp2_with fail
   rw[show ((8:Nat):Int)=(8:Int)from rfl];refine (jtF wr g3 s HS.o sz ⟨(jmG z sz).toArray⟩ (d0.o.keeps b2.o (fun h=>h)) (HC.o.ext (X3.o.trans b2.o)) vO).mono ?_;rintro e X ⟨rfl,d8,d9⟩
   obtain⟨S6,a9⟩:∃ x,x=jbn s (jmG z sz):=⟨_,rfl⟩
   have a1:jbJ X g3 S6 ((sz+UInt64.ofNat (⟨(jmG z sz).toArray⟩:vB).size).toNat:Int):=by rw[a9];exact d8
   have b5:S6.Ok:=by rw[a9];exact HS.o.all _
   have f0:Hid (Ext w X):=Hd ((X3.o.trans b2.o).trans' d9 (fun x hx e=>by have:=e9.o;omega));have f1:=Hd a9
   obtain⟨w7,a3,K,a4⟩:=run_make_own (P:=Tryz.prog) (w:=X) X.heap.size 52 5 i0 _ 1 Tryz.uBytes hi b7 b8 .i64 .i64 32 (by rw[b9];omega) (by unfold maxLen;omega) (bM _)
   have b6:(Instr.makeSlice 52 (.int .i64 0) (.int .i64 32)).run Tryz.prog X=.ok (.slice (some ⟨X.heap.size,0,none⟩) 0 32) w7:=by rw[<-a3];rfl
   have e2:Hid (ORow 5 1 X w7 (.slice (some ⟨X.heap.size,0,none⟩) 0 32) 0 []):=Hd (ORow.made X K a4);have e3:jbJ w7 g3 S6 _:=a1.keeps e2.o.ext (fun h=>h);have a5:w7.rangeAt g3 0 (S6.V.words.map wv):=fun j v hv=>by
    rw[cF];exact e3.cellL (by unfold jaP;rw[cB,cP (bO.1 hv).1];exact hv)
   have O:=Hd a5
   obtain⟨V6,b3⟩:∃ v,v=S6.V:=⟨_,rfl⟩
   rw[<-b3]at O;have f2:=Hd b3;clear d8 a1 b5 a9 a3 K a4 e3 a5 d9 b3 b1;go_wp2_with (refine wpList_load_mid rfl 154 (.tmp 49) rfl g3 0 rfl _ _ O.o Tryz.uArr8 rfl Tryz.iArr8 ?_)
   clear b6 O HC d0;have f8:∀ (p:UInt32) (w:vW),(binOp .shr 145 (wv p) (.int .u64 24)).run Tryz.prog w=.ok (wv (shrW p 24)) w:=fun _ _=>jdd 24 vI .u64;have f9:∀ (p:UInt32) (w:vW),(binOp .shr 145 (wv p) (.int .u64 16)).run Tryz.prog w=.ok (wv (shrW p 16)) w:=fun _ _=>jdd 16 vI .u64;have g6:∀ (p:UInt32) (w:vW),(binOp .shr 145 (wv p) (.int .u64 8)).run Tryz.prog w=.ok (wv (shrW p 8)) w:=fun _ _=>jdd 8 vI .u64;have g7:=Tryz.run_byteW;go_loopw [7,51] (fun v i wr=>jyx X V6 v i wr) (fun _ i _=>8 - (intOf i).toNat)
   case atStart=>exact⟨0,by omega,rfl,e2.o⟩
   case round =>
    obtain⟨k,hk,rfl,hR⟩:=hrel
    obtain⟨a,c,rfl⟩:=hR.sl
    have J:=Hd hR;clear hR
    by_cases hlt:k < 8
    ·obtain⟨x,hx⟩:∃ x,V6.words[k]?=some x:=⟨_,bA (by simp[W8.words];omega)⟩
     have g8:=fun w=>Tryz.index8 V6 k hlt x hx w;have Q:outL (V6.words.take (k+1))=outL (V6.words.take k)++jgI x:=by
      unfold outL;rw[bS,hx];simp
     have f3:=Hd Q;clear hx Q;go_wp2_with (at_builtin;refine jaS Tryz.sBytes (J.o.mono ((ExtR wr).alloc _)) (.tmp 54) (.tmp 66) rfl rfl rfl (jaH (Blk.new wr _)) (news:=jaK (jgI x)) (jju _) rfl rfl ?c1 ?c2 (fun v' w' r1 r2 r3=>?_))
     case c1=>unfold maxLen;omega
     case c2=>omega
     rw[<-jds, <-f3.o,show 4 * k+4=4 * (k+1) by omega]at r1;have e4:=Hd r1;clear r1 r2 r3
     obtain⟨a2,c2,rfl⟩:=e4.o.sl
     go_wp2_with fail
     exact⟨⟨k+1,by omega,by go_num,e4.o⟩,by simp[intOf];omega⟩
    ·have b0:k=8:=vO
     subst b0;have m:=J.o.own;rw[bQ (by simp[W8.words])]at m;have b1:=jbr wr Tryz.uBytes Tryz.uU8 Tryz.uStr m;have a6:(⟨(outL V6.words).toArray⟩:vB)=sumB s sz:=by
      unfold sumB;rw[f2.o,f1.o,HZ.o,HN.o]
     rw[a6]at b1;have f4:=Hd (f0.o.trans J.o.ext);clear m a6;go_wp2_with fail
     go_ret
     exact⟨rfl,f4.o⟩
def jhE:HSt:=⟨⟨0x6a09e667,0xbb67ae85,0x3c6ef372,0xa54ff53a,0x510e527f,0x9b05688c,0x1f83d9ab,0x5be0cd19⟩,List.replicate 64 0,0⟩
theorem jhT:jhE.Ok:=⟨rfl,by decide⟩
def shaL(l:vN):vB:=sumB (jbn jhE l) (UInt64.ofNat l.length)
def shaB(s:vB):vB:=shaL s.data.toList
theorem jAO(w:vW):vQ 67 #[] w fun e w'=>e=.returned (.pointer (some ⟨w.heap.size,0,none⟩))/\jbJ w' w.heap.size jhE 0/\Ext w w':=by
 go_enter Tryz.func67,Tryz.ntmps67;go_wp2_with fail
 go_ret
 refine⟨rfl,?_,(ExtR w).alloc _⟩
 exact (congrArg (fun c=>Blk (w.alloc (.cells c 158)) w.heap.size (.cells (jaP jhE.V.words jhE.B (jhE.n:Int) 0).toArray 158)) vY).mp (Blk.new w _)
def jAf(w:vW)(g:Nat)(I:HSt)(xs:vM)(i:vV)(wr:vW):Prop:=∃ k:Nat,k<=xs.length/\i=.int .i64 k/\jbJ wr g (jbn I (catB (xs.take k)).data.toList) ((UInt64.ofNat (catB (xs.take k)).data.toList.length).toNat:Int)/\jae (fun x=>x=g) w wr
theorem RdS.slice{w:vW}{v:vV}{xs:vM}(h:RdS w v xs):∃ a c,v=.slice a xs.length c/\∀ (j:Nat) x,xs[j]?=some x->∃ b o,a=some ⟨b,o,none⟩/\w.cell? ⟨b,o+j,none⟩=some (.string x):=by
 rcases h with⟨a,c,rfl,rfl⟩ |⟨b,o,c,rfl,h2,h3,h4⟩
 ·exact⟨a,c,rfl,fun j x e=>by simp at e⟩
 ·exact⟨some ⟨b,o,none⟩,c,rfl,fun j x e=>⟨b,o,rfl,h4 j x e⟩⟩
theorem jrl(xs:vM)(k:Nat)(x:vB)(hx:xs[k]?=some x):(catB (xs.take (k+1))).data.toList=(catB (xs.take k)).data.toList++x.data.toList:=by
 unfold catB;rw[bS,hx];simp
theorem of_t(w:vW)(v:vV)(xs:vM)(hlen:xs.length<=1000000)(hr:RdS w v xs)(hc:jbW w) :
  vR 33 #[v] w (.string (shaB (catB xs))):=by
 obtain⟨a,c,rfl,K⟩:=hr.slice
 have a5:=Hd K;have HC:=Hd hc;clear K hc hr
 obtain⟨I,hI⟩:=vE jhE
 have O:I.Ok:=by rw[hI];exact jhT
 have Q:=Hd O;have HI:=Hd hI;clear hI O;go_enter Tryz.func33,Tryz.ntmps33;go_wp2_with fail
 refine (jAO w).mono ?_;rintro e w1 ⟨rfl,A,X⟩
 obtain⟨g,hg⟩:=vE w.heap.size
 rw[<-hg]at A ⊢;rw[<-HI.o]at A;have a6:=Hd A;have E:=Hd X;have Z:0≠g:=by have:=HC.o.lt;omega
 have HG:=Hd hg;clear A X hg;go_wp2_with fail
 go_loopw [9] (fun i wr=>jAf w1 g I xs i wr) (fun i _=>xs.length - (intOf i).toNat)
 case atStart=>exact⟨0,by omega,rfl,by simpa [catB,jbn]using a6.o,jae.refl _ _⟩
 case round =>
  obtain⟨k,hk,rfl,J,hK⟩:=hrel
  have HH:=Hd J;have HK:=Hd hK;clear J hK
  by_cases hlt:k < xs.length
  ·obtain⟨x,hx⟩:∃ x,xs[k]?=some x:=⟨_,bA hlt⟩
   obtain⟨b,o,rfl,m⟩:=a5.o k x hx
   have a7:b≠g:=by
    have:b < w.heap.size:=fE w _ m
    have:=HG.o;omega
   have a8:wr.cell? ⟨b,o+k,none⟩=some (.string x):=by
    have h1:=jaa m E.o;have a0:b < w1.heap.size:=fE w1 _ h1;have e:=HK.o.block b a0 a7;unfold World.cell? at *;rw[e];exact h1
   have a1:=jrl xs k x hx;have H:=Hd a1;clear a1 m hx;go_wp2_with fail
   refine (jtF wr g _ (Q.o.all _) _ x HH.o ((HC.o.ext E.o).keeps HK.o Z) (Ne.symm Z)).mono ?_;rintro e w2 ⟨rfl,a2,a3⟩;have a9:=Hd a2;have b0:=Hd (HK.o.trans a3);clear a2 a3 a8;go_wp2_with fail
   refine⟨⟨k+1,by omega,by go_num,?_,b0.o⟩,by simp[intOf];omega⟩
   have h:=a9.o;rw[<-jcB, <-H.o]at h;rw[H.o,bF,UInt64.ofNat_add];rw[H.o,Lib.size_eq]at h;exact h
  ·have b1:k=xs.length:=vO
   subst b1;have J:=HH.o;rw[cE]at J;have b2:=Hd J;clear J HH;have a4:Hid (Ext w wr):=Hd (E.o.trans' HK.o (fun x hx e=>by have:=HG.o;omega));go_wp2_with fail
   refine vH (jAY wr g _ (Q.o.all _) _ b2.o (HC.o.ext a4.o)) fun w2 b3=>?_;have b4:=Hd (a4.o.trans b3);go_wp2_with fail
   go_ret
   refine⟨?_,b4.o⟩
   rw[HI.o];unfold shaB shaL;rfl
end Go.Proofs.YtegloohdmjadoaaGreatDoor
