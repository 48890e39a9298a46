/- Lemmas; each is under no condition but those that it states. -/
import Derived.Test.YtcpnjmcipainpaaGreatDoorPr7
import Derived.Lib.LazyBuf
namespace Go.Proofs.YtcpnjmcipainpaaGreatDoor
set_option linter.unusedSimpArgs false
set_option linter.unusedVariables false
set_option maxRecDepth 100000
set_option maxHeartbeats 16000000
open Go Go.RowKit
theorem jfK{P:Program}(w:World)(dT sT ty elem:TypeId)(b o dLen dCap:Nat)(t:vB)(m:Nat)(hm:m=Nat.min t.size dLen)
  (hu:P.underlying dT=some (.slice elem)) (hz:∀ w,(Go.sizeOf elem).run P w=.ok 1 w)
  (hc:∀ j,j < m->(w.cell? ⟨b,o+j,none⟩).isSome=true) (hf:∀ j,j < m->w.frozen? ⟨b,o+j,none⟩=false) :
  (Builtin.copy_ #[dT,sT] ty #[.slice (some ⟨b,o,none⟩) dLen dCap,.string t]).run P w=.ok (goInt m) (w.setCells b o (jaE (t.data.toList.take m))):=by
 have hl:(jaE (t.data.toList.take m)).length=m:=by
  have:=Lib.size_eq t
  have h2:Nat.min t.size dLen=min t.size dLen:=rfl;simp[jaE];rw[h2]at hm;omega
 have hst:=run_storeCells_cells (P:=P) b o (jaE (t.data.toList.take m)) 0 w (by rw[hl];simpa using hc) (by rw[hl];simpa using hf) (by
  intro v hv
  obtain⟨x,_,rfl⟩:=List.mem_map.1 hv
  rfl)
 simp[Builtin.copy_,run_underlying hu,Builtin.lenOf,Builtin.firstCells,hz, <-hm];unfold jaE at hst;rw[List.map_take]at hst;rw[hst];simp[jaE,List.map_take]
structure HSt where
 V:W8
 B:List UInt8
 n:Nat
def HSt.Ok(s:HSt):Prop:=s.B.length=64/\s.n < 64
def jh6(s:HSt)(x:UInt8):HSt:=if s.n+1=64 then ⟨mixW s.V (s.B.set s.n x),s.B.set s.n x,0⟩else ⟨s.V,s.B.set s.n x,s.n+1⟩
def jbj(s:HSt)(l:List UInt8):HSt:=l.foldl jh6 s
theorem HSt.Ok.push{s:HSt}(h:s.Ok)(x:UInt8):(jh6 s x).Ok:=by
 obtain⟨h1,h2⟩:=h
 unfold jh6 HSt.Ok;split <;> simp[h1] <;> omega
theorem HSt.Ok.all{s:HSt}(h:s.Ok)(l:List UInt8):(jbj s l).Ok:=by
 unfold jbj;induction l generalizing s with
 | nil=>exact h
 | cons x r ih=>exact ih (h.push x)
theorem jcq(s:HSt)(l r:List UInt8):jbj s (l++r)=jbj (jbj s l) r:=List.foldl_append
def layB(B:List UInt8)(n:Nat)(xs:List UInt8):List UInt8:=B.take n++xs++B.drop (n+xs.length)
theorem jte{B:List UInt8}{n:Nat}{xs:List UInt8}(h:n+xs.length<=B.length):(layB B n xs).length=B.length:=by simp[layB];omega
theorem jhU{B:List UInt8}{n:Nat}(x:UInt8)(xs:List UInt8)(h:n+1+xs.length<=B.length):layB (B.set n x) (n+1) xs=layB B n (x :: xs):=by
 unfold layB;have h1:(B.set n x).take (n+1)=B.take n++[x]:=by
  rw[List.set_eq_take_append_cons_drop,if_pos vO,List.take_append,List.take_of_length_le (by simp;omega)];simp[Nat.min_eq_left (show n<=B.length by omega)]
 have h2:(B.set n x).drop (n+1+xs.length)=B.drop (n+(x :: xs).length):=by
  rw[List.drop_set_of_lt vO]
  congr 1;simp;omega
 rw[h1,h2];simp
theorem jgX(xs:List UInt8):∀ (s:HSt),s.Ok->s.n+xs.length < 64->jbj s xs=⟨s.V,layB s.B s.n xs,s.n+xs.length⟩:=by
 induction xs with
 | nil=>intro s h _;simp[jbj,layB]
 | cons x r ih =>
  intro s h hx;simp only[List.length_cons]at hx;have e:jh6 s x=⟨s.V,s.B.set s.n x,s.n+1⟩:=by unfold jh6;rw[if_neg vO]
  show jbj (jh6 s x) r=_;rw[ih _ (h.push x) (by rw[e];simp only;omega),e];simp only[List.length_cons];rw[jhU x r (by rw[h.1];omega),show s.n+1+r.length=s.n+(r.length+1) by omega]
theorem jgW(xs:List UInt8):∀ (s:HSt),s.Ok->s.n+xs.length=64->jbj s xs=⟨mixW s.V (layB s.B s.n xs),layB s.B s.n xs,0⟩:=by
 induction xs with
 | nil=>intro s h hx;exact absurd h.2 (by simp at hx;omega)
 | cons x r ih =>
  intro s h hx;simp only[List.length_cons]at hx;show jbj (jh6 s x) r=_
  by_cases hr:r.length=0
  ·have hr':r=[]:=List.eq_nil_of_length_eq_zero hr
   subst hr';have e:jh6 s x=⟨mixW s.V (s.B.set s.n x),s.B.set s.n x,0⟩:=by unfold jh6;rw[if_pos (by simp at hx;omega)]
   rw[e]
   have:=jhU (B:=s.B) (n:=s.n) x [] (by rw[h.1];simp at hx ⊢;omega)
   rw[<-this];simp[jbj,layB]
  ·have e:jh6 s x=⟨s.V,s.B.set s.n x,s.n+1⟩:=by unfold jh6;rw[if_neg vO]
   rw[ih _ (h.push x) (by rw[e];simp only;omega),e];simp only;rw[jhU x r (by rw[h.1];omega)]
def jby(w:World)(b:Nat)(s:HSt)(sz:Int):Prop:=Blk w b (.cells (jaI s.V.words s.B (s.n:Int) sz).toArray 239)
theorem jct(v:W8):v.words.length=8:=rfl
theorem jby.held{w:World}{b:Nat}{s:HSt}{sz:Int}(h:jby w b s sz)(hs:s.B.length=64):w.cell? ⟨b,72,none⟩=some (.int .i64 (s.n:Int)):=h.cellL (by
 unfold jaI;rw[List.getElem?_append_right (by simp[jct,jaE,hs])];simp[jct,jaE,hs])
theorem jby.siz{w:World}{b:Nat}{s:HSt}{sz:Int}(h:jby w b s sz)(hs:s.B.length=64):w.cell? ⟨b,73,none⟩=some (.int .u64 sz):=h.cellL (by
 unfold jaI;rw[List.getElem?_append_right (by simp[jct,jaE,hs])];simp[jct,jaE,hs])
theorem jby.setHeld{w:World}{b:Nat}{s:HSt}{sz:Int}(h:jby w b s sz)(hs:s.B.length=64)(n:Nat):jby (w.setCell ⟨b,72,none⟩ (.int .i64 (n:Int))) b ⟨s.V,s.B,n⟩ sz:=by
 have:=h.set_same (i:=72) (.int .i64 (n:Int))
 unfold jby;unfold jaI at this ⊢;rw[List.setIfInBounds_toArray,List.set_append_right _ _ (by simp[jct,jaE,hs])]at this;simpa [jct,jaE,hs]using this
theorem jby.setSiz{w:World}{b:Nat}{s:HSt}{sz:Int}(h:jby w b s sz)(hs:s.B.length=64)(z:Int):jby (w.setCell ⟨b,73,none⟩ (.int .u64 z)) b s z:=by
 have:=h.set_same (i:=73) (.int .u64 z)
 unfold jby;unfold jaI at this ⊢;rw[List.setIfInBounds_toArray,List.set_append_right _ _ (by simp[jct,jaE,hs])]at this;simpa [jct,jaE,hs]using this
theorem jby.lay{w:World}{b:Nat}{s:HSt}{sz:Int}(h:jby w b s sz)(hs:s.B.length=64)(xs:List UInt8)(hx:s.n+xs.length<=64):jby (w.setCells b (8+s.n) (jaE xs)) b ⟨s.V,layB s.B s.n xs,s.n⟩ sz:=by
 have:=Blk.setCells (jaE xs) (8+s.n) w _ h (by simp[jaI,jct,jaE,hs];omega)
 unfold jby;have e:(jaI s.V.words s.B (s.n:Int) sz).take (8+s.n)++jaE xs++(jaI s.V.words s.B (s.n:Int) sz).drop (8+s.n+(jaE xs).length)=jaI s.V.words (layB s.B s.n xs) (s.n:Int) sz:=by
  unfold jaI layB;have e1:(s.V.words.map wv).length=8:=rfl;have e2:(jaE s.B).length=64:=by simp[jaE,hs]
  have e3:(jaE xs).length=xs.length:=by simp[jaE]
  rw[List.append_assoc (s.V.words.map wv),List.take_append,List.drop_append,e1,e3];rw[List.take_of_length_le (by rw[e1];omega),List.drop_of_length_le (l:=s.V.words.map wv) (by rw[e1];omega)];rw[show 8+s.n - 8=s.n by omega,show 8+s.n+xs.length - 8=s.n+xs.length by omega];rw[List.take_append_of_le_length (by rw[e2];omega),List.drop_append_of_le_length (by rw[e2];omega)];simp[jaE,List.map_take,List.map_drop]
 rw[e]at this;exact this
theorem jp8{P:Program}{a:Act}{w:World}{v:Value}{p:Addr}{d:Option Tmp}{t ty:TypeId}{x:Operand}{pos:String}{af:Array Edge}{g:Option (Nat × Bool)}(h:(Instr.loadAt t (.pointer (some p))).run P w=.ok v w)(hx:a.eval x=.pointer (some p)) :
  (execOp a.eval ⟨d,.load t x,ty,pos,af,g⟩).run P w=.ok (.value v) w:=by
 simp only[execOp,hx,Sem.run_bind,h,Result.andThen,Sem.run_pure]
def jxZ(v:Value):Nat:=match v with | .string t=>t.size | _=>0
def jyz(w:World)(bh:Nat)(s:HSt)(sz:Int)(t:vB)(v:Value)(wr:World):Prop:=∃ j:Nat,j<=t.size/\v=.string (t.extract j t.size)/\jby wr bh (jbj s (t.data.toList.take j)) sz/\jae (fun x=>x=bh) w wr
theorem jr4(sz:UInt64)(n:Nat):IntKind.u64.wrap ((sz.toNat:Int)+IntKind.u64.wrap (n:Int))=((sz+UInt64.ofNat n).toNat:Int):=by
 rw[UInt64.toNat_add,UInt64.toNat_ofNat'];show ((sz.toNat:Int)+(n:Int) % (18446744073709551616:Int)) % (18446744073709551616:Int)=_;simp only[Int.natCast_emod,Int.natCast_add];rfl
theorem Tryz.uSlU8:Tryz.prog.underlying 92=some (.slice 5):=by kernel_rfl
theorem Tryz.szU8(w:World):(Go.sizeOf 5).run Tryz.prog w=.ok 1 w:=by kernel_rfl
theorem Tryz.uInt:Tryz.prog.underlying 3=some (.int .i64):=by kernel_rfl
theorem jr5(w:World)(bh:Nat)(s:HSt)(hs:s.Ok)(sz:UInt64)(t:vB)(hB:jby w bh s (sz.toNat:Int))(hc:jb2 w)(hbh:bh≠0) :
  vQ 134 #[.pointer (some ⟨bh,0,none⟩),.string t] w fun e w'=>e=.returned (.pointer (some ⟨bh,0,none⟩))/\jby w' bh (jbj s t.data.toList) ((sz+UInt64.ofNat t.size).toNat:Int)/\jae (fun x=>x=bh) w w':=by
 have q73:=hB.siz hs.1;have f73:w.frozen? ⟨bh,73,none⟩=false:=hB.frozen;have HB:=Hd hB;have HC:=Hd hc;have HS:=Hd hs;clear hB hc hs;go_enter Tryz.func134,Tryz.ntmps134;go_wp2_with fail
 have hz:=jr4 sz t.size
 obtain⟨SZ,hSZ⟩:∃ z,z=IntKind.u64.wrap ((sz.toNat:Int)+IntKind.u64.wrap (t.size:Int)):=⟨_,rfl⟩
 rw[<-hSZ]at hz ⊢;have hB1:=HB.o.setSiz HS.o.1 SZ;have hK1:=(jae.refl (fun x=>x=bh) w).setCell (p:=⟨bh,73,none⟩) (.inl rfl) (.int .u64 SZ)
 obtain⟨w1,hw1⟩:=vE (w.setCell ⟨bh,73,none⟩ (.int .u64 SZ))
 rw[<-hw1]at hB1 hK1 ⊢;have HB1:=Hd hB1;have HK1:=Hd hK1;have HZ:=Hd hz;have HC1:=Hd (HC.o.keeps hK1 (Ne.symm hbh));clear hB1 hK1 hw1 hz hSZ q73 f73 HB HC
 obtain⟨wt,hwt⟩:∃ x,x=IntKind.u64.wrap (t.size:Int):=⟨_,rfl⟩
 rw[<-hwt];clear hwt;go_loopw [1] (fun v wr=>jyz w1 bh s SZ t v wr) (fun v _=>jxZ v)
 case atStart=>exact⟨0,by omega,by rw[show t.extract 0 t.size=t by simp],HB1.o,jae.refl _ _⟩
 case round =>
  obtain⟨j,hj,rfl,hG,hK⟩:=hrel
  have HK:=Hd hK;have HCr:=Hd (HC1.o.keeps hK (Ne.symm hbh))
  obtain⟨st,hst⟩:=vE (jbj s (t.data.toList.take j))
  have hok:st.Ok:=by rw[hst];exact HS.o.all _
  rw[<-hst]at hG;have HG:=Hd hG;have HST:=Hd hst
  obtain⟨r,hr⟩:=vE (t.extract j t.size)
  have hrs:r.size=t.size - j:=by rw[hr];simp[ByteArray.size_extract]
  have HR:=Hd hr;rw[<-hr];clear hG hst hK hr
  by_cases hlt:j < t.size
  ·have hne:=ja8 (s:=r) vO
   obtain⟨Vs,Bs,n⟩:=st
   obtain⟨hbl,hn⟩:=hok
   simp only at hbl hn
   obtain⟨m,hm⟩:=vE (Nat.min r.size (64 - n))
   have hm':m=min r.size (64 - n):=hm;have hm1:0 < m:=by omega
   have hmr:m<=r.size:=by omega
   have hmn:n+m<=64:=by omega
   have HOK:Hid (HSt.Ok ⟨Vs,Bs,n⟩):=Hd ⟨hbl,hn⟩;have c1:(n:Int)<=64:=by omega
   have c2:(64 - (n:Int)).toNat=64 - n:=by omega
   have HRS:=Hd hrs;have HM:=Hd hm;have HM':=Hd hm';have HBL:=Hd hbl;clear hrs hm hm' hbl;go_wp2_with fail
   refine jau [0,1,2,3,4,5,8,6,7,9,10] [6,9] Ext ExtR ExtT vY vY vY ?_
   refine vP ?_
   refine qA _ (.pointer (some ⟨bh,0,none⟩)) rfl (fun w1=>by kernel_rfl) ?_;refine vS ?_;iterate 2 refine vP ?_
   refine qA _ (.pointer (some ⟨bh,0,none⟩)) rfl (fun w1=>by kernel_rfl) ?_;refine vS ?_;iterate 2 refine vP ?_
   refine qH _ rfl (fun w2 he K hK=>?_);have X2:=(jaj wr).trans he;refine jcy (w':=w2) (jp8 (jab Tryz.uInt rfl (jaa (HG.o.held HOK.o.1) X2)) vY) (hK _ _ ?_);clear hK K he;refine vS ?_
   refine vP ?_
   refine qH _ rfl (fun w3 he K hK=>?_);have X3:=X2.trans he
   obtain⟨xs,hxs⟩:∃ x,x=r.data.toList.take m:=⟨_,rfl⟩
   have hxl:xs.length=m:=by rw[hxs];have:=Lib.size_eq r;simp;omega
   have G1:=HG.o.keeps X3 (fun h=>h);have K1:=HK.o.trans' X3 (fun _ _ h=>h.elim);have hcl:(jaI Vs.words Bs (n:Int) SZ).length=74:=by simp[jaI,jct,jaE,HBL.o]
   have hcp:=jfK (P:=Tryz.prog) w3 92 9 3 5 bh (8+n) (64 - n) (64 - n) r m HM.o Tryz.uSlU8 Tryz.szU8
    (by intro j hj;rw[Blk.cellL G1 (i:=8+n+j) (List.getElem?_eq_getElem (by rw[hcl];omega))];rfl) (by intro j hj;exact Blk.frozen G1)
   rw[<-hxs]at hcp;have G2:=jby.lay G1 HOK.o.1 xs (by simp only;omega);have K2:=K1.trans (jae.oneSetCells bh (jaE xs) (8+n) w3);simp only at G2
   obtain⟨w4,hw4⟩:∃ x,x=w3.setCells bh (8+n) (jaE xs):=⟨_,rfl⟩
   rw[<-hw4]at hcp G2 K2;have HG4:=Hd G2;have HK4:=Hd K2;have HXS:=Hd hxs;have HXL:=Hd hxl;clear G1 K1 G2 K2 hw4 he X2 X3 HG HK hcl hxs hxl HCr;refine jcy (w':=w4) (jkN hcp vY) (hK _ _ ?_);clear hcp hK K w3 w2;refine vS ?_
   refine vP ?_
   refine qE (fun w5 he=>?_);have HG5:Hid (jby w5 bh ⟨Vs,layB Bs n xs,n⟩ SZ):=Hd (HG4.o.keeps he (fun h=>h));have HK5:=Hd (HK4.o.trans' he (fun _ _ h=>h.elim));clear he HG4 HK4;have HOK5:Hid (HSt.Ok ⟨Vs,layB Bs n xs,n⟩):=Hd ⟨by simp only;rw[jte (by rw[HXL.o,HBL.o];omega),HBL.o],hn⟩;have q72:=HG5.o.held HOK5.o.1;have f72:w5.frozen? ⟨bh,72,none⟩=false:=Blk.frozen HG5.o;simp only at q72;have hrd:r.data.toList=t.data.toList.drop j:=by
    rw[HR.o,ByteArray.data_extract,Array.toList_extract]
    have:=Lib.size_eq t
    simp only[List.extract_eq_take_drop];rw[List.take_of_length_le (by simp)]
   have hpush:jbj s (t.data.toList.take (j+m))=jbj ⟨Vs,Bs,n⟩ xs:=by
    rw[List.take_add,jcq, <-HST.o,HXS.o,hrd]
   have hrest:r.extract m r.size=t.extract (j+m) t.size:=by
    have hrs:=HRS.o;rw[HR.o]at hrs ⊢;rw[hrs,ByteArray.extract_extract]
    congr 1 <;> omega
   have hrl:(r.extract m r.size).size=r.size - m:=by simp[ByteArray.size_extract]
   have HPU:=Hd hpush;have HRE:=Hd hrest;have HRL:=Hd hrl;clear hrd hpush hrest hrl HR HST HXS HM HM';have hjm:j+m<=t.size:=by have:=HRS.o;omega
   by_cases hfull:n+m=64
   ·have hq:((n:Int)+(m:Int) == 64)=true:=by simp;omega
    have hpf:=jgW xs ⟨Vs,Bs,n⟩ HOK.o (by simp only;rw[HXL.o];exact hfull);simp only at hpf;have HPF:=Hd hpf;have hG6:=HG5.o.setHeld HOK5.o.1 (n+m);have hK6:=HK5.o.setCell (p:=⟨bh,72,none⟩) (.inl rfl) (.int .i64 ((n+m:Nat):Int));have HG6:=Hd hG6;have HK6:=Hd hK6;clear hpf hG6 hK6 HG5 HK5;go_wp2_with fail
    rw[<-Int.natCast_add]
    obtain⟨w6,hw6⟩:∃ x,x=w5.setCell ⟨bh,72,none⟩ (.int .i64 ((n+m:Nat):Int)):=⟨_,rfl⟩
    rw[<-hw6]at HG6 HK6 ⊢;clear hw6 q72 f72;refine (jyN w6 bh Vs (layB Bs n xs) _ _ HOK5.o.1 HG6.o (HC1.o.keeps HK6.o (Ne.symm hbh)) hbh).mono ?_;rintro e w7 ⟨rfl,hG7,hK7⟩;have HG7:Hid (jby w7 bh ⟨mixW Vs (layB Bs n xs),layB Bs n xs,n+m⟩ SZ):=Hd hG7;have HK7:=Hd (HK6.o.trans hK7);clear hG7 hK7 HG6 HK6;have q72:=HG7.o.held HOK5.o.1;have f72:w7.frozen? ⟨bh,72,none⟩=false:=Blk.frozen HG7.o;simp only at q72;go_wp2_with fail
    refine⟨⟨j+m,hjm,by rw[HRE.o],?_,HK7.o.setCell (.inl rfl) _⟩,?_⟩
    ·rw[HPU.o,HPF.o];exact HG7.o.setHeld HOK5.o.1 0
    ·show (r.extract m r.size).size < r.size;rw[HRL.o];omega
   ·have hq:((n:Int)+(m:Int) == 64)=false:=by simp;omega
    have hpf:=jgX xs ⟨Vs,Bs,n⟩ HOK.o (by simp only;rw[HXL.o];omega);simp only[HXL.o]at hpf;have HPF:=Hd hpf;clear hpf;go_wp2_with fail
    refine⟨⟨j+m,hjm,by rw[HRE.o],?_,HK5.o.setCell (.inl rfl) _⟩,?_⟩
    ·rw[HPU.o,HPF.o];exact HG5.o.setHeld HOK5.o.1 (n+m)
    ·show (r.extract m r.size).size < r.size;rw[HRL.o];omega
  ·have hr0:r=⟨#[]⟩:=by
    have:r.size=0:=by omega
    obtain⟨⟨l⟩⟩:=r
    cases l with
    | nil=>rfl
    | cons x y=>exact absurd this (Nat.succ_ne_zero _)
   have hj2:j=t.size:=by omega
   subst hr0;have hend:st=jbj s t.data.toList:=by rw[HST.o,hj2];have:=Lib.size_eq t;rw[List.take_of_length_le vO]
   rw[hend]at HG;have HF:=Hd (HK1.o.trans HK.o);clear HK1 HK HR HST hend hrs hok;go_wp2_with fail
   go_ret
   exact⟨rfl,by rw[<-HZ.o];exact HG.o,HF.o⟩
def jjd(n:Nat):Nat:=(119 - n) % 64
def jdP(sz:UInt64)(i:Nat):UInt8:=UInt8.ofNat (sz.toNat * 8 % 18446744073709551616 / 2 ^ (56 - 8 * i))
def lenL(sz:UInt64):List UInt8:=(List.range 8).map (jdP sz)
def jlI(z:Nat)(sz:UInt64):List UInt8:=128 ::(List.replicate z 0++lenL sz)
def jim(z:Nat)(sz:UInt64)(k:Nat):List UInt8:=128 ::(List.replicate z 0++((lenL sz).take k++List.replicate (8 - k) 0))
theorem jet(sz:UInt64):(lenL sz).length=8:=by simp[lenL]
theorem jrV(z:Nat)(sz:UInt64)(k:Nat)(hk:k<=8):(jim z sz k).length=1+z+8:=by simp[jim,jet];omega
theorem jrU(z:Nat)(sz:UInt64):jim z sz 8=jlI z sz:=by
 unfold jim jlI;rw[List.take_of_length_le (by rw[jet];omega)];simp
theorem jrW(z:Nat)(sz:UInt64)(k:Nat)(hk:k < 8):(jim z sz k).set (1+z+k) (jdP sz k)=jim z sz (k+1):=by
 have hl:=jet sz;have h4:k < (lenL sz).length:=by omega
 have h5:(lenL sz)[k]=jdP sz k:=by simp[lenL]
 unfold jim;rw[show 1+z+k=(z+k)+1 by omega,List.set_cons_succ,List.set_append_right _ _ (by simp)];simp only[List.length_replicate];rw[show z+k - z=k by omega,List.set_append_right _ _ (by simp[hl];omega)];rw[show 8 - k=(8 - (k+1))+1 by omega,List.replicate_succ,List.take_succ_eq_append_getElem h4,h5];simp[hl,Nat.min_eq_left (show k<=8 by omega)]
theorem juq(sz:UInt64)(k:Nat):IntKind.u64.wrap ((sz.toNat:Int) * 8) / 2 ^ (56 - 8 * k) % 256=((jdP sz k).toNat:Int):=by
 unfold jdP;rw[UInt8.toNat_ofNat'];have h:∀ (a M p:Nat),((a:Int) * 8 % (M:Int)) / ((p:Nat):Int) % 256=((a * 8 % M / p % 256:Nat):Int):=by
  intro a M p;simp only[Int.natCast_emod,Int.natCast_ediv,Int.natCast_mul];rfl
 have h2:=h sz.toNat 18446744073709551616 (2 ^ (56 - 8 * k));rw[Int.natCast_pow]at h2;exact h2
theorem jiH(l:List UInt8)(k:Nat)(x:UInt8):(jaE l).set k (.int .u8 (x.toNat:Int))=jaE (l.set k x):=by unfold jaE;rw[List.map_set]
theorem Tryz.uHash':(match Tryz.prog.underlying 239 with | some (.struct _)=>true | _=>false)=true:=by kernel_rfl
theorem Tryz.uHash:∃ fs,Tryz.prog.underlying 239=some (.struct fs):=by
 have h:=Tryz.uHash';cases hu:Tryz.prog.underlying 239 with
 | none=>rw[hu]at h;cases h
 | some d=>rw[hu]at h;cases d <;> first | exact⟨_,rfl⟩ | cases h
theorem Tryz.iHash:(Tryz.prog.info? 239).map (·.size)=some 74:=by kernel_rfl
theorem Tryz.newHash(w:World):(Instr.alloc 239 true (.tuple #[])).run Tryz.prog w=.ok (.pointer (some ⟨w.heap.size,0,none⟩)) (w.alloc (.cells (jaI (List.replicate 8 0) (List.replicate 64 0) 0 0).toArray 239)):=by kernel_rfl
theorem jjB(ws:List UInt32)(B:List UInt8)(n sz:Int):(jaI ws B n sz).length=ws.length+B.length+2:=by simp[jaI];omega
theorem jjC(ws:List UInt32)(B:List UInt8)(n sz:Int):∀ v∈jaI ws B n sz,v.oneCell'=true:=by
 intro v hv;unfold jaI at hv;rcases List.mem_append.1 hv with hv | hv
 ·rcases List.mem_append.1 hv with hv | hv
  ·exact jr7 v hv
  ·exact jiG _ v hv
 ·simp only[List.mem_cons,List.not_mem_nil,or_false]at hv;rcases hv with rfl | rfl <;> rfl
def jl4(x:UInt32):UInt8:=UInt8.ofNat x.toNat
def jgh(x:UInt32):List UInt8:=[jl4 (shrW x 24),jl4 (shrW x 16),jl4 (shrW x 8),jl4 x]
def outL(ws:List UInt32):List UInt8:=ws.flatMap jgh
theorem Tryz.run_byteW(x:UInt32)(w:World):(convert 206 5 (wv x)).run Tryz.prog w=.ok (.int .u8 ((jl4 x).toNat:Int)) w:=by
 have h:∀ n:Int,(convert 206 5 (.int .u32 n)).run Tryz.prog w=.ok (.int .u8 (IntKind.u8.wrap n)) w:=fun n=>by kernel_rfl
 unfold wv jl4;rw[h,jpb,jhi]
theorem Tryz.index8(V:W8)(k:Nat)(hk:k < 8)(x:UInt32)(hx:V.words[k]?=some x)(w:World):(Instr.index 235 (.agg (V.words.map wv).toArray) (.int .i64 (k:Int))).run Tryz.prog w=.ok (wv x) w:=by
 obtain⟨a,b,c,d,e,f,g,h⟩:=V
 rcases (show k=0\/k=1\/k=2\/k=3\/k=4\/k=5\/k=6\/k=7 by omega)with rfl | rfl | rfl | rfl | rfl | rfl | rfl | rfl <;>(cases hx;kernel_rfl)
def jwF(w:World)(V:W8)(v i:Value)(wr:World):Prop:=∃ k:Nat,k<=8/\i=.int .i64 k/\ORow 5 1 w wr v (4 * k) (jaE (outL (V.words.take k)))
def sumB(s:HSt)(sz:UInt64):vB:=⟨(outL (jbj s (jlI (jjd s.n) sz)).V.words).toArray⟩
def jyy(w:World)(g z L:Nat)(sz:UInt64)(i:Value)(wr:World):Prop:=∃ k:Nat,k<=8/\i=.int .i64 k/\ORow 5 1 w wr (.slice (some ⟨g,0,none⟩) L L) L (jaE (jim z sz k))
theorem jy0(w:World)(bh:Nat)(s:HSt)(hs:s.Ok)(sz:UInt64)(hB:jby w bh s (sz.toNat:Int))(hc:jb2 w) :
  vR 135 #[.pointer (some ⟨bh,0,none⟩)] w (.string (sumB s sz)):=by
 obtain⟨i0,hi,hz0,hz1,hz2⟩:=info_parts Tryz.infoU8
 obtain⟨fs,hfs⟩:=Tryz.uHash
 have hrg:w.rangeAt bh 0 (jaI s.V.words s.B (s.n:Int) (sz.toNat:Int)):=fun j v hv=>by rw[Nat.zero_add];exact hB.cellL hv
 have hln:(jaI s.V.words s.B (s.n:Int) (sz.toNat:Int)).length=74:=by rw[jjB,hs.1];rfl
 have HB:=Hd hB;have HC:=Hd hc;have HS:=Hd hs;have HRG:=Hd hrg;have HLN:=Hd hln;clear hB hc hs hrg hln;go_enter Tryz.func135,Tryz.ntmps135;go_wp2_with (first |(refine wpList_load_mid rfl 239 (.tmp 11) rfl bh 0 rfl _ _ HRG.o hfs rfl (by rw[HLN.o];exact Tryz.iHash) ?_) |(refine jah (cs:=jaI (List.replicate 8 0) (List.replicate 64 0) 0 0) Tryz.newHash rfl rfl ?_))
 intro W2 B2 E2;refine jag (old:=jaI (List.replicate 8 0) (List.replicate 64 0) 0 0) (vs:=jaI s.V.words s.B (s.n:Int) (sz.toNat:Int)) rfl rfl rfl rfl B2 (by rw[HLN.o];rfl) (by rw[HLN.o];exact Tryz.iHash) (jjC _ _ _ _) ?_;intro W3 B3 K3
 obtain⟨g3,hg3⟩:∃ g,g=w.heap.size:=⟨_,rfl⟩
 have X3:=Hd (E2.trans' K3 (fun x hx e=>by omega):jae (fun _=>False) w W3);rw[<-hg3]at B3 ⊢;have hl3:g3 < W3.heap.size:=B3.lt;have h03:0 < g3:=by rw[hg3];exact HC.o.lt
 have HB3:Hid (jby W3 g3 s (sz.toNat:Int)):=Hd B3;have q72:=jby.held (HB.o.keeps X3.o (fun h=>h)) HS.o.1;have q73:=Hd (jby.siz (HB.o.keeps X3.o (fun h=>h)) HS.o.1);clear B2 E2 B3 K3 HRG HLN HB
 obtain⟨n,hn⟩:=vE s.n
 have hn64:n < 64:=by rw[hn];exact HS.o.2
 rw[<-hn]at q72
 obtain⟨z,hz⟩:=vE (jjd n)
 have hzq:(119 - (n:Int)).tmod 64=(z:Int):=by rw[hz];unfold jjd;rw[Int.tmod_eq_emod_of_nonneg vO];omega
 have hz64:z < 64:=by rw[hz];unfold jjd;omega
 have HZ:=Hd hz;have HN:=Hd hn;clear hz hn
 obtain⟨L,hL⟩:=vE (1+z+8)
 have hLq:1+(z:Int)+8=(L:Int):=by omega
 have hL0:(0:Int) < (L:Int):=by omega
 have HL:=Hd hL;have HG3:=Hd hg3;have hLb:L<=72:=by omega
 clear hg3 hL;have hmk:=je3 (P:=Tryz.prog) W3 Tryz.uBytes hi hz0 hz1 rfl .i64 .i64 L (by rw[hz2];omega) (by unfold maxLen;omega);have hrow:=ORow.lit (T:=5) (sz:=1) (List.replicate L (.int .u8 0)).toArray (n:=L) (ExtR W3) (by unfold maxLen;omega) (by simp)
 obtain⟨g,hg⟩:=vE W3.heap.size
 obtain⟨W4,hW4⟩:∃ W,W=W3.alloc (.cells (List.replicate L (Value.int .u8 0)).toArray 5):=⟨_,rfl⟩
 rw[<-hg, <-hW4]at hmk hrow;have h3g:g3 < g:=by rw[hg];exact hl3
 have HGG:=Hd hg;clear hg hW4 hl3;have hcell0:=hrow.own.cellAt 0 vO;have hfr0:=hrow.own.frozenAt 0;have HR4:=Hd hrow;clear hrow;simp only at hcell0;rw[List.getElem?_eq_getElem (by simp;omega)]at hcell0;go_wp2_with fail
 have hset0:=HR4.o.set 0 (.int .u8 128);have e0:((List.replicate L (Value.int .u8 0)).toArray.toList).set 0 (.int .u8 128)=jaE (jim z sz 0):=by
  have e1:jim z sz 0=(List.replicate L (0:UInt8)).set 0 128:=by
   rw[HL.o,show 1+z+8=(z+8)+1 by omega,List.replicate_succ,List.set_cons_zero];unfold jim;simp only[List.take_zero,List.nil_append,Nat.sub_zero,List.replicate_append_replicate]
  rw[e1, <-jiH]
  congr 1
  simp[jaE]
 rw[e0]at hset0
 obtain⟨W5,hW5⟩:∃ W,W=W4.setCell ⟨g,0,none⟩ (.int .u8 128):=⟨_,rfl⟩
 rw[<-hW5]at hset0 ⊢;have HR5:=Hd hset0;clear hset0 e0 hcell0 hfr0 HR4 hmk hzq hLq hL0 q72 hW5;go_loopw [25] (fun i wr=>jyy W3 g z L sz i wr) (fun i _=>8 - (intOf i).toNat)
 case atStart=>exact⟨0,by omega,rfl,HR5.o⟩
 case round =>
  obtain⟨k,hk,rfl,hR⟩:=hrel
  have HR:=Hd hR;clear hR
  by_cases hlt:k < 8
  ·have q73r:=jaa q73.o HR.o.ext
   have hcell:=HR.o.own.cellAt (1+z+k) (by have:=HL.o;omega);have hfr:=HR.o.own.frozenAt (1+z+k);rw[List.getElem?_eq_getElem (by rw[bytesV_len,jrV z sz k vO];omega)]at hcell;have c0:(0:Int)<=1+(z:Int)+(k:Int):=by omega
   have c1:1+(z:Int)+(k:Int) < (L:Int):=by have:=HL.o;omega
   have c2:(1+(z:Int)+(k:Int)).toNat=1+z+k:=by omega
   have c3:(0:Int)<=56 - 8 * (k:Int):=by omega
   have c4:(56 - 8 * (k:Int)).toNat=56 - 8 * k:=by omega
   have c5:56 - 8 * (k:Int) < 64:=by omega
   go_wp2_with fail
   rw[juq];have hset:=HR.o.set (1+z+k) (.int .u8 ((jdP sz k).toNat:Int));rw[jiH,jrW z sz k hlt]at hset
   exact⟨⟨k+1,by omega,by go_num,hset⟩,by simp[intOf];omega⟩
  ·have hk8:k=8:=by omega
   subst hk8;have hown:=HR.o.own;rw[jrU]at hown;have hcv:=jbl wr Tryz.uBytes Tryz.uU8 Tryz.uStr hown;have HXr:=Hd HR.o.ext;clear hown HR5 HR q73;go_wp2_with fail
   rw[show ((8:Nat):Int)=(8:Int)from rfl];refine (jr5 wr g3 s HS.o sz ⟨(jlI z sz).toArray⟩ (HB3.o.keeps HXr.o (fun h=>h)) (HC.o.ext (X3.o.trans HXr.o)) vO).mono ?_;rintro e w6 ⟨rfl,hH6,hK6⟩
   obtain⟨S6,hS6⟩:∃ x,x=jbj s (jlI z sz):=⟨_,rfl⟩
   have hH6':jby w6 g3 S6 ((sz+UInt64.ofNat (⟨(jlI z sz).toArray⟩:vB).size).toNat:Int):=by rw[hS6];exact hH6
   have hok6:S6.Ok:=by rw[hS6];exact HS.o.all _
   have HX6:Hid (Ext w w6):=Hd ((X3.o.trans HXr.o).trans' hK6 (fun x hx e=>by have:=HG3.o;omega));have HS6:=Hd hS6
   obtain⟨w7,hmk0,hown7,hgr7⟩:=run_make_own (P:=Tryz.prog) (w:=w6) w6.heap.size 92 5 i0 _ 1 Tryz.uBytes hi hz0 hz1 .i64 .i64 32 (by rw[hz2];omega) (by unfold maxLen;omega) (Nat.le_refl _)
   have hmk2:(Instr.makeSlice 92 (.int .i64 0) (.int .i64 32)).run Tryz.prog w6=.ok (.slice (some ⟨w6.heap.size,0,none⟩) 0 32) w7:=by rw[<-hmk0];rfl
   have HR7:Hid (ORow 5 1 w6 w7 (.slice (some ⟨w6.heap.size,0,none⟩) 0 32) 0 []):=Hd (ORow.made w6 hown7 hgr7);have hH7:jby w7 g3 S6 _:=hH6'.keeps HR7.o.ext (fun h=>h);have hrg7:w7.rangeAt g3 0 (S6.V.words.map wv):=fun j v hv=>by
    rw[Nat.zero_add];exact hH7.cellL (by unfold jaI;rw[List.append_assoc,List.getElem?_append_left (List.getElem?_eq_some_iff.1 hv).1];exact hv)
   have HRG7:=Hd hrg7
   obtain⟨V6,hV6⟩:∃ v,v=S6.V:=⟨_,rfl⟩
   rw[<-hV6]at HRG7;have HV6:=Hd hV6;clear hH6 hH6' hok6 hS6 hmk0 hown7 hgr7 hH7 hrg7 hK6 hV6 hcv;go_wp2_with (refine wpList_load_mid rfl 235 (.tmp 49) rfl g3 0 rfl _ _ HRG7.o Tryz.uArr8 rfl Tryz.iArr8 ?_)
   clear hmk2 HRG7 HC HB3;have hS24:∀ (p:UInt32) (w:World),(binOp .shr 206 (wv p) (.int .u64 24)).run Tryz.prog w=.ok (wv (shrW p 24)) w:=fun _ _=>jc0 24 vI .u64;have hS16:∀ (p:UInt32) (w:World),(binOp .shr 206 (wv p) (.int .u64 16)).run Tryz.prog w=.ok (wv (shrW p 16)) w:=fun _ _=>jc0 16 vI .u64;have hS8:∀ (p:UInt32) (w:World),(binOp .shr 206 (wv p) (.int .u64 8)).run Tryz.prog w=.ok (wv (shrW p 8)) w:=fun _ _=>jc0 8 vI .u64;have hCv:=Tryz.run_byteW;go_loopw [7,51] (fun v i wr=>jwF w6 V6 v i wr) (fun _ i _=>8 - (intOf i).toNat)
   case atStart=>exact⟨0,by omega,rfl,HR7.o⟩
   case round =>
    obtain⟨k,hk,rfl,hR⟩:=hrel
    obtain⟨a,c,rfl⟩:=hR.sl
    have HR:=Hd hR;clear hR
    by_cases hlt:k < 8
    ·obtain⟨x,hx⟩:∃ x,V6.words[k]?=some x:=⟨_,List.getElem?_eq_getElem (by simp[W8.words];omega)⟩
     have hix:=fun w=>Tryz.index8 V6 k hlt x hx w;have hstep:outL (V6.words.take (k+1))=outL (V6.words.take k)++jgh x:=by
      unfold outL;rw[List.take_add_one,hx];simp
     have HST:=Hd hstep;clear hx hstep;go_wp2_with (at_builtin;refine jba Tryz.sBytes (HR.o.mono ((ExtR wr).alloc _)) (.tmp 54) (.tmp 66) rfl rfl rfl (jaS (Blk.new wr _)) (news:=jaE (jgh x)) (jiG _) rfl rfl ?c1 ?c2 (fun v' w' r1 r2 r3=>?_))
     case c1=>unfold maxLen;omega
     case c2=>omega
     rw[<-jdf, <-HST.o,show 4 * k+4=4 * (k+1) by omega]at r1;have HR2:=Hd r1;clear r1 r2 r3
     obtain⟨a2,c2,rfl⟩:=HR2.o.sl
     go_wp2_with fail
     exact⟨⟨k+1,by omega,by go_num,HR2.o⟩,by simp[intOf];omega⟩
    ·have hk8:k=8:=by omega
     subst hk8;have hown:=HR.o.own;rw[List.take_of_length_le (by simp[W8.words])]at hown;have hcv:=jbl wr Tryz.uBytes Tryz.uU8 Tryz.uStr hown;have hres:(⟨(outL V6.words).toArray⟩:vB)=sumB s sz:=by
      unfold sumB;rw[HV6.o,HS6.o,HZ.o,HN.o]
     rw[hres]at hcv;have HXF:=Hd (HX6.o.trans HR.o.ext);clear hown hres;go_wp2_with fail
     go_ret
     exact⟨rfl,HXF.o⟩
def jg0:HSt:=⟨⟨0x6a09e667,0xbb67ae85,0x3c6ef372,0xa54ff53a,0x510e527f,0x9b05688c,0x1f83d9ab,0x5be0cd19⟩,List.replicate 64 0,0⟩
theorem jhe:jg0.Ok:=⟨rfl,by decide⟩
def shaL(l:List UInt8):vB:=sumB (jbj jg0 l) (UInt64.ofNat l.length)
def shaB(s:vB):vB:=shaL s.data.toList
theorem jyP(w:World):vQ 133 #[] w fun e w'=>e=.returned (.pointer (some ⟨w.heap.size,0,none⟩))/\jby w' w.heap.size jg0 0/\Ext w w':=by
 go_enter Tryz.func133,Tryz.ntmps133;go_wp2_with fail
 go_ret
 refine⟨rfl,?_,(ExtR w).alloc _⟩
 exact (congrArg (fun c=>Blk (w.alloc (.cells c 239)) w.heap.size (.cells (jaI jg0.V.words jg0.B (jg0.n:Int) 0).toArray 239)) vY).mp (Blk.new w _)
def jym(w:World)(g:Nat)(I:HSt)(xs:List vB)(i:Value)(wr:World):Prop:=∃ k:Nat,k<=xs.length/\i=.int .i64 k/\jby wr g (jbj I (catB (xs.take k)).data.toList) ((UInt64.ofNat (catB (xs.take k)).data.toList.length).toNat:Int)/\jae (fun x=>x=g) w wr
theorem RdS.slice{w:World}{v:Value}{xs:List vB}(h:RdS w v xs):∃ a c,v=.slice a xs.length c/\∀ (j:Nat) x,xs[j]?=some x->∃ b o,a=some ⟨b,o,none⟩/\w.cell? ⟨b,o+j,none⟩=some (.string x):=by
 rcases h with⟨a,c,rfl,rfl⟩ |⟨b,o,c,rfl,h2,h3,h4⟩
 ·exact⟨a,c,rfl,fun j x hx=>by simp at hx⟩
 ·exact⟨some ⟨b,o,none⟩,c,rfl,fun j x hx=>⟨b,o,rfl,h4 j x hx⟩⟩
theorem jpO(xs:List vB)(k:Nat)(x:vB)(hx:xs[k]?=some x):(catB (xs.take (k+1))).data.toList=(catB (xs.take k)).data.toList++x.data.toList:=by
 unfold catB;rw[List.take_add_one,hx];simp
theorem of_t(w:World)(v:Value)(xs:List vB)(hlen:xs.length<=1000000)(hr:RdS w v xs)(hc:jb2 w) :
  vR 82 #[v] w (.string (shaB (catB xs))):=by
 obtain⟨a,c,rfl,hcl⟩:=hr.slice
 have HCL:=Hd hcl;have HC:=Hd hc;clear hcl hc hr
 obtain⟨I,hI⟩:=vE jg0
 have hIo:I.Ok:=by rw[hI];exact jhe
 have HIo:=Hd hIo;have HI:=Hd hI;clear hI hIo;go_enter Tryz.func82,Tryz.ntmps82;go_wp2_with fail
 refine (jyP w).mono ?_;rintro e w1 ⟨rfl,hH1,hE1⟩
 obtain⟨g,hg⟩:=vE w.heap.size
 rw[<-hg]at hH1 ⊢;rw[<-HI.o]at hH1;have HH1:=Hd hH1;have HE1:=Hd hE1;have h0g:0≠g:=by have:=HC.o.lt;omega
 have HG:=Hd hg;clear hH1 hE1 hg;go_wp2_with fail
 go_loopw [9] (fun i wr=>jym w1 g I xs i wr) (fun i _=>xs.length - (intOf i).toNat)
 case atStart=>exact⟨0,by omega,rfl,by simpa [catB,jbj]using HH1.o,jae.refl _ _⟩
 case round =>
  obtain⟨k,hk,rfl,hH,hK⟩:=hrel
  have HH:=Hd hH;have HK:=Hd hK;clear hH hK
  by_cases hlt:k < xs.length
  ·obtain⟨x,hx⟩:∃ x,xs[k]?=some x:=⟨_,List.getElem?_eq_getElem hlt⟩
   obtain⟨b,o,rfl,hcell⟩:=HCL.o k x hx
   have hbg:b≠g:=by
    have:b < w.heap.size:=World.block_lt_of_cell? w _ hcell
    have:=HG.o;omega
   have hcw:wr.cell? ⟨b,o+k,none⟩=some (.string x):=by
    have h1:=jaa hcell HE1.o;have hlt1:b < w1.heap.size:=World.block_lt_of_cell? w1 _ h1;have e:=HK.o.block b hlt1 hbg;unfold World.cell? at *;rw[e];exact h1
   have hst:=jpO xs k x hx;have HST:=Hd hst;clear hst hcell hx;go_wp2_with fail
   refine (jr5 wr g _ (HIo.o.all _) _ x HH.o ((HC.o.ext HE1.o).keeps HK.o h0g) (Ne.symm h0g)).mono ?_;rintro e w2 ⟨rfl,hH2,hK2⟩;have HH2:=Hd hH2;have HK2:=Hd (HK.o.trans hK2);clear hH2 hK2 hcw;go_wp2_with fail
   refine⟨⟨k+1,by omega,by go_num,?_,HK2.o⟩,by simp[intOf];omega⟩
   have h:=HH2.o;rw[<-jcq, <-HST.o]at h;rw[HST.o,List.length_append,UInt64.ofNat_add];rw[HST.o,Lib.size_eq]at h;exact h
  ·have hkn:k=xs.length:=by omega
   subst hkn;have hH:=HH.o;rw[List.take_length]at hH;have HH':=Hd hH;clear hH HH;have HXr:Hid (Ext w wr):=Hd (HE1.o.trans' HK.o (fun x hx e=>by have:=HG.o;omega));go_wp2_with fail
   refine vC (jy0 wr g _ (HIo.o.all _) _ HH'.o (HC.o.ext HXr.o)) fun w2 hE2=>?_;have HX2:=Hd (HXr.o.trans hE2);clear hE2;go_wp2_with fail
   go_ret
   refine⟨?_,HX2.o⟩
   rw[HI.o];unfold shaB shaL;rfl
theorem jdq{a b:vB}(h:a.toList=b.toList):a=b:=by
 rw[ByteArray.toList_eq,ByteArray.toList_eq]at h
 obtain⟨⟨l⟩⟩:=a;obtain⟨⟨m⟩⟩:=b
 simp at h;rw[h]
theorem jdE(a:vB):catB [a]=a:=by
 obtain⟨⟨l⟩⟩:=a;simp[catB]
theorem jvM{W w':World}{x:vB}{T:TypeId}(h:Ext (W.alloc (.cells #[.string x] T)) w'):RdS w' (.slice (some ⟨W.heap.size,0,none⟩) 1 1) [x]:=by
 have hB:Blk w' W.heap.size (.cells #[.string x] T):=(Blk.new W _).keeps h (fun h=>h);exact .inr ⟨W.heap.size,0,1,rfl,hB.lt,Nat.le_refl _,fun j y hy=>by
  rcases j with _ | j
  ·cases hy;exact hB.cell vF
  ·simp at hy⟩
theorem jtv(ws:List UInt32):(outL ws).length=4 * ws.length:=by
 unfold outL;induction ws with
 | nil=>rfl
 | cons x r ih=>rw[List.flatMap_cons,List.length_append,ih];simp[jgh];omega
theorem jrT(s:HSt)(sz:UInt64):(sumB s sz).size=32:=by
 rw[Lib.size_eq];unfold sumB;rw[List.toList_toArray,jtv];rfl
theorem jbF(s:vB):(shaB s).size=32:=jrT _ _
def refB(s:vB):vB:=if s.size < 32 then s else jao (shaB s)
theorem jvO(w:World)(s:vB)(hc:jb2 w):vR 170 #[.string s] w (.string (refB s)):=by
 have HC:=Hd hc;clear hc
 by_cases hlt:s.size < 32
 ·have hq:(s.size:Int) < 32:=by omega
  go_enter Tryz.func170,Tryz.ntmps170;go_wp2_with fail
  go_ret
  exact⟨by unfold refB;rw[if_pos hlt];rfl,ExtR w⟩
 ·have hq:¬(s.size:Int) < 32:=by omega
  go_enter Tryz.func170,Tryz.ntmps170;go_wp2_with fail
  refine vC (of_t _ _ [s] (by simp) (jvM (ExtR _)) (HC.o.ext ((ExtR w).alloc _))) fun w1 hE1=>?_;rw[jdE];have HE1:Hid (Ext w w1):=Hd (((ExtR w).alloc _).trans hE1);clear hE1
  obtain⟨h,hh⟩:=vE (shaB s)
  have hhs:h.size<=1000000000:=by rw[hh,jbF];omega
  rw[<-hh];have HH:=Hd hh;clear hh;go_wp2_with fail
  refine vC (jee w1 h hhs) fun w2 hE2=>?_;have HE2:=Hd (HE1.o.trans hE2);clear hE2 hhs;go_wp2_with fail
  go_ret
  exact⟨by unfold refB;rw[if_neg hlt, <-HH.o];rfl,HE2.o⟩
def jeX(s:vB)(r:Bool × Nat × Nat):Option vB:=if r.1=false/\r.2.1+r.2.2=s.size then some (s.extract r.2.1 (r.2.1+r.2.2))else none
def optV:Option vB->Value
 | some x=>.tuple #[.string x,.bool true]
 | none=>.tuple #[.string ⟨#[]⟩,.bool false]
theorem ju7{s:vB}{r:Bool × Nat × Nat}(h:cutN s=some r):r.2.1+r.2.2<=s.size:=by
 unfold cutN at h
 by_cases h0:0 < s.size
 ·rw[dif_pos h0]at h
  simp only at h
  by_cases h1:s[0].toNat < 128
  ·rw[if_pos h1]at h
   obtain rfl:=Option.some.inj h;simp only;omega
  ·rw[if_neg h1]at h
   obtain⟨lm,hlm⟩:∃ lm:Bool × Nat,lm=if s[0].toNat < 192 then (false,s[0].toNat - 128)else (true,s[0].toNat - 192):=⟨_,rfl⟩
   rw[<-hlm]at h;clear hlm
   obtain⟨l,m⟩:=lm
   simp only at h
   by_cases h3:m<=55
   ·rw[if_pos h3]at h
    split at h
    ·rename_i hc;obtain rfl:=Option.some.inj h;exact hc.1
    ·cases h
   ·rw[if_neg h3]at h
    split at h
    ·split at h
     ·rename_i hc;obtain rfl:=Option.some.inj h;exact hc
     ·cases h
    ·cases h
 ·rw[dif_neg h0]at h;cases h
theorem jh4(w:World)(s:vB)(r:Bool × Nat × Nat)(hs:s.size<=1000000000)(h:cutN s=some r):vR 164 #[.string s] w (optV (jeX s r)):=by
 have hle:=ju7 h;go_enter Tryz.func164,Tryz.ntmps164;go_wp2_with fail
 refine vC (jmK w s r hs h) fun w1 hE=>?_
 obtain⟨x,hx⟩:=vE (s.extract r.2.1 (r.2.1+r.2.2))
 obtain⟨y,hy⟩:∃ x,x=s.extract (r.2.1+r.2.2) s.size:=⟨_,rfl⟩
 have hys:y.size=s.size - (r.2.1+r.2.2):=by rw[hy];simp[ByteArray.size_extract]
 rw[<-hx, <-hy]
 obtain⟨l,p⟩:=r
 simp only at hys hle;have HE:=Hd hE;have HX:=Hd hx;clear hE h hx hy hs;simp only;cases l with
 | true =>
  go_wp2_with fail
  exact bodyPost_ret (v:=optV none) vY rfl ⟨by unfold jeX;rw[if_neg (by simp)],HE.o⟩
 | false =>
  by_cases he:p.1+p.2=s.size
  ·have hy0:y=⟨#[]⟩:=by
    have:y.size=0:=by omega
    obtain⟨⟨l⟩⟩:=y
    cases l with
    | nil=>rfl
    | cons x y=>exact absurd this (Nat.succ_ne_zero _)
   subst hy0;clear hys;go_wp2_with fail
   exact bodyPost_ret (v:=optV (some x)) vY rfl ⟨by unfold jeX;rw[if_pos ⟨rfl,he⟩,HX.o],HE.o⟩
  ·have hne:=ja8 (s:=y) vO
   clear hys;go_wp2_with fail
   exact bodyPost_ret (v:=optV none) vY rfl ⟨by unfold jeX;rw[if_neg (by simp[he])],HE.o⟩
def jfZ(s:vB)(r:Bool × Nat × Nat):Option vB:=(jeX s r).filter (fun x=>x.size=32)
theorem jd0(w:World)(s:vB)(r:Bool × Nat × Nat)(hs:s.size<=1000000000)(h:cutN s=some r):vR 118 #[.string s] w (optV (jfZ s r)):=by
 go_enter Tryz.func118,Tryz.ntmps118;go_wp2_with fail
 refine vC (jh4 w s r hs h) fun w1 hE=>?_;have HE:=Hd hE;have hb:jfZ s r=(jeX s r).filter (fun x=>x.size=32):=rfl
 obtain⟨o,ho⟩:=vE (jeX s r)
 rw[<-ho]at hb ⊢;have HB:=Hd hb;clear hE h hs ho hb;cases o with
 | none =>
  unfold optV;simp only;go_wp2_with fail
  exact bodyPost_ret (v:=optV none) vY rfl ⟨by rw[HB.o];rfl,HE.o⟩
 | some x =>
  unfold optV;simp only
  by_cases hx:x.size=32
  ·have hq:((x.size:Int) == 32)=true:=by simp;omega
   have hq':(x.size:Int)=32:=by omega
   go_wp2_with fail
   exact bodyPost_ret (v:=optV (some x)) vY rfl ⟨by rw[HB.o];simp[Option.filter,hx],HE.o⟩
  ·have hq:((x.size:Int) == 32)=false:=by simp;omega
   have hq':¬(x.size:Int)=32:=by omega
   go_wp2_with fail
   exact bodyPost_ret (v:=optV none) vY rfl ⟨by rw[HB.o];simp[Option.filter,hx],HE.o⟩
end Go.Proofs.YtcpnjmcipainpaaGreatDoor
