/- Parts of the proof, one behind the other: ShaC, ShaD, ShaE. Each is under no condition but those that it states. -/
import Derived.Test.YtcpnjmcipainpaaGreatDoorPb5
import Derived.Test.YtcpnjmcipainpaaGreatDoorPb8
import Derived.Lib.LazyBuf
namespace Go.Proofs.YtcpnjmcipainpaaGreatDoor
set_option linter.unusedSimpArgs false
set_option linter.unusedVariables false
set_option maxRecDepth 100000
set_option maxHeartbeats 16000000
section
open Go Go.RowKit
theorem jdz{P:Program}(w:World)(dT sT ty elem:TypeId)(b o dLen dCap:Nat)(t:ByteArray)(m:Nat)(hm:m=Nat.min t.size dLen)
  (hu:P.underlying dT=some (.slice elem)) (hz:∀ w,(Go.sizeOf elem).run P w=.ok 1 w)
  (hc:∀ j,j < m→(w.cell? ⟨b,o+j,none⟩).isSome=true) (hf:∀ j,j < m→w.frozen? ⟨b,o+j,none⟩=false) :
  (Builtin.copy_ #[dT,sT] ty #[.slice (some ⟨b,o,none⟩) dLen dCap,.string t]).run P w=.ok (goInt m) (w.setCells b o (jay (t.data.toList.take m))):=by
 have hl:(jay (t.data.toList.take m)).length=m:=by
  have:=Lib.size_eq t
  have h2:Nat.min t.size dLen=min t.size dLen:=rfl;simp[jay];rw[h2]at hm;omega
 have hst:=run_storeCells_cells (P:=P) b o (jay (t.data.toList.take m)) 0 w (by rw[hl];simpa using hc) (by rw[hl];simpa using hf) (by
  intro v hv
  obtain⟨x,_,rfl⟩:=List.mem_map.1 hv
  rfl)
 simp[Builtin.copy_,run_underlying hu,Builtin.lenOf,Builtin.firstCells,hz, ←hm];unfold jay at hst;rw[List.map_take]at hst;rw[hst];simp[jay,List.map_take]
structure HSt where
 V:W8
 B:List UInt8
 n:Nat
def HSt.Ok(s:HSt):Prop:=s.B.length=64∧s.n < 64
def je3(s:HSt)(x:UInt8):HSt:=if s.n+1=64 then ⟨mixW s.V (s.B.set s.n x),s.B.set s.n x,0⟩else ⟨s.V,s.B.set s.n x,s.n+1⟩
def ja0(s:HSt)(l:List UInt8):HSt:=l.foldl je3 s
theorem HSt.Ok.push{s:HSt}(h:s.Ok)(x:UInt8):(je3 s x).Ok:=by
 obtain⟨h1,h2⟩:=h
 unfold je3 HSt.Ok;split <;> simp[h1] <;> omega
theorem HSt.Ok.all{s:HSt}(h:s.Ok)(l:List UInt8):(ja0 s l).Ok:=by
 unfold ja0;induction l generalizing s with
 | nil=>exact h
 | cons x r ih=>exact ih (h.push x)
theorem jbA(s:HSt)(l r:List UInt8):ja0 s (l++r)=ja0 (ja0 s l) r:=List.foldl_append
def layB(B:List UInt8)(n:Nat)(xs:List UInt8):List UInt8:=B.take n++xs++B.drop (n+xs.length)
theorem jls{B:List UInt8}{n:Nat}{xs:List UInt8}(h:n+xs.length≤B.length):(layB B n xs).length=B.length:=by simp[layB];omega
theorem jeT{B:List UInt8}{n:Nat}(x:UInt8)(xs:List UInt8)(h:n+1+xs.length≤B.length):layB (B.set n x) (n+1) xs=layB B n (x :: xs):=by
 unfold layB;have h1:(B.set n x).take (n+1)=B.take n++[x]:=by
  rw[List.set_eq_take_append_cons_drop,if_pos (by omega),List.take_append,List.take_of_length_le (by simp;omega)];simp[Nat.min_eq_left (show n≤B.length by omega)]
 have h2:(B.set n x).drop (n+1+xs.length)=B.drop (n+(x :: xs).length):=by
  rw[List.drop_set_of_lt (by omega)]
  congr 1;simp;omega
 rw[h1,h2];simp
theorem jen(xs:List UInt8):∀ (s:HSt),s.Ok→s.n+xs.length < 64→ja0 s xs=⟨s.V,layB s.B s.n xs,s.n+xs.length⟩:=by
 induction xs with
 | nil=>intro s h _;simp[ja0,layB]
 | cons x r ih =>
  intro s h hx;simp only[List.length_cons]at hx;have e:je3 s x=⟨s.V,s.B.set s.n x,s.n+1⟩:=by unfold je3;rw[if_neg (by omega)]
  show ja0 (je3 s x) r=_;rw[ih _ (h.push x) (by rw[e];simp only;omega),e];simp only[List.length_cons];rw[jeT x r (by rw[h.1];omega),show s.n+1+r.length=s.n+(r.length+1) by omega]
theorem jem(xs:List UInt8):∀ (s:HSt),s.Ok→s.n+xs.length=64→ja0 s xs=⟨mixW s.V (layB s.B s.n xs),layB s.B s.n xs,0⟩:=by
 induction xs with
 | nil=>intro s h hx;exact absurd h.2 (by simp at hx;omega)
 | cons x r ih =>
  intro s h hx;simp only[List.length_cons]at hx;show ja0 (je3 s x) r=_
  by_cases hr:r.length=0
  ·have hr':r=[]:=List.eq_nil_of_length_eq_zero hr
   subst hr';have e:je3 s x=⟨mixW s.V (s.B.set s.n x),s.B.set s.n x,0⟩:=by unfold je3;rw[if_pos (by simp at hx;omega)]
   rw[e]
   have:=jeT (B:=s.B) (n:=s.n) x [] (by rw[h.1];simp at hx ⊢;omega)
   rw[←this];simp[ja0,layB]
  ·have e:je3 s x=⟨s.V,s.B.set s.n x,s.n+1⟩:=by unfold je3;rw[if_neg (by omega)]
   rw[ih _ (h.push x) (by rw[e];simp only;omega),e];simp only;rw[jeT x r (by rw[h.1];omega)]
def jbe(w:World)(b:Nat)(s:HSt)(sz:Int):Prop:=Blk w b (.cells (jaz s.V.words s.B (s.n:Int) sz).toArray 239)
theorem jbB(v:W8):v.words.length=8:=rfl
theorem jbe.held{w:World}{b:Nat}{s:HSt}{sz:Int}(h:jbe w b s sz)(hs:s.B.length=64):w.cell? ⟨b,72,none⟩=some (.int .i64 (s.n:Int)):=h.cellL (by
 unfold jaz;rw[List.getElem?_append_right (by simp[jbB,jay,hs])];simp[jbB,jay,hs])
theorem jbe.siz{w:World}{b:Nat}{s:HSt}{sz:Int}(h:jbe w b s sz)(hs:s.B.length=64):w.cell? ⟨b,73,none⟩=some (.int .u64 sz):=h.cellL (by
 unfold jaz;rw[List.getElem?_append_right (by simp[jbB,jay,hs])];simp[jbB,jay,hs])
theorem jbe.setHeld{w:World}{b:Nat}{s:HSt}{sz:Int}(h:jbe w b s sz)(hs:s.B.length=64)(n:Nat):jbe (w.setCell ⟨b,72,none⟩ (.int .i64 (n:Int))) b ⟨s.V,s.B,n⟩ sz:=by
 have:=h.set_same (i:=72) (.int .i64 (n:Int))
 unfold jbe;unfold jaz at this ⊢;rw[List.setIfInBounds_toArray,List.set_append_right _ _ (by simp[jbB,jay,hs])]at this;simpa [jbB,jay,hs]using this
theorem jbe.setSiz{w:World}{b:Nat}{s:HSt}{sz:Int}(h:jbe w b s sz)(hs:s.B.length=64)(z:Int):jbe (w.setCell ⟨b,73,none⟩ (.int .u64 z)) b s z:=by
 have:=h.set_same (i:=73) (.int .u64 z)
 unfold jbe;unfold jaz at this ⊢;rw[List.setIfInBounds_toArray,List.set_append_right _ _ (by simp[jbB,jay,hs])]at this;simpa [jbB,jay,hs]using this
theorem jbe.lay{w:World}{b:Nat}{s:HSt}{sz:Int}(h:jbe w b s sz)(hs:s.B.length=64)(xs:List UInt8)(hx:s.n+xs.length≤64):jbe (w.setCells b (8+s.n) (jay xs)) b ⟨s.V,layB s.B s.n xs,s.n⟩ sz:=by
 have:=Blk.setCells (jay xs) (8+s.n) w _ h (by simp[jaz,jbB,jay,hs];omega)
 unfold jbe;have e:(jaz s.V.words s.B (s.n:Int) sz).take (8+s.n)++jay xs++(jaz s.V.words s.B (s.n:Int) sz).drop (8+s.n+(jay xs).length)=jaz s.V.words (layB s.B s.n xs) (s.n:Int) sz:=by
  unfold jaz layB;have e1:(s.V.words.map wv).length=8:=rfl;have e2:(jay s.B).length=64:=by simp[jay,hs]
  have e3:(jay xs).length=xs.length:=by simp[jay]
  rw[List.append_assoc (s.V.words.map wv),List.take_append,List.drop_append,e1,e3];rw[List.take_of_length_le (by rw[e1];omega),List.drop_of_length_le (l:=s.V.words.map wv) (by rw[e1];omega)];rw[show 8+s.n - 8=s.n by omega,show 8+s.n+xs.length - 8=s.n+xs.length by omega];rw[List.take_append_of_le_length (by rw[e2];omega),List.drop_append_of_le_length (by rw[e2];omega)];simp[jay,List.map_take,List.map_drop]
 rw[e]at this;exact this
theorem jjO{P:Program}{a:Act}{w:World}{v:Value}{p:Addr}{d:Option Tmp}{t ty:TypeId}{x:Operand}{pos:String}{af:Array Edge}{g:Option (Nat × Bool)}(h:(Instr.loadAt t (.pointer (some p))).run P w=.ok v w)(hx:a.eval x=.pointer (some p)) :
  (execOp a.eval ⟨d,.load t x,ty,pos,af,g⟩).run P w=.ok (.value v) w:=by
 simp only[execOp,hx,Sem.run_bind,h,Result.andThen,Sem.run_pure]
def jos(v:Value):Nat:=match v with | .string t=>t.size | _=>0
def joP(w:World)(bh:Nat)(s:HSt)(sz:Int)(t:ByteArray)(v:Value)(wr:World):Prop:=∃ j:Nat,j≤t.size∧v=.string (t.extract j t.size)∧jbe wr bh (ja0 s (t.data.toList.take j)) sz∧jah (fun x=>x=bh) w wr
theorem jkP(sz:UInt64)(n:Nat):IntKind.u64.wrap ((sz.toNat:Int)+IntKind.u64.wrap (n:Int))=((sz+UInt64.ofNat n).toNat:Int):=by
 rw[UInt64.toNat_add,UInt64.toNat_ofNat'];show ((sz.toNat:Int)+(n:Int) % (18446744073709551616:Int)) % (18446744073709551616:Int)=_;simp only[Int.natCast_emod,Int.natCast_add];rfl
theorem Tryz.uSlU8:Tryz.prog.underlying 92=some (.slice 5):=by kernel_rfl
theorem Tryz.szU8(w:World):(Go.sizeOf 5).run Tryz.prog w=.ok 1 w:=by kernel_rfl
theorem Tryz.uInt:Tryz.prog.underlying 3=some (.int .i64):=by kernel_rfl
theorem jkQ(w:World)(bh:Nat)(s:HSt)(hs:s.Ok)(sz:UInt64)(t:ByteArray)(hB:jbe w bh s (sz.toNat:Int))(hc:jbU w)(hbh:bh≠0) :
  Calls Tryz.prog 134 #[.pointer (some ⟨bh,0,none⟩),.string t] w fun e w'=>e=.returned (.pointer (some ⟨bh,0,none⟩))∧jbe w' bh (ja0 s t.data.toList) ((sz+UInt64.ofNat t.size).toNat:Int)∧jah (fun x=>x=bh) w w':=by
 have q73:=hB.siz hs.1;have f73:w.frozen? ⟨bh,73,none⟩=false:=hB.frozen;have HB:=Hd hB;have HC:=Hd hc;have HS:=Hd hs;clear hB hc hs;go_enter Tryz.func134,Tryz.ntmps134;go_wp2_with fail
 have hz:=jkP sz t.size
 obtain⟨SZ,hSZ⟩:∃ z,z=IntKind.u64.wrap ((sz.toNat:Int)+IntKind.u64.wrap (t.size:Int)):=⟨_,rfl⟩
 rw[←hSZ]at hz ⊢;have hB1:=HB.o.setSiz HS.o.1 SZ;have hK1:=(jah.refl (fun x=>x=bh) w).setCell (p:=⟨bh,73,none⟩) (.inl rfl) (.int .u64 SZ)
 obtain⟨w1,hw1⟩:∃ w1,w1=w.setCell ⟨bh,73,none⟩ (.int .u64 SZ):=⟨_,rfl⟩
 rw[←hw1]at hB1 hK1 ⊢;have HB1:=Hd hB1;have HK1:=Hd hK1;have HZ:=Hd hz;have HC1:=Hd (HC.o.keeps hK1 (Ne.symm hbh));clear hB1 hK1 hw1 hz hSZ q73 f73 HB HC
 obtain⟨wt,hwt⟩:∃ x,x=IntKind.u64.wrap (t.size:Int):=⟨_,rfl⟩
 rw[←hwt];clear hwt;go_loopw [1] (fun v wr=>joP w1 bh s SZ t v wr) (fun v _=>jos v)
 case atStart=>exact⟨0,by omega,by rw[show t.extract 0 t.size=t by simp],HB1.o,jah.refl _ _⟩
 case round =>
  obtain⟨j,hj,rfl,hG,hK⟩:=hrel
  have HK:=Hd hK;have HCr:=Hd (HC1.o.keeps hK (Ne.symm hbh))
  obtain⟨st,hst⟩:∃ st,st=ja0 s (t.data.toList.take j):=⟨_,rfl⟩
  have hok:st.Ok:=by rw[hst];exact HS.o.all _
  rw[←hst]at hG;have HG:=Hd hG;have HST:=Hd hst
  obtain⟨r,hr⟩:∃ r,r=t.extract j t.size:=⟨_,rfl⟩
  have hrs:r.size=t.size - j:=by rw[hr];simp[ByteArray.size_extract]
  have HR:=Hd hr;rw[←hr];clear hG hst hK hr
  by_cases hlt:j < t.size
  ·have hne:=ja8 (s:=r) (by omega)
   obtain⟨Vs,Bs,n⟩:=st
   obtain⟨hbl,hn⟩:=hok
   simp only at hbl hn
   obtain⟨m,hm⟩:∃ m,m=Nat.min r.size (64 - n):=⟨_,rfl⟩
   have hm':m=min r.size (64 - n):=hm;have hm1:0 < m:=by omega
   have hmr:m≤r.size:=by omega
   have hmn:n+m≤64:=by omega
   have HOK:Hid (HSt.Ok ⟨Vs,Bs,n⟩):=Hd ⟨hbl,hn⟩;have c1:(n:Int)≤64:=by omega
   have c2:(64 - (n:Int)).toNat=64 - n:=by omega
   have HRS:=Hd hrs;have HM:=Hd hm;have HM':=Hd hm';have HBL:=Hd hbl;clear hrs hm hm' hbl;go_wp2_with fail
   refine jau [0,1,2,3,4,5,8,6,7,9,10] [6,9] Ext ExtR ExtT (by kernel_rfl) (by kernel_rfl) (by kernel_rfl) ?_
   (refine jak _ rfl (by kernel_rfl) rfl rfl (fun K hK=>?_);go_big_quiet_op;refine hK _ ?_;clear hK K)
   refine jc0 _ (.pointer (some ⟨bh,0,none⟩)) rfl (by kernel_rfl) rfl (fun w1=>by kernel_rfl) ?_;simp only[Act.put,sA,sB,sC];iterate 2 (refine jak _ rfl (by kernel_rfl) rfl rfl (fun K hK=>?_);go_big_quiet_op;refine hK _ ?_;clear hK K)
   refine jc0 _ (.pointer (some ⟨bh,0,none⟩)) rfl (by kernel_rfl) rfl (fun w1=>by kernel_rfl) ?_;simp only[Act.put,sA,sB,sC];iterate 2 (refine jak _ rfl (by kernel_rfl) rfl rfl (fun K hK=>?_);go_big_quiet_op;refine hK _ ?_;clear hK K)
   refine jbh _ rfl (by kernel_rfl) rfl (fun w2 he K hK=>?_);have X2:=(jaj wr).trans he;refine jcK (w':=w2) (jjO (jaa Tryz.uInt rfl (jab (HG.o.held HOK.o.1) X2)) (by kernel_rfl)) (hK _ _ ?_);clear hK K he;simp only[Act.put,sA,sB,sC]
   (refine jak _ rfl (by kernel_rfl) rfl rfl (fun K hK=>?_);go_big_quiet_op;refine hK _ ?_;clear hK K)
   refine jbh _ rfl (by kernel_rfl) rfl (fun w3 he K hK=>?_);have X3:=X2.trans he
   obtain⟨xs,hxs⟩:∃ x,x=r.data.toList.take m:=⟨_,rfl⟩
   have hxl:xs.length=m:=by rw[hxs];have:=Lib.size_eq r;simp;omega
   have G1:=HG.o.keeps X3 (fun h=>h);have K1:=HK.o.trans' X3 (fun _ _ h=>h.elim);have hcl:(jaz Vs.words Bs (n:Int) SZ).length=74:=by simp[jaz,jbB,jay,HBL.o]
   have hcp:=jdz (P:=Tryz.prog) w3 92 9 3 5 bh (8+n) (64 - n) (64 - n) r m HM.o Tryz.uSlU8 Tryz.szU8
    (by intro j hj;rw[Blk.cellL G1 (i:=8+n+j) (List.getElem?_eq_getElem (by rw[hcl];omega))];rfl) (by intro j hj;exact Blk.frozen G1)
   rw[←hxs]at hcp;have G2:=jbe.lay G1 HOK.o.1 xs (by simp only;omega);have K2:=K1.trans (jah.oneSetCells bh (jay xs) (8+n) w3);simp only at G2
   obtain⟨w4,hw4⟩:∃ x,x=w3.setCells bh (8+n) (jay xs):=⟨_,rfl⟩
   rw[←hw4]at hcp G2 K2;have HG4:=Hd G2;have HK4:=Hd K2;have HXS:=Hd hxs;have HXL:=Hd hxl;clear G1 K1 G2 K2 hw4 he X2 X3 HG HK hcl hxs hxl HCr;refine jcK (w':=w4) (jgG hcp (by kernel_rfl)) (hK _ _ ?_);clear hcp hK K w3 w2;simp only[Act.put,sA,sB,sC]
   (refine jak _ rfl (by kernel_rfl) rfl rfl (fun K hK=>?_);go_big_quiet_op;refine hK _ ?_;clear hK K)
   refine ja6 (by kernel_rfl) (fun w5 he=>?_);have HG5:Hid (jbe w5 bh ⟨Vs,layB Bs n xs,n⟩ SZ):=Hd (HG4.o.keeps he (fun h=>h));have HK5:=Hd (HK4.o.trans' he (fun _ _ h=>h.elim));clear he HG4 HK4;have HOK5:Hid (HSt.Ok ⟨Vs,layB Bs n xs,n⟩):=Hd ⟨by simp only;rw[jls (by rw[HXL.o,HBL.o];omega),HBL.o],hn⟩;have q72:=HG5.o.held HOK5.o.1;have f72:w5.frozen? ⟨bh,72,none⟩=false:=Blk.frozen HG5.o;simp only at q72;have hrd:r.data.toList=t.data.toList.drop j:=by
    rw[HR.o,ByteArray.data_extract,Array.toList_extract]
    have:=Lib.size_eq t
    simp only[List.extract_eq_take_drop];rw[List.take_of_length_le (by simp)]
   have hpush:ja0 s (t.data.toList.take (j+m))=ja0 ⟨Vs,Bs,n⟩ xs:=by
    rw[List.take_add,jbA, ←HST.o,HXS.o,hrd]
   have hrest:r.extract m r.size=t.extract (j+m) t.size:=by
    have hrs:=HRS.o;rw[HR.o]at hrs ⊢;rw[hrs,ByteArray.extract_extract]
    congr 1 <;> omega
   have hrl:(r.extract m r.size).size=r.size - m:=by simp[ByteArray.size_extract]
   have HPU:=Hd hpush;have HRE:=Hd hrest;have HRL:=Hd hrl;clear hrd hpush hrest hrl HR HST HXS HM HM';have hjm:j+m≤t.size:=by have:=HRS.o;omega
   by_cases hfull:n+m=64
   ·have hq:((n:Int)+(m:Int) == 64)=true:=by simp;omega
    have hpf:=jem xs ⟨Vs,Bs,n⟩ HOK.o (by simp only;rw[HXL.o];exact hfull);simp only at hpf;have HPF:=Hd hpf;have hG6:=HG5.o.setHeld HOK5.o.1 (n+m);have hK6:=HK5.o.setCell (p:=⟨bh,72,none⟩) (.inl rfl) (.int .i64 ((n+m:Nat):Int));have HG6:=Hd hG6;have HK6:=Hd hK6;clear hpf hG6 hK6 HG5 HK5;go_wp2_with fail
    rw[←Int.natCast_add]
    obtain⟨w6,hw6⟩:∃ x,x=w5.setCell ⟨bh,72,none⟩ (.int .i64 ((n+m:Nat):Int)):=⟨_,rfl⟩
    rw[←hw6]at HG6 HK6 ⊢;clear hw6 q72 f72;refine (joW w6 bh Vs (layB Bs n xs) _ _ HOK5.o.1 HG6.o (HC1.o.keeps HK6.o (Ne.symm hbh)) hbh).mono ?_;rintro e w7 ⟨rfl,hG7,hK7⟩;have HG7:Hid (jbe w7 bh ⟨mixW Vs (layB Bs n xs),layB Bs n xs,n+m⟩ SZ):=Hd hG7;have HK7:=Hd (HK6.o.trans hK7);clear hG7 hK7 HG6 HK6;have q72:=HG7.o.held HOK5.o.1;have f72:w7.frozen? ⟨bh,72,none⟩=false:=Blk.frozen HG7.o;simp only at q72;go_wp2_with fail
    refine⟨⟨j+m,hjm,by rw[HRE.o],?_,HK7.o.setCell (.inl rfl) _⟩,?_⟩
    ·rw[HPU.o,HPF.o];exact HG7.o.setHeld HOK5.o.1 0
    ·show (r.extract m r.size).size < r.size;rw[HRL.o];omega
   ·have hq:((n:Int)+(m:Int) == 64)=false:=by simp;omega
    have hpf:=jen xs ⟨Vs,Bs,n⟩ HOK.o (by simp only;rw[HXL.o];omega);simp only[HXL.o]at hpf;have HPF:=Hd hpf;clear hpf;go_wp2_with fail
    refine⟨⟨j+m,hjm,by rw[HRE.o],?_,HK5.o.setCell (.inl rfl) _⟩,?_⟩
    ·rw[HPU.o,HPF.o];exact HG5.o.setHeld HOK5.o.1 (n+m)
    ·show (r.extract m r.size).size < r.size;rw[HRL.o];omega
  ·have hr0:r=⟨#[]⟩:=by
    have:r.size=0:=by omega
    obtain⟨⟨l⟩⟩:=r
    cases l with
    | nil=>rfl
    | cons x y=>exact absurd this (Nat.succ_ne_zero _)
   have hj2:j=t.size:=by omega
   subst hr0;have hend:st=ja0 s t.data.toList:=by rw[HST.o,hj2];have:=Lib.size_eq t;rw[List.take_of_length_le (by omega)]
   rw[hend]at HG;have HF:=Hd (HK1.o.trans HK.o);clear HK1 HK HR HST hend hrs hok;go_wp2_with fail
   go_ret
   exact⟨rfl,by rw[←HZ.o];exact HG.o,HF.o⟩
def jfQ(n:Nat):Nat:=(119 - n) % 64
def jcs(sz:UInt64)(i:Nat):UInt8:=UInt8.ofNat (sz.toNat * 8 % 18446744073709551616 / 2 ^ (56 - 8 * i))
def lenL(sz:UInt64):List UInt8:=(List.range 8).map (jcs sz)
def jhb(z:Nat)(sz:UInt64):List UInt8:=128 ::(List.replicate z 0++lenL sz)
def jff(z:Nat)(sz:UInt64)(k:Nat):List UInt8:=128 ::(List.replicate z 0++((lenL sz).take k++List.replicate (8 - k) 0))
theorem jcE(sz:UInt64):(lenL sz).length=8:=by simp[lenL]
theorem jkE(z:Nat)(sz:UInt64)(k:Nat)(hk:k≤8):(jff z sz k).length=1+z+8:=by simp[jff,jcE];omega
theorem jkD(z:Nat)(sz:UInt64):jff z sz 8=jhb z sz:=by
 unfold jff jhb;rw[List.take_of_length_le (by rw[jcE];omega)];simp
theorem jkF(z:Nat)(sz:UInt64)(k:Nat)(hk:k < 8):(jff z sz k).set (1+z+k) (jcs sz k)=jff z sz (k+1):=by
 have hl:=jcE sz;have h4:k < (lenL sz).length:=by omega
 have h5:(lenL sz)[k]=jcs sz k:=by simp[lenL]
 unfold jff;rw[show 1+z+k=(z+k)+1 by omega,List.set_cons_succ,List.set_append_right _ _ (by simp)];simp only[List.length_replicate];rw[show z+k - z=k by omega,List.set_append_right _ _ (by simp[hl];omega)];rw[show 8 - k=(8 - (k+1))+1 by omega,List.replicate_succ,List.take_succ_eq_append_getElem h4,h5];simp[hl,Nat.min_eq_left (show k≤8 by omega)]
theorem jl4(sz:UInt64)(k:Nat):IntKind.u64.wrap ((sz.toNat:Int) * 8) / 2 ^ (56 - 8 * k) % 256=((jcs sz k).toNat:Int):=by
 unfold jcs;rw[UInt8.toNat_ofNat'];have h:∀ (a M p:Nat),((a:Int) * 8 % (M:Int)) / ((p:Nat):Int) % 256=((a * 8 % M / p % 256:Nat):Int):=by
  intro a M p;simp only[Int.natCast_emod,Int.natCast_ediv,Int.natCast_mul];rfl
 have h2:=h sz.toNat 18446744073709551616 (2 ^ (56 - 8 * k));rw[Int.natCast_pow]at h2;exact h2
theorem jfu(l:List UInt8)(k:Nat)(x:UInt8):(jay l).set k (.int .u8 (x.toNat:Int))=jay (l.set k x):=by unfold jay;rw[List.map_set]
theorem Tryz.uHash':(match Tryz.prog.underlying 239 with | some (.struct _)=>true | _=>false)=true:=by kernel_rfl
theorem Tryz.uHash:∃ fs,Tryz.prog.underlying 239=some (.struct fs):=by
 have h:=Tryz.uHash';cases hu:Tryz.prog.underlying 239 with
 | none=>rw[hu]at h;cases h
 | some d=>rw[hu]at h;cases d <;> first | exact⟨_,rfl⟩ | cases h
theorem Tryz.iHash:(Tryz.prog.info? 239).map (·.size)=some 74:=by kernel_rfl
theorem Tryz.newHash(w:World):(Instr.alloc 239 true (.tuple #[])).run Tryz.prog w=.ok (.pointer (some ⟨w.heap.size,0,none⟩)) (w.alloc (.cells (jaz (List.replicate 8 0) (List.replicate 64 0) 0 0).toArray 239)):=by kernel_rfl
theorem jf1(ws:List UInt32)(B:List UInt8)(n sz:Int):(jaz ws B n sz).length=ws.length+B.length+2:=by simp[jaz];omega
theorem jf2(ws:List UInt32)(B:List UInt8)(n sz:Int):∀ v∈jaz ws B n sz,v.oneCell'=true:=by
 intro v hv;unfold jaz at hv;rcases List.mem_append.1 hv with hv | hv
 ·rcases List.mem_append.1 hv with hv | hv
  ·exact jkR v hv
  ·exact jft _ v hv
 ·simp only[List.mem_cons,List.not_mem_nil,or_false]at hv;rcases hv with rfl | rfl <;> rfl
def jhm(x:UInt32):UInt8:=UInt8.ofNat x.toNat
def jdV(x:UInt32):List UInt8:=[jhm (shrW x 24),jhm (shrW x 16),jhm (shrW x 8),jhm x]
def outL(ws:List UInt32):List UInt8:=ws.flatMap jdV
theorem Tryz.run_byteW(x:UInt32)(w:World):(convert 206 5 (wv x)).run Tryz.prog w=.ok (.int .u8 ((jhm x).toNat:Int)) w:=by
 have h:∀ n:Int,(convert 206 5 (.int .u32 n)).run Tryz.prog w=.ok (.int .u8 (IntKind.u8.wrap n)) w:=fun n=>by kernel_rfl
 unfold wv jhm;rw[h,ji6,jeA]
theorem Tryz.index8(V:W8)(k:Nat)(hk:k < 8)(x:UInt32)(hx:V.words[k]?=some x)(w:World):(Instr.index 235 (.agg (V.words.map wv).toArray) (.int .i64 (k:Int))).run Tryz.prog w=.ok (wv x) w:=by
 obtain⟨a,b,c,d,e,f,g,h⟩:=V
 rcases (show k=0∨k=1∨k=2∨k=3∨k=4∨k=5∨k=6∨k=7 by omega)with rfl | rfl | rfl | rfl | rfl | rfl | rfl | rfl <;>(cases hx;kernel_rfl)
def jnw(w:World)(V:W8)(v i:Value)(wr:World):Prop:=∃ k:Nat,k≤8∧i=.int .i64 k∧ORow 5 1 w wr v (4 * k) (jay (outL (V.words.take k)))
def sumB(s:HSt)(sz:UInt64):ByteArray:=⟨(outL (ja0 s (jhb (jfQ s.n) sz)).V.words).toArray⟩
def joO(w:World)(g z L:Nat)(sz:UInt64)(i:Value)(wr:World):Prop:=∃ k:Nat,k≤8∧i=.int .i64 k∧ORow 5 1 w wr (.slice (some ⟨g,0,none⟩) L L) L (jay (jff z sz k))
theorem jo7(w:World)(bh:Nat)(s:HSt)(hs:s.Ok)(sz:UInt64)(hB:jbe w bh s (sz.toNat:Int))(hc:jbU w) :
  Calls Tryz.prog 135 #[.pointer (some ⟨bh,0,none⟩)] w fun e w'=>e=.returned (.string (sumB s sz))∧Ext w w':=by
 obtain⟨i0,hi,hz0,hz1,hz2⟩:=info_parts Tryz.infoU8
 obtain⟨fs,hfs⟩:=Tryz.uHash
 have hrg:w.rangeAt bh 0 (jaz s.V.words s.B (s.n:Int) (sz.toNat:Int)):=fun j v hv=>by rw[Nat.zero_add];exact hB.cellL hv
 have hln:(jaz s.V.words s.B (s.n:Int) (sz.toNat:Int)).length=74:=by rw[jf1,hs.1];rfl
 have HB:=Hd hB;have HC:=Hd hc;have HS:=Hd hs;have HRG:=Hd hrg;have HLN:=Hd hln;clear hB hc hs hrg hln;go_enter Tryz.func135,Tryz.ntmps135;go_wp2_with (first |(refine wpList_load_mid rfl 239 (.tmp 11) rfl bh 0 rfl _ _ HRG.o hfs rfl (by rw[HLN.o];exact Tryz.iHash) ?_) |(refine jap (cs:=jaz (List.replicate 8 0) (List.replicate 64 0) 0 0) Tryz.newHash rfl rfl ?_))
 intro W2 B2 E2;refine jal (old:=jaz (List.replicate 8 0) (List.replicate 64 0) 0 0) (vs:=jaz s.V.words s.B (s.n:Int) (sz.toNat:Int)) rfl rfl rfl rfl B2 (by rw[HLN.o];rfl) (by rw[HLN.o];exact Tryz.iHash) (jf2 _ _ _ _) ?_;intro W3 B3 K3
 obtain⟨g3,hg3⟩:∃ g,g=w.heap.size:=⟨_,rfl⟩
 have X3:=Hd (E2.trans' K3 (fun x hx e=>by omega):jah (fun _=>False) w W3);rw[←hg3]at B3 ⊢;have hl3:g3 < W3.heap.size:=B3.lt;have h03:0 < g3:=by rw[hg3];exact HC.o.lt
 have HB3:Hid (jbe W3 g3 s (sz.toNat:Int)):=Hd B3;have q72:=jbe.held (HB.o.keeps X3.o (fun h=>h)) HS.o.1;have q73:=Hd (jbe.siz (HB.o.keeps X3.o (fun h=>h)) HS.o.1);clear B2 E2 B3 K3 HRG HLN HB
 obtain⟨n,hn⟩:∃ n,n=s.n:=⟨_,rfl⟩
 have hn64:n < 64:=by rw[hn];exact HS.o.2
 rw[←hn]at q72
 obtain⟨z,hz⟩:∃ z,z=jfQ n:=⟨_,rfl⟩
 have hzq:(119 - (n:Int)).tmod 64=(z:Int):=by rw[hz];unfold jfQ;rw[Int.tmod_eq_emod_of_nonneg (by omega)];omega
 have hz64:z < 64:=by rw[hz];unfold jfQ;omega
 have HZ:=Hd hz;have HN:=Hd hn;clear hz hn
 obtain⟨L,hL⟩:∃ L,L=1+z+8:=⟨_,rfl⟩
 have hLq:1+(z:Int)+8=(L:Int):=by omega
 have hL0:(0:Int) < (L:Int):=by omega
 have HL:=Hd hL;have HG3:=Hd hg3;have hLb:L≤72:=by omega
 clear hg3 hL;have hmk:=jc6 (P:=Tryz.prog) W3 Tryz.uBytes hi hz0 hz1 rfl .i64 .i64 L (by rw[hz2];omega) (by unfold maxLen;omega);have hrow:=ORow.lit (T:=5) (sz:=1) (List.replicate L (.int .u8 0)).toArray (n:=L) (ExtR W3) (by unfold maxLen;omega) (by simp)
 obtain⟨g,hg⟩:∃ g,g=W3.heap.size:=⟨_,rfl⟩
 obtain⟨W4,hW4⟩:∃ W,W=W3.alloc (.cells (List.replicate L (Value.int .u8 0)).toArray 5):=⟨_,rfl⟩
 rw[←hg, ←hW4]at hmk hrow;have h3g:g3 < g:=by rw[hg];exact hl3
 have HGG:=Hd hg;clear hg hW4 hl3;have hcell0:=hrow.own.cellAt 0 (by omega);have hfr0:=hrow.own.frozenAt 0;have HR4:=Hd hrow;clear hrow;simp only at hcell0;rw[List.getElem?_eq_getElem (by simp;omega)]at hcell0;go_wp2_with fail
 have hset0:=HR4.o.set 0 (.int .u8 128);have e0:((List.replicate L (Value.int .u8 0)).toArray.toList).set 0 (.int .u8 128)=jay (jff z sz 0):=by
  have e1:jff z sz 0=(List.replicate L (0:UInt8)).set 0 128:=by
   rw[HL.o,show 1+z+8=(z+8)+1 by omega,List.replicate_succ,List.set_cons_zero];unfold jff;simp only[List.take_zero,List.nil_append,Nat.sub_zero,List.replicate_append_replicate]
  rw[e1, ←jfu]
  congr 1
  simp[jay]
 rw[e0]at hset0
 obtain⟨W5,hW5⟩:∃ W,W=W4.setCell ⟨g,0,none⟩ (.int .u8 128):=⟨_,rfl⟩
 rw[←hW5]at hset0 ⊢;have HR5:=Hd hset0;clear hset0 e0 hcell0 hfr0 HR4 hmk hzq hLq hL0 q72 hW5;go_loopw [25] (fun i wr=>joO W3 g z L sz i wr) (fun i _=>8 - (intOf i).toNat)
 case atStart=>exact⟨0,by omega,rfl,HR5.o⟩
 case round =>
  obtain⟨k,hk,rfl,hR⟩:=hrel
  have HR:=Hd hR;clear hR
  by_cases hlt:k < 8
  ·have q73r:=jab q73.o HR.o.ext
   have hcell:=HR.o.own.cellAt (1+z+k) (by have:=HL.o;omega);have hfr:=HR.o.own.frozenAt (1+z+k);rw[List.getElem?_eq_getElem (by rw[bytesV_len,jkE z sz k (by omega)];omega)]at hcell;have c0:(0:Int)≤1+(z:Int)+(k:Int):=by omega
   have c1:1+(z:Int)+(k:Int) < (L:Int):=by have:=HL.o;omega
   have c2:(1+(z:Int)+(k:Int)).toNat=1+z+k:=by omega
   have c3:(0:Int)≤56 - 8 * (k:Int):=by omega
   have c4:(56 - 8 * (k:Int)).toNat=56 - 8 * k:=by omega
   have c5:56 - 8 * (k:Int) < 64:=by omega
   go_wp2_with fail
   rw[jl4];have hset:=HR.o.set (1+z+k) (.int .u8 ((jcs sz k).toNat:Int));rw[jfu,jkF z sz k hlt]at hset
   exact⟨⟨k+1,by omega,by go_num,hset⟩,by simp[intOf];omega⟩
  ·have hk8:k=8:=by omega
   subst hk8;have hown:=HR.o.own;rw[jkD]at hown;have hcv:=ja9 wr Tryz.uBytes Tryz.uU8 Tryz.uStr hown;have HXr:=Hd HR.o.ext;clear hown HR5 HR q73;go_wp2_with fail
   rw[show ((8:Nat):Int)=(8:Int)from rfl];refine (jkQ wr g3 s HS.o sz ⟨(jhb z sz).toArray⟩ (HB3.o.keeps HXr.o (fun h=>h)) (HC.o.ext (X3.o.trans HXr.o)) (by omega)).mono ?_;rintro e w6 ⟨rfl,hH6,hK6⟩
   obtain⟨S6,hS6⟩:∃ x,x=ja0 s (jhb z sz):=⟨_,rfl⟩
   have hH6':jbe w6 g3 S6 ((sz+UInt64.ofNat (⟨(jhb z sz).toArray⟩:ByteArray).size).toNat:Int):=by rw[hS6];exact hH6
   have hok6:S6.Ok:=by rw[hS6];exact HS.o.all _
   have HX6:Hid (Ext w w6):=Hd ((X3.o.trans HXr.o).trans' hK6 (fun x hx e=>by have:=HG3.o;omega));have HS6:=Hd hS6
   obtain⟨w7,hmk0,hown7,hgr7⟩:=run_make_own (P:=Tryz.prog) (w:=w6) w6.heap.size 92 5 i0 _ 1 Tryz.uBytes hi hz0 hz1 .i64 .i64 32 (by rw[hz2];omega) (by unfold maxLen;omega) (Nat.le_refl _)
   have hmk2:(Instr.makeSlice 92 (.int .i64 0) (.int .i64 32)).run Tryz.prog w6=.ok (.slice (some ⟨w6.heap.size,0,none⟩) 0 32) w7:=by rw[←hmk0];rfl
   have HR7:Hid (ORow 5 1 w6 w7 (.slice (some ⟨w6.heap.size,0,none⟩) 0 32) 0 []):=Hd (ORow.made w6 hown7 hgr7);have hH7:jbe w7 g3 S6 _:=hH6'.keeps HR7.o.ext (fun h=>h);have hrg7:w7.rangeAt g3 0 (S6.V.words.map wv):=fun j v hv=>by
    rw[Nat.zero_add];exact hH7.cellL (by unfold jaz;rw[List.append_assoc,List.getElem?_append_left (List.getElem?_eq_some_iff.1 hv).1];exact hv)
   have HRG7:=Hd hrg7
   obtain⟨V6,hV6⟩:∃ v,v=S6.V:=⟨_,rfl⟩
   rw[←hV6]at HRG7;have HV6:=Hd hV6;clear hH6 hH6' hok6 hS6 hmk0 hown7 hgr7 hH7 hrg7 hK6 hV6 hcv;go_wp2_with (refine wpList_load_mid rfl 235 (.tmp 49) rfl g3 0 rfl _ _ HRG7.o Tryz.uArr8 rfl Tryz.iArr8 ?_)
   clear hmk2 HRG7 HC HB3;have hS24:∀ (p:UInt32) (w:World),(binOp .shr 206 (wv p) (.int .u64 24)).run Tryz.prog w=.ok (wv (shrW p 24)) w:=fun _ _=>jbT 24 (by decide) .u64;have hS16:∀ (p:UInt32) (w:World),(binOp .shr 206 (wv p) (.int .u64 16)).run Tryz.prog w=.ok (wv (shrW p 16)) w:=fun _ _=>jbT 16 (by decide) .u64;have hS8:∀ (p:UInt32) (w:World),(binOp .shr 206 (wv p) (.int .u64 8)).run Tryz.prog w=.ok (wv (shrW p 8)) w:=fun _ _=>jbT 8 (by decide) .u64;have hCv:=Tryz.run_byteW;go_loopw [7,51] (fun v i wr=>jnw w6 V6 v i wr) (fun _ i _=>8 - (intOf i).toNat)
   case atStart=>exact⟨0,by omega,rfl,HR7.o⟩
   case round =>
    obtain⟨k,hk,rfl,hR⟩:=hrel
    obtain⟨a,c,rfl⟩:=hR.sl
    have HR:=Hd hR;clear hR
    by_cases hlt:k < 8
    ·obtain⟨x,hx⟩:∃ x,V6.words[k]?=some x:=⟨_,List.getElem?_eq_getElem (by simp[W8.words];omega)⟩
     have hix:=fun w=>Tryz.index8 V6 k hlt x hx w;have hstep:outL (V6.words.take (k+1))=outL (V6.words.take k)++jdV x:=by
      unfold outL;rw[List.take_add_one,hx];simp
     have HST:=Hd hstep;clear hx hstep;go_wp2_with (at_builtin;refine jaZ Tryz.sBytes (HR.o.mono ((ExtR wr).alloc _)) (.tmp 54) (.tmp 66) rfl rfl rfl (jaS (Blk.new wr _)) (news:=jay (jdV x)) (jft _) rfl rfl ?c1 ?c2 (fun v' w' r1 r2 r3=>?_))
     case c1=>unfold maxLen;omega
     case c2=>omega
     rw[←jb0, ←HST.o,show 4 * k+4=4 * (k+1) by omega]at r1;have HR2:=Hd r1;clear r1 r2 r3
     obtain⟨a2,c2,rfl⟩:=HR2.o.sl
     go_wp2_with fail
     exact⟨⟨k+1,by omega,by go_num,HR2.o⟩,by simp[intOf];omega⟩
    ·have hk8:k=8:=by omega
     subst hk8;have hown:=HR.o.own;rw[List.take_of_length_le (by simp[W8.words])]at hown;have hcv:=ja9 wr Tryz.uBytes Tryz.uU8 Tryz.uStr hown;have hres:(⟨(outL V6.words).toArray⟩:ByteArray)=sumB s sz:=by
      unfold sumB;rw[HV6.o,HS6.o,HZ.o,HN.o]
     rw[hres]at hcv;have HXF:=Hd (HX6.o.trans HR.o.ext);clear hown hres;go_wp2_with fail
     go_ret
     exact⟨rfl,HXF.o⟩
def jes:HSt:=⟨⟨0x6a09e667,0xbb67ae85,0x3c6ef372,0xa54ff53a,0x510e527f,0x9b05688c,0x1f83d9ab,0x5be0cd19⟩,List.replicate 64 0,0⟩
theorem jex:jes.Ok:=⟨rfl,by decide⟩
def shaL(l:List UInt8):ByteArray:=sumB (ja0 jes l) (UInt64.ofNat l.length)
def shaB(s:ByteArray):ByteArray:=shaL s.data.toList
theorem joY(w:World):Calls Tryz.prog 133 #[] w fun e w'=>e=.returned (.pointer (some ⟨w.heap.size,0,none⟩))∧jbe w' w.heap.size jes 0∧Ext w w':=by
 go_enter Tryz.func133,Tryz.ntmps133;go_wp2_with fail
 go_ret
 refine⟨rfl,?_,(ExtR w).alloc _⟩
 exact (congrArg (fun c=>Blk (w.alloc (.cells c 239)) w.heap.size (.cells (jaz jes.V.words jes.B (jes.n:Int) 0).toArray 239)) (by kernel_rfl)).mp (Blk.new w _)
def joE(w:World)(g:Nat)(I:HSt)(xs:List ByteArray)(i:Value)(wr:World):Prop:=∃ k:Nat,k≤xs.length∧i=.int .i64 k∧jbe wr g (ja0 I (catB (xs.take k)).data.toList) ((UInt64.ofNat (catB (xs.take k)).data.toList.length).toNat:Int)∧jah (fun x=>x=g) w wr
theorem RdS.slice{w:World}{v:Value}{xs:List ByteArray}(h:RdS w v xs):∃ a c,v=.slice a xs.length c∧∀ (j:Nat) x,xs[j]?=some x→∃ b o,a=some ⟨b,o,none⟩∧w.cell? ⟨b,o+j,none⟩=some (.string x):=by
 rcases h with⟨a,c,rfl,rfl⟩ |⟨b,o,c,rfl,h2,h3,h4⟩
 ·exact⟨a,c,rfl,fun j x hx=>by simp at hx⟩
 ·exact⟨some ⟨b,o,none⟩,c,rfl,fun j x hx=>⟨b,o,rfl,h4 j x hx⟩⟩
theorem jjt(xs:List ByteArray)(k:Nat)(x:ByteArray)(hx:xs[k]?=some x):(catB (xs.take (k+1))).data.toList=(catB (xs.take k)).data.toList++x.data.toList:=by
 unfold catB;rw[List.take_add_one,hx];simp
theorem of_t(w:World)(v:Value)(xs:List ByteArray)(hlen:xs.length≤1000000)(hr:RdS w v xs)(hc:jbU w) :
  Calls Tryz.prog 82 #[v] w fun e w'=>e=.returned (.string (shaB (catB xs)))∧Ext w w':=by
 obtain⟨a,c,rfl,hcl⟩:=hr.slice
 have HCL:=Hd hcl;have HC:=Hd hc;clear hcl hc hr
 obtain⟨I,hI⟩:∃ I,I=jes:=⟨_,rfl⟩
 have hIo:I.Ok:=by rw[hI];exact jex
 have HIo:=Hd hIo;have HI:=Hd hI;clear hI hIo;go_enter Tryz.func82,Tryz.ntmps82;go_wp2_with fail
 refine (joY w).mono ?_;rintro e w1 ⟨rfl,hH1,hE1⟩
 obtain⟨g,hg⟩:∃ g,g=w.heap.size:=⟨_,rfl⟩
 rw[←hg]at hH1 ⊢;rw[←HI.o]at hH1;have HH1:=Hd hH1;have HE1:=Hd hE1;have h0g:0≠g:=by have:=HC.o.lt;omega
 have HG:=Hd hg;clear hH1 hE1 hg;go_wp2_with fail
 go_loopw [9] (fun i wr=>joE w1 g I xs i wr) (fun i _=>xs.length - (intOf i).toNat)
 case atStart=>exact⟨0,by omega,rfl,by simpa [catB,ja0]using HH1.o,jah.refl _ _⟩
 case round =>
  obtain⟨k,hk,rfl,hH,hK⟩:=hrel
  have HH:=Hd hH;have HK:=Hd hK;clear hH hK
  by_cases hlt:k < xs.length
  ·obtain⟨x,hx⟩:∃ x,xs[k]?=some x:=⟨_,List.getElem?_eq_getElem hlt⟩
   obtain⟨b,o,rfl,hcell⟩:=HCL.o k x hx
   have hbg:b≠g:=by
    have:b < w.heap.size:=World.block_lt_of_cell? w _ hcell
    have:=HG.o;omega
   have hcw:wr.cell? ⟨b,o+k,none⟩=some (.string x):=by
    have h1:=jab hcell HE1.o;have hlt1:b < w1.heap.size:=World.block_lt_of_cell? w1 _ h1;have e:=HK.o.block b hlt1 hbg;unfold World.cell? at *;rw[e];exact h1
   have hst:=jjt xs k x hx;have HST:=Hd hst;clear hst hcell hx;go_wp2_with fail
   refine (jkQ wr g _ (HIo.o.all _) _ x HH.o ((HC.o.ext HE1.o).keeps HK.o h0g) (Ne.symm h0g)).mono ?_;rintro e w2 ⟨rfl,hH2,hK2⟩;have HH2:=Hd hH2;have HK2:=Hd (HK.o.trans hK2);clear hH2 hK2 hcw;go_wp2_with fail
   refine⟨⟨k+1,by omega,by go_num,?_,HK2.o⟩,by simp[intOf];omega⟩
   have h:=HH2.o;rw[←jbA, ←HST.o]at h;rw[HST.o,List.length_append,UInt64.ofNat_add];rw[HST.o,Lib.size_eq]at h;exact h
  ·have hkn:k=xs.length:=by omega
   subst hkn;have hH:=HH.o;rw[List.take_length]at hH;have HH':=Hd hH;clear hH HH;have HXr:Hid (Ext w wr):=Hd (HE1.o.trans' HK.o (fun x hx e=>by have:=HG.o;omega));go_wp2_with fail
   refine (jo7 wr g _ (HIo.o.all _) _ HH'.o (HC.o.ext HXr.o)).mono ?_;rintro e w2 ⟨rfl,hE2⟩;have HX2:=Hd (HXr.o.trans hE2);clear hE2;go_wp2_with fail
   go_ret
   refine⟨?_,HX2.o⟩
   rw[HI.o];unfold shaB shaL;rfl
end
end Go.Proofs.YtcpnjmcipainpaaGreatDoor
