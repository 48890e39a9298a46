/- Lemmas; each is under no condition but those that it states. -/
import Derived.Test.YtegloohdmjadoaaGreatDoorPu16
namespace Go.Proofs.YtegloohdmjadoaaGreatDoor
set_option linter.unusedSimpArgs false
set_option linter.unusedVariables false
set_option maxRecDepth 100000
set_option maxHeartbeats 16000000
open Go Go.RowKit
def jef(xs:vL):List vV:=xs.flatMap fun p=>[.string p.1,.string p.2]
theorem jgU(xs:vL):(jef xs).length=xs.length * 2:=by
 induction xs with
 | nil=>rfl
 | cons x r ih=>unfold jef at *;rw[dI,bF,ih];simp;omega
theorem jbd(xs ys:vL):jef (xs++ys)=jef xs++jef ys:=by simp[jef]
theorem jfu:∀ (xs:vL) (j:Nat) (p:Pair),xs[j]?=some p->(jef xs)[j * 2]?=some (.string p.1)/\(jef xs)[j * 2+1]?=some (.string p.2)
 | [],j,p,h=>by simp at h
 | x :: r,0,p,h=>by simp at h;subst h;exact⟨rfl,rfl⟩
 | x :: r,j+1,p,h=>by
  have:=jfu r j p (by simpa using h)
  rw[show (j+1) * 2=j * 2+1+1 by omega];exact this
theorem Tryz.uRows:Tryz.prog.underlying 68=some (.slice 112):=vY
theorem Tryz.infoRow:(Tryz.prog.info? 112).map (fun i=>(i.zero,i.size,i.bytes))=some (some (.agg #[.string ⟨#[]⟩,.string ⟨#[]⟩]),2,32):=vY
theorem Tryz.sRows:jd3 Tryz.prog 68 112 2 32:=jd3.mk' Tryz.uRows Tryz.infoRow rfl vI
abbrev PRow(w0 w:vW)(v:vV)(n:Nat)(xs:vL):Prop:=ORow 112 2 w0 w v n (jef xs)
theorem PRow.rd{w0 w:vW}{v:vV}{n:Nat}{xs:vL}(h:PRow w0 w v n xs):RdP w v xs:=by
 have o:xs.length=n:=by have:=h.len;rw[jgU]at this;omega
 obtain⟨_,⟨rfl,O⟩ |⟨g,e,A,rfl,Q,E,H,X,Z⟩⟩:=h.own
 ·exact .inl ⟨none,0,rfl,bD vO⟩
 ·subst o
  refine .inr ⟨g,0,e,rfl,(dH.1 E).1,H,fun j x m=>?_⟩;have hj:=(bO.1 m).1
  obtain⟨J,K⟩:=jfu xs j x m
  exact⟨by rw[cF,h.own.cellAt (j * 2) vO,J],by rw[cF,h.own.cellAt (j * 2+1) vO,K]⟩
def jaM(l:vL):vL:=l.map fun p=>(jbf p.1,p.2)
def jwx(w:vW)(l:vL)(v i:vV)(wr:vW):Prop:=∃ k:Nat,k<=l.length/\i=.int .i64 k/\PRow w wr v k ((jaM l).take k)
theorem jxu{w:vW}{T:TypeId}{sz:Nat}{w0:vW}{v:vV}{n:Nat}{xs:List vV}(h:ORow T sz w0 w v n xs):¬ v.ownBlock=some w.heap.size:=fun e=>by have:=h.lt _ e;omega
theorem jwe(w:vW)(v:vV)(l:vL)(hv:RdP w v l)(hn:l.length<=1000000)(hs:∀ p∈l,p.1.size<=1000000):vQ 30 #[v] w fun e w'=>∃ u,e=.returned u/\PRow w w' u l.length (jaM l):=by
 obtain⟨a,c,a5⟩:=hv.sl
 have HV:=Hd hv;have HS:=Hd hs;subst a5;clear hv hs
 obtain⟨i0,hi,a6,a7,a8⟩:=info_parts Tryz.infoRow
 obtain⟨w1,b4,A,Q⟩:=run_make_own (P:=Tryz.prog) (w:=w) w.heap.size 68 112 i0 _ 2 Tryz.uRows hi a6 a7 .i64 .i64 l.length (by rw[a8];omega) (by unfold maxLen;omega) (bM _)
 have HO:=Hd A;have HG:=Hd Q;clear A Q;go_enter Tryz.func30,Tryz.ntmps30;go_wp2_with fail
 go_loopw [3,11] (fun v i wr=>jwx w l v i wr) (fun _ i _=>l.length - (intOf i).toNat)
 case atStart=>exact⟨0,cD _,rfl,ORow.made w HO.o HG.o⟩
 case round =>
  obtain⟨k,hk,rfl,hR⟩:=hrel
  obtain⟨a2,c2,rfl⟩:=hR.sl
  have J:=Hd hR;clear hR
  by_cases hlt:k < l.length
  ·rcases HV.o with⟨_,_,_,h0⟩ |⟨b,o,c',hh,hb,hc,hcell⟩
   ·rw[h0]at hlt;cases hlt
   cases hh
   obtain⟨p,hp⟩:∃ p,l[k]?=some p:=⟨_,bA hlt⟩
   obtain⟨q1,q2⟩:=hcell k p hp
   have q1:=jaa q1 J.o.ext;have q2:=jaa q2 J.o.ext;have E:=HS.o p (bE hp)
   obtain⟨x,y⟩:=p
   simp only at q1 q2 E;have b1:(k:Int) < (l.length:Int):=vO
   have X:(jaM l).take (k+1)=(jaM l).take k++[(jbf x,y)]:=by
    rw[bS];unfold jaM;rw[bV,hp];rfl
   have a9:=Hd X;have b0:=Hd E;have Q0:=Hd (show (wr.alloc (.cells #[.string x,.string y] 59)).cell? ⟨wr.heap.size,0,none⟩=some (.string x)from(Blk.new wr _).cell vF);have Q1:=Hd (show (wr.alloc (.cells #[.string x,.string y] 59)).cell? ⟨wr.heap.size,1,none⟩=some (.string y)from(Blk.new wr _).cell vF);have NB:=Hd (jxu J.o);clear hcell hp E X;go_wp2_with fail
   refine jaJ [0,1,2,3,4,5,6,7,8,9] [7,8] Ext (jae (fun b=>(Value.slice a2 k c2).ownBlock=some b)) ExtR ExtT (fun x y z h k=>jae.trans h k) (fun x y h=>h.mono (fun _ _ h=>h.elim)) vY vY vY ?_;iterate 2 refine vD ?_
   refine qDL ⟨wr.heap.size,0,none⟩ _ rfl (fun O h2=>jab Tryz.uStr rfl (jan (by exact Q0.o) h2 NB.o)) ?_;refine vS ?_;refine jiL _ 46 #[.string x] (.string (jbf x)) rfl vY rfl (fun w1=>jat (vX 46) vY) (fun w1 h1=>jjP w1 x b0.o) ?_;refine vS ?_
   refine vD ?_
   refine qDL ⟨wr.heap.size,1,none⟩ _ rfl (fun O h2=>jab Tryz.uStr rfl (jan (by exact Q1.o) h2 NB.o)) ?_;refine vS ?_
   refine vD ?_
   refine qDH _ rfl (fun O m K Z=>?_);have a0:=Hd (J.o.mono ((((ExtR wr).alloc _).trans (jai _)).trans m));clear m J;go_simp;refine Z _ _ ((jae.refl _ O).alloc _) ?_;clear Z K;refine qDH _ rfl (fun w3 m K Z=>?_);have a1:=Hd (a0.o.mono (((ExtR O).alloc _).trans m));have hB:∀ j u,([.string (jbf x),.string y]:List vV)[j]?=some u->w3.cell? ((⟨O.heap.size,0,none⟩:Addr).add j)=some u:=fun j u hj=>jaa (jaH (Blk.new O (.cells [Value.string (jbf x),.string y].toArray 112)) j u hj) m;refine jd1 Tryz.sRows a1.o (.tmp 15) (.tmp 22) rfl rfl hB (by intro u hu;simp at hu;rcases hu with rfl | rfl <;> rfl) rfl rfl (by unfold maxLen;omega) vO (fun v' w4 r1 r2 r3=>Z _ _ r2 ?_);have a3:PRow w w4 v' (k+1) ((jaM l).take (k+1)):=by
    unfold PRow;rw[a9.o,jbd];exact r1
   have H:=Hd a3;clear Z K m r1 r2 r3 a3 hB a0 a1
   obtain⟨a4,c4,rfl⟩:=H.o.sl
   refine vS ?_
   refine vD ?_
   refine qDE (fun w5 m=>?_);have b2:=Hd (H.o.mono m);clear m H;go_wp2_with fail
   go_roundw
   case rel=>exact⟨k+1,by omega,by go_num,b2.o⟩
   case measure=>exact vJ
  ·have b3:k=l.length:=vO
   subst b3;go_wp2;go_ret;have h:=J.o;rw[bQ (by simp[jaM])]at h
   exact⟨_,rfl,h⟩
def jak(d:Nat)(l:vL):vL:=l.map fun p=>(p.1.extract d p.1.size,p.2)
def jwl(w:vW)(d:Nat)(l:vL)(v i:vV)(wr:vW):Prop:=∃ k:Nat,k<=l.length/\i=.int .i64 k/\PRow w wr v k ((jak d l).take k)
theorem jmN(w:vW)(v:vV)(d:Nat)(l:vL)(hv:RdP w v l)(hn:l.length<=1000000)(hs:∀ p∈l,d<=p.1.size/\p.1.size<=1000000):vQ 59 #[v,.int .i64 d] w fun e w'=>∃ u,e=.returned u/\PRow w w' u l.length (jak d l):=by
 obtain⟨a,c,a5⟩:=hv.sl
 have HV:=Hd hv;have HS:=Hd hs;subst a5;clear hv hs
 obtain⟨i0,hi,a6,a7,a8⟩:=info_parts Tryz.infoRow
 obtain⟨w1,b4,A,O⟩:=run_make_own (P:=Tryz.prog) (w:=w) w.heap.size 68 112 i0 _ 2 Tryz.uRows hi a6 a7 .i64 .i64 l.length (by rw[a8];omega) (by unfold maxLen;omega) (bM _)
 have HO:=Hd A;have HG:=Hd O;clear A O;go_enter Tryz.func59,Tryz.ntmps59;go_wp2_with fail
 go_loopw [5,13] (fun v i wr=>jwl w d l v i wr) (fun _ i _=>l.length - (intOf i).toNat)
 case atStart=>exact⟨0,cD _,rfl,ORow.made w HO.o HG.o⟩
 case round =>
  obtain⟨k,hk,rfl,hR⟩:=hrel
  obtain⟨a2,c2,rfl⟩:=hR.sl
  have H:=Hd hR;clear hR
  by_cases hlt:k < l.length
  ·rcases HV.o with⟨_,_,_,h0⟩ |⟨b,o,c',hh,hb,hc,hcell⟩
   ·rw[h0]at hlt;cases hlt
   cases hh
   obtain⟨p,hp⟩:∃ p,l[k]?=some p:=⟨_,bA hlt⟩
   obtain⟨q1,q2⟩:=hcell k p hp
   have q1:=jaa q1 H.o.ext;have q2:=jaa q2 H.o.ext;have Q:=HS.o p (bE hp)
   obtain⟨x,y⟩:=p
   simp only at q1 q2 Q;have b1:(k:Int) < (l.length:Int):=vO
   have b2:(d:Int)<=(x.size:Int):=vO
   have X:(jak d l).take (k+1)=(jak d l).take k++[(x.extract d x.size,y)]:=by
    rw[bS];unfold jak;rw[bV,hp];rfl
   have a9:=Hd X;have Q0:=Hd (show (wr.alloc (.cells #[.string x,.string y] 112)).cell? ⟨wr.heap.size,0,none⟩=some (.string x)from(Blk.new wr _).cell vF);have Q1:=Hd (show (wr.alloc (.cells #[.string x,.string y] 112)).cell? ⟨wr.heap.size,1,none⟩=some (.string y)from(Blk.new wr _).cell vF);have NB:=Hd (jxu H.o);clear hcell hp Q X;go_wp2_with fail
   refine jaJ [0,1,2,3,4,5,6,7,8,9,10] [8,9] Ext (jae (fun b=>(Value.slice a2 k c2).ownBlock=some b)) ExtR ExtT (fun x y z h k=>jae.trans h k) (fun x y h=>h.mono (fun _ _ h=>h.elim)) vY vY vY ?_;iterate 2 refine vD ?_
   refine qDL ⟨wr.heap.size,0,none⟩ _ rfl (fun J h2=>jab Tryz.uStr rfl (jan (by exact Q0.o) h2 NB.o)) ?_;refine vS ?_;iterate 3 refine vD ?_
   refine qDL ⟨wr.heap.size,1,none⟩ _ rfl (fun J h2=>jab Tryz.uStr rfl (jan (by exact Q1.o) h2 NB.o)) ?_;refine vS ?_
   refine vD ?_
   refine qDH _ rfl (fun J m K Z=>?_);have a0:=Hd (H.o.mono ((((ExtR wr).alloc _).trans (jai _)).trans m));clear m H;go_simp;refine Z _ _ ((jae.refl _ J).alloc _) ?_;clear Z K;refine qDH _ rfl (fun w3 m K Z=>?_);have a1:=Hd (a0.o.mono (((ExtR J).alloc _).trans m));have hB:∀ j u,([.string (x.extract d x.size),.string y]:List vV)[j]?=some u->w3.cell? ((⟨J.heap.size,0,none⟩:Addr).add j)=some u:=fun j u hj=>jaa (jaH (Blk.new J (.cells [Value.string (x.extract d x.size),.string y].toArray 112)) j u hj) m;refine jd1 Tryz.sRows a1.o (.tmp 17) (.tmp 25) rfl rfl hB (by intro u hu;simp at hu;rcases hu with rfl | rfl <;> rfl) rfl rfl (by unfold maxLen;omega) vO (fun v' w4 r1 r2 r3=>Z _ _ r2 ?_);have a3:PRow w w4 v' (k+1) ((jak d l).take (k+1)):=by
    unfold PRow;rw[a9.o,jbd];exact r1
   have E:=Hd a3;clear Z K m r1 r2 r3 a3 hB a0 a1
   obtain⟨a4,c4,rfl⟩:=E.o.sl
   refine vS ?_
   refine vD ?_
   refine qDE (fun w5 m=>?_);have b0:=Hd (E.o.mono m);clear m E;go_wp2_with fail
   go_roundw
   case rel=>exact⟨k+1,by omega,by go_num,b0.o⟩
   case measure=>exact vJ
  ·have b3:k=l.length:=vO
   subst b3;go_wp2;go_ret;have h:=H.o;rw[bQ (by simp[jak])]at h
   exact⟨_,rfl,h⟩
def jeM(i:Nat)(p:Pair):Bool:=match p.1.data.toList with | []=>false | a :: _=>a.toNat == i
theorem jvc{x y:vB}(i:Nat)(h:0 < x.size):jeM i (x,y)=(x[0].toNat == i):=by
 obtain⟨⟨l⟩⟩:=x
 cases l with
 | nil=>exact absurd h (Nat.lt_irrefl 0)
 | cons a r=>rfl
theorem jt5(a b:Nat):((a:Int) ==(b:Int))=(a == b):=by
 by_cases h:a=b
 ·subst h;simp
 ·have e:¬(a:Int)=(b:Int):=vO
  rw[beq_eq_false_iff_ne.2 h,beq_eq_false_iff_ne.2 e]
theorem jzw(w:vW)(x y:vB)(gi i:Nat)(hs:x.size<=1000000)(hi:i < 256)(hc:w.cell? ⟨gi,0,none⟩=some (.int .i64 (i:Int))):vR 61 #[.agg #[.string x,.string y],.pointer (some ⟨gi,0,none⟩)] w (.bool (jeM i (x,y))):=by
 have K:=Hd (show (w.alloc (.cells #[.string x,.string y] 112)).cell? ⟨w.heap.size,0,none⟩=some (.string x)from(Blk.new w _).cell vF);have QI:=Hd (jaa hc ((ExtR w).alloc (.cells #[.string x,.string y] 112)));clear hc
 by_cases h0:x.size=0
 ·have:=jbj h0
  subst this;have E:Hid (jeM i (⟨#[]⟩,y)=false):=rfl;go_enter Tryz.func61,Tryz.ntmps61;go_wp2_with fail
  refine jah [0,1,2,3,4,5,6,7,8,9,10,11] Ext ExtR ExtT vY vY vY ?_
  refine vK ?_
  refine qKL ⟨w.heap.size,0,none⟩ _ rfl (fun O m=>jab Tryz.uStr rfl (jaa (by exact K.o) m)) ?_;refine vS ?_;iterate 2 refine vK ?_
  iterate 6 (refine qKS _ rfl ?_;refine vS ?_)
  iterate 2 refine vK ?_
  refine qKE (fun w3 H=>?_);have Q:=Hd ((((ExtR w).alloc (.cells #[.string ⟨#[]⟩,.string y] 112)).trans (jai _)).trans H);clear H;go_wp2_with fail
  go_ret
  exact⟨by rw[E.o];rfl,Q.o⟩
 ·have e:0 < x.size:=vO
  have a1:=jbe (s:=x) e;have c0:(0:Int) < (x.size:Int):=vO
  have c1:=x[0].toNat_lt;have E:=Hd (jvc (y:=y) i e);have J:((x[0].toNat:Int) ==(i:Int))=(x[0].toNat == i):=jt5 _ _;have X:=Hd J;clear J;go_enter Tryz.func61,Tryz.ntmps61;go_wp2_with fail
  refine jah [0,1,2,3,4,5,6,7,8,9,10,11] Ext ExtR ExtT vY vY vY ?_
  refine vK ?_
  refine qKL ⟨w.heap.size,0,none⟩ _ rfl (fun O m=>jab Tryz.uStr rfl (jaa (by exact K.o) m)) ?_;refine vS ?_;iterate 3 refine vK ?_
  refine qKL ⟨w.heap.size,0,none⟩ _ rfl (fun O m=>jab Tryz.uStr rfl (jaa (by exact K.o) m)) ?_;refine vS ?_;iterate 2 refine vK ?_
  refine qKL ⟨gi,0,none⟩ _ rfl (fun O m=>jab Tryz.uInt rfl (jaa (by exact QI.o) m)) ?_;refine vS ?_;iterate 3 refine vK ?_
  refine qKE (fun w3 H=>?_);have Z:=Hd ((((ExtR w).alloc (.cells #[.string x,.string y] 112)).trans (jai _)).trans H);clear H;rw[X.o, <-E.o]
  obtain⟨bb,A⟩:=vE (jeM i (x,y))
  rw[<-A];have a0:=Hd A;clear A;go_wp2_with fail
  go_ret
  exact⟨by rw[<-a0.o];rfl,Z.o⟩
def cutL(i:Nat)(l:vL):vL:=l.filter (jeM i)
theorem jui(i:Nat)(l:vL){k:Nat}{p:Pair}(h:l[k]?=some p):cutL i (l.take (k+1))=cutL i (l.take k)++(if jeM i p then [p]else []):=by
 unfold cutL;rw[bS,h,gS,Option.toList_some,fZ];simp
def jyi(w:vW)(i:Nat)(l:vL)(v j:vV)(wr:vW):Prop:=∃ k n:Nat,k<=l.length/\n<=k/\j=.int .i64 k/\PRow w wr v n (cutL i (l.take k))
theorem jyW(w:vW)(v:vV)(gi i:Nat)(l:vL)(hv:RdP w v l)(hn:l.length<=1000000)(hs:∀ p∈l,p.1.size<=1000000)(hi:i < 256)(hc:w.cell? ⟨gi,0,none⟩=some (.int .i64 (i:Int))):vQ 60 #[v,.func (.func 61) #[] #[.pointer (some ⟨gi,0,none⟩)]] w fun e w'=>∃ u n,e=.returned u/\PRow w w' u n (cutL i l):=by
 obtain⟨a,c,a0⟩:=hv.sl
 have HV:=Hd hv;have HS:=Hd hs;have HC:=Hd hc;subst a0;clear hv hs hc;go_enter Tryz.func60,Tryz.ntmps60;go_wp2_with fail
 go_loopw [5,10] (fun v j wr=>jyi w i l v j wr) (fun _ j _=>l.length - (intOf j).toNat)
 case atStart=>exact⟨0,0,cD _,cD _,rfl,ORow.nil _ _ (ExtR w)⟩
 case round =>
  obtain⟨k,n,hk,a4,rfl,hR⟩:=hrel
  obtain⟨a2,c2,rfl⟩:=hR.sl
  have J:=Hd hR;clear hR
  by_cases hlt:k < l.length
  ·rcases HV.o with⟨_,_,_,h0⟩ |⟨b,o,c',hh,hb,hc,hcell⟩
   ·rw[h0]at hlt;cases hlt
   cases hh
   obtain⟨p,Q⟩:∃ p,l[k]?=some p:=⟨_,bA hlt⟩
   obtain⟨X,Z⟩:=hcell k p Q
   have X:=jaa X J.o.ext;have Z:=jaa Z J.o.ext;have K:=HS.o p (bE Q);have O:=jui i l Q
   obtain⟨x,y⟩:=p
   simp only at X Z K;have b1:(k:Int) < (l.length:Int):=vO
   have m:=Hd O;clear hcell Q O;go_wp2_with fail
   refine vC (jzw _ x y gi i K hi (jaa HC.o (J.o.ext.trans ((ExtR wr).alloc _)))) fun w3 hE=>?_;have hX:=((ExtR wr).alloc (.cells #[.string x,.string y] 112)).trans hE;have A:=Hd (J.o.mono hX);have E:=(Blk.new wr (.cells #[.string x,.string y] 112)).keeps hE (fun h=>h);have p0:=E.cell (i:=0) (v:=.string x) vF;have p1:=E.cell (i:=1) (v:=.string y) vF;clear hX hE E X Z J;cases hpk:jeM i (x,y)with
   | true =>
    rw[hpk,if_pos rfl]at m;go_wp2_with (at_builtin;refine jaS Tryz.sRows (A.o.mono ((ExtR w3).alloc _)) (.tmp 17) (.tmp 19) rfl rfl rfl (jaH (Blk.new w3 _)) (news:=[.string x,.string y]) (by intro u hu;simp at hu;rcases hu with rfl | rfl <;> rfl) rfl rfl ?c1 ?c2 (fun v' w' r1 r2 r3=>?_))
    case c1=>unfold maxLen;omega
    case c2=>omega
    have H:PRow w w' v' (n+1) (cutL i (l.take (k+1))):=by unfold PRow;rw[m.o,jbd];exact r1
    obtain⟨a5,c5,rfl⟩:=H.sl
    have a1:=Hd H;clear r1 r2 r3 H A;go_wp2_with fail
    go_roundw
    case rel=>exact⟨k+1,n+1,by omega,by omega,by go_num,a1.o⟩
    case measure=>exact vJ
   | false =>
    rw[hpk,if_neg (by simp),cC]at m;go_wp2_with fail
    go_roundw
    case rel=>exact⟨k+1,n,by omega,by omega,by go_num,by rw[m.o];exact A.o⟩
    case measure=>exact vJ
  ·have a3:k=l.length:=vO
   subst a3;go_wp2;go_ret;have h:=J.o;rw[cE]at h
   exact⟨_,_,rfl,h⟩
theorem jck{P:Program}{t e ty:TypeId}{i:TypeInfo}(ht:P.underlying t=some (.slice e))(hi:P.info? e=some i)(base:Option Addr)(n c:Nat)(hle:n<=c)(c2:Nat)(w:vW) :
  (Builtin.append_ #[t,t] ty #[.slice base n c,.slice none 0 c2]).run P w=.ok (.slice base n c) w:=by
 have m:(sizeOf e).run P w=.ok i.size w:=by simp[sizeOf,typeInfo,hi]
 have o:∀ w,(Builtin.lenOf (.slice none 0 c2)).run P w=.ok 0 w:=fun w=>rfl;cases base <;> simp[Builtin.append_,cA,Result.andThen,run_underlying ht,m,o,cR,Builtin.firstCells,hle,storeCells]
inductive PT where
 | mk (text:vB) (below:List PT)
def PT.text:PT->vB | .mk t _=>t
def PT.kids:PT->List PT | .mk _ ks=>ks
def ptrV(b:Nat):vV:=.pointer (some ⟨b,0,none⟩)
def RdQ(A:Nat->Prop)(W:vW)(v:vV)(bs:List Nat):Prop:=
 (v=.slice none 0 0/\bs=[])\/∃ g c,v=.slice (some ⟨g,0,none⟩) bs.length c/\bs≠[]/\A g/\g < W.heap.size/\bs.length<=c/\∀ (j:Nat) b,bs[j]?=some b->W.cell? ⟨g,j,none⟩=some (ptrV b)
mutual
def jbK(A:Nat->Prop):PT->Nat->vW->Prop
 | .mk t ks,b,W=>A b/\∃ v bs,Blk W b (.cells #[.string t,v] 106)/\RdQ A W v bs/\jaW A ks bs W
def jaW(A:Nat->Prop):List PT->List Nat->vW->Prop
 | [],bs,_=>bs=[]
 | k :: ks,bs,W=>∃ b r,bs=b :: r/\jbK A k b W/\jaW A ks r W
end
theorem RdQ.keeps{A:Nat->Prop}{F:BSet}{W W':vW}{v:vV}{bs:List Nat}(h:RdQ A W v bs)(k:jae F W W')(hF:∀ x,A x->¬ F x):RdQ A W' v bs:=by
 rcases h with h |⟨g,c,h1,h2,h3,h4,h5,h6⟩
 ·exact .inl h
 ·exact .inr ⟨g,c,h1,h2,h3,bJ h4 k.size,h5,fun j b hb=>jan (h6 j b hb) k (hF g h3)⟩
theorem RdQ.mono{A A':Nat->Prop}{W:vW}{v:vV}{bs:List Nat}(h:RdQ A W v bs)(hA:∀ x,A x->x < W.heap.size->A' x):RdQ A' W v bs:=by
 rcases h with h |⟨g,c,h1,h2,h3,h4,h5,h6⟩
 ·exact .inl h
 ·exact .inr ⟨g,c,h1,h2,hA g h3 h4,h4,h5,h6⟩
mutual
theorem jbK.keeps{A:Nat->Prop}{F:BSet}{W W':vW}(k:jae F W W')(hF:∀ x,A x->¬ F x):∀ (T:PT) (b:Nat),jbK A T b W->jbK A T b W'
 | .mk t ks,b,h=>by
  unfold jbK at *
  obtain⟨e,v,m,o,E,H⟩:=h
  exact⟨e,v,m,o.keeps k (hF b e),E.keeps k hF,jaW.keeps k hF ks m H⟩
theorem jaW.keeps{A:Nat->Prop}{F:BSet}{W W':vW}(k:jae F W W')(hF:∀ x,A x->¬ F x):∀ (ks:List PT) (bs:List Nat),jaW A ks bs W->jaW A ks bs W'
 | [],bs,h=>by unfold jaW at *;exact h
 | x :: ks,bs,h=>by
  unfold jaW at *
  obtain⟨b,r,e,m,o⟩:=h
  exact⟨b,r,e,jbK.keeps k hF x b m,jaW.keeps k hF ks r o⟩
end
mutual
theorem jbK.mono{A A':Nat->Prop}{W:vW}(hA:∀ x,A x->x < W.heap.size->A' x):∀ (T:PT) (b:Nat),jbK A T b W->jbK A' T b W
 | .mk t ks,b,h=>by
  unfold jbK at *
  obtain⟨o,v,e,m,E,H⟩:=h
  exact⟨hA b o m.lt,v,e,m,E.mono hA,jaW.mono hA ks e H⟩
theorem jaW.mono{A A':Nat->Prop}{W:vW}(hA:∀ x,A x->x < W.heap.size->A' x):∀ (ks:List PT) (bs:List Nat),jaW A ks bs W->jaW A' ks bs W
 | [],bs,h=>by unfold jaW at *;exact h
 | x :: ks,bs,h=>by
  unfold jaW at *
  obtain⟨b,r,e,m,o⟩:=h
  exact⟨b,r,e,jbK.mono hA x b m,jaW.mono hA ks r o⟩
end
theorem jaW.append{A:Nat->Prop}{W:vW}:∀ (ks:List PT) (bs:List Nat) (ks':List PT) (bs':List Nat),jaW A ks bs W->jaW A ks' bs' W->jaW A (ks++ks') (bs++bs') W
 | [],bs,ks',bs',h,h'=>by unfold jaW at h;subst h;exact h'
 | x :: ks,bs,ks',bs',h,h'=>by
  unfold jaW at h
  obtain⟨b,r,rfl,e,m⟩:=h
  show jaW A (x ::(ks++ks')) (b ::(r++bs')) W;unfold jaW
  exact⟨b,r++bs',rfl,e,jaW.append ks r ks' bs' m h'⟩
theorem Tryz.uParts:Tryz.prog.underlying 104=some (.slice 66):=vY
theorem Tryz.infoPtr:(Tryz.prog.info? 66).map (fun i=>(i.zero,i.size,i.bytes))=some (some (.pointer none),1,8):=vY
theorem Tryz.sParts:jd3 Tryz.prog 104 66 1 8:=jd3.mk' Tryz.uParts Tryz.infoPtr rfl vI
abbrev QRow(w0 w:vW)(v:vV)(bs:List Nat):Prop:=ORow 66 1 w0 w v bs.length (bs.map ptrV)
structure jdG(w0 W:World)(b m:Nat)(t:vB)(ks:List PT)(u:Value)(bs:List Nat):Prop where
 blk:Blk W b (.cells #[.string t,u] 106)
 new:w0.heap.size<=b
 row:QRow w0 W u bs
 nil:bs=[]->u=.slice none 0 0
 nb:¬ u.ownBlock=some b
 bm:m≠b
 mb:¬ u.ownBlock=some m
 mn:w0.heap.size<=m
 ml:m < W.heap.size
 ks:jaW (fun x=>w0.heap.size<=x/\x≠b/\x≠m/\¬ u.ownBlock=some x) ks bs W
theorem jdG.ext{w0 W W':vW}{b m:Nat}{t:vB}{ks:List PT}{u:vV}{bs:List Nat}(h:jdG w0 W b m t ks u bs)(e:Ext W W'):jdG w0 W' b m t ks u bs:=
 ⟨h.blk.keeps e (fun h=>h),h.new,h.row.mono e,h.nil,h.nb,h.bm,h.mb,h.mn,bJ h.ml e.size,jaW.keeps e (fun _ _ h=>h) _ _ h.ks⟩
theorem jdG.other{w0 W W':vW}{b m:Nat}{t:vB}{ks:List PT}{u:vV}{bs:List Nat}(h:jdG w0 W b m t ks u bs)(e:jae (fun x=>x=m) W W'):jdG w0 W' b m t ks u bs:=
 ⟨h.blk.keeps e (fun e=>h.bm e.symm),h.new,h.row.keeps e (fun x o e=>h.mb (by have e:x=m:=e;rw[<-e];exact o)) (fun x o e=>by have e:x=m:=e;have:=h.mn;omega),h.nil,h.nb,h.bm,h.mb,h.mn,bJ h.ml e.size,
  jaW.keeps e (fun x o e=>o.2.2.1 e) _ _ h.ks⟩
theorem jdG.setText{w0 W:vW}{b m:Nat}{t:vB}{ks:List PT}{u:vV}{bs:List Nat}(h:jdG w0 W b m t ks u bs)(t':vB):jdG w0 (W.setCell ⟨b,0,none⟩ (.string t')) b m t' ks u bs:=
 have K:=jae.oneSet W ⟨b,0,none⟩ (.string t')
 ⟨h.blk.set_same (i:=0) (.string t'),h.new,h.row.keeps K (fun x o e=>h.nb (by have e:x=b:=e;rw[<-e];exact o)) (fun x o e=>by have e:x=b:=e;have:=h.new;omega),h.nil,h.nb,h.bm,h.mb,h.mn,bJ h.ml K.size,jaW.keeps K (fun x o e=>o.2.1 e) _ _ h.ks⟩
theorem jdG.part{w0 W:vW}{b m:Nat}{t:vB}{ks:List PT}{u:vV}{bs:List Nat}(h:jdG w0 W b m t ks u bs):jbK (fun x=>w0.heap.size<=x) (.mk t ks) b W:=by
 unfold jbK
 refine⟨h.new,u,bs,h.blk,?_,jaW.mono (fun x o _=>o.1) _ _ h.ks⟩
 by_cases h0:bs=[]
 ·exact .inl ⟨h.nil h0,h0⟩
 ·obtain⟨_,⟨rfl,J⟩ |⟨g,e,A,rfl,K,E,H,O,Q⟩⟩:=h.row.own
  ·exact absurd (bD vO) h0
  ·refine .inr ⟨g,e,rfl,h0,h.row.new g rfl,(dH.1 E).1,H,fun j b hb=>?_⟩
   have X:=(bO.1 hb).1;rw[h.row.own.cellAt j vO,bV,hb];rfl
def jbo(T:PT):List PT:=if T.text.size < 32 then []else [T]
structure jwp(T:PT):Prop where
 size:T.text.size<=100000
 small:T.text.size < 32->T.kids=[]
 nohash:T.text.size < 32->∃ q,cutN T.text=some q/\jgl T.text q=none
theorem juJ(W:vW)(b:Nat)(a:Option Addr)(c:Nat):vQ 58 #[ptrV b,.slice a 0 c] W fun e w'=>e=.returned (.string ⟨#[]⟩)/\w'=W:=by
 unfold ptrV;go_enter Tryz.func58,Tryz.ntmps58;go_wp2_with fail
 go_ret
 exact⟨rfl,rfl⟩
theorem jdK{P:Program}{a:Act}{w w':vW}{v:vV}{d:Option Tmp}{args:Array Operand}{ats:Array TypeId}{ty:TypeId}{pos:String}{af:Array Edge}{g:Option (Nat × Bool)}{vs:Array vV}(h:(Builtin.append_ ats ty vs).run P w=.ok v w')(hv:args.map a.eval=vs) :
  (execOp a.eval ⟨d,.call { callee:=.builtin .append,args:=args,argTypes:=ats },ty,pos,af,g⟩).run P w=.ok (.value v) w':=by
 subst hv;simp[execOp,resolve,invoke,Go.builtin,Act.eval,cA,Result.andThen,cR,h]
theorem jdG.add{w0 W w1 w2:vW}{b m:Nat}{t:vB}{ks:List PT}{u u':vV}{bs:List Nat}{k:Nat}{T:PT}(h:jdG w0 W b m t ks u bs)(hk:jbK (fun x=>w1.heap.size<=x) T k W)(h1:b < w1.heap.size)(h1m:m < w1.heap.size)(h2:∀ x,u.ownBlock=some x->x < w1.heap.size)(h3:w0.heap.size<=w1.heap.size)
  (r1:QRow w0 w2 u' (bs++[k])) (r2:jae (fun x=>u.ownBlock=some x) W w2) (r3:u'.ownBlock=u.ownBlock\/∀ x,u'.ownBlock=some x->W.heap.size<=x) :
  jdG w0 (w2.setCell ⟨b,1,none⟩ u') b m t (ks++[T]) u' (bs++[k]):=by
 have K:jae (fun x=>x=b\/u.ownBlock=some x) W (w2.setCell ⟨b,1,none⟩ u'):=(r2.mono (fun x _ o=>.inr o)).setCell (.inl (.inl rfl)) _;have A:=h.blk.lt;have H:¬ u'.ownBlock=some b:=fun e=>by
  rcases r3 with r3 | r3
  ·exact h.nb (r3 ▸ e)
  ·have:=r3 b e;omega
 have E:∀ x,x < W.heap.size->¬ u.ownBlock=some x->¬ u'.ownBlock=some x:=fun x o O e=>by
  rcases r3 with r3 | r3
  ·exact O (r3 ▸ e)
  ·have:=r3 x e;omega
 refine⟨?_,h.new,r1.keeps (jae.oneSet w2 ⟨b,1,none⟩ u') (fun x o e=>H (by have e:x=b:=e;rw[<-e];exact o)) (fun x o e=>by have e:x=b:=e;have:=h.new;omega),fun e=>absurd e (by simp),H,h.bm,E m h.ml h.mb,h.mn,bJ h.ml K.size,?_⟩
 ·have:=(h.blk.keeps r2 h.nb).set_same (i:=1) u'
  exact this
 ·refine jaW.append _ _ _ _ ?_ ?_
  ·refine jaW.keeps K (fun x o e=>?_) _ _ (jaW.mono (A':=fun x=>w0.heap.size<=x/\x≠b/\¬ u.ownBlock=some x/\x≠m/\¬ u'.ownBlock=some x) (fun x o A=>⟨o.1,o.2.1,o.2.2.2,o.2.2.1,E x A o.2.2.2⟩) _ _ h.ks) |> jaW.mono (fun x o _=>⟨o.1,o.2.1,o.2.2.2.1,o.2.2.2.2⟩) _ _
   rcases e with e | e
   ·exact o.2.1 e
   ·exact o.2.2.1 e
  ·unfold jaW
   refine⟨k,[],rfl,?_,by unfold jaW;rfl⟩
   have J:jbK (fun x=>w0.heap.size<=x/\x≠b/\¬ u.ownBlock=some x/\x≠m/\¬ u'.ownBlock=some x) T k W:=jbK.mono (fun x o A=>⟨by omega,by omega,fun e=>by have:=h2 x e;omega,by omega,E x A (fun e=>by have:=h2 x e;omega)⟩) _ _ hk;refine jbK.mono (fun x o _=>⟨o.1,o.2.1,o.2.2.2.1,o.2.2.2.2⟩) _ _ (jbK.keeps K (fun x o e=>?_) _ _ J);rcases e with e | e
   ·exact o.2.1 e
   ·exact o.2.2.1 e
theorem jdG.same{w0 W:vW}{b m:Nat}{t:vB}{ks:List PT}{u:vV}{bs:List Nat}(h:jdG w0 W b m t ks u bs):jdG w0 (W.setCell ⟨b,1,none⟩ u) b m t ks u bs:=
 have K:=jae.oneSet W ⟨b,1,none⟩ u
 ⟨h.blk.set_same (i:=1) u,h.new,h.row.keeps K (fun x o e=>h.nb (by have e:x=b:=e;rw[<-e];exact o)) (fun x o e=>by have e:x=b:=e;have:=h.new;omega),h.nil,h.nb,h.bm,h.mb,h.mn,bJ h.ml K.size,jaW.keeps K (fun x o e=>o.2.1 e) _ _ h.ks⟩
theorem jbK.open{A:Nat->Prop}{T:PT}{b:Nat}{W:vW}(h:jbK A T b W):A b/\∃ v bs,Blk W b (.cells #[.string T.text,v] 106)/\RdQ A W v bs/\jaW A T.kids bs W:=by
 cases T with
 | mk t ks=>unfold jbK at h;exact h
theorem RdQ.sl{A:Nat->Prop}{W:vW}{v:vV}{bs:List Nat}(h:RdQ A W v bs):∃ a c,v=.slice a bs.length c:=by
 rcases h with⟨h1,h2⟩ |⟨g,c,h1,_⟩
 ·exact⟨none,0,by rw[h1,h2];rfl⟩
 ·exact⟨_,c,h1⟩
theorem jv7{w0 W:vW}(hc:jbW W){b m:Nat}{t:vB}{ks:List PT}{u:vV}{bs:List Nat}(h:jdG w0 W b m t ks u bs)(hbs:bs.length<=100)(v:vV)(l:vL)(hv:RdP W v l)(hl:l≠[])(hln:l.length<=1000000)(T:PT)(hT:jwp T)
  (hb:vQ 29 #[v] W fun e w'=>∃ k,e=.returned (ptrV k)/\jbK (fun x=>W.heap.size<=x) T k w'/\Ext W w') :
  vQ 58 #[ptrV b,v] W fun e w'=>∃ u' bs',e=.returned (.string (refB T.text))/\jdG w0 w' b m t (ks++jbo T) u' bs'/\bs'.length<=bs.length+1/\Ext w0 w'/\jae (fun x=>x=b\/u.ownBlock=some x) W w':=by
 obtain⟨av,cv,rfl⟩:=hv.sl
 have c2:l.length≠0:=fun e=>hl (bD e);have c0:((l.length:Int) == 0)=false:=by simp;exact hl
 have c1:¬(l.length:Int)=0:=vO
 have HB:=Hd hb;have H:=Hd h;have HC:=Hd hc;have HT:=Hd hT
 obtain⟨s,hs⟩:=vE T.text
 have b2:refB T.text=refB s:=by rw[hs]
 rw[b2];have HS:=Hd hs;clear hb h hc hT hv hl c2 hs b2;unfold ptrV;go_enter Tryz.func58,Tryz.ntmps58;go_wp2_with fail
 refine HB.o.mono ?_;rintro e w1 ⟨k,rfl,hk,E⟩;have HK:=Hd hk
 obtain⟨e0,vk,bk,a4,b3,b4⟩:=hk.open
 have q0:w1.cell? ⟨k,0,none⟩=some (.string s):=by rw[HS.o];exact a4.cell vF
 have H1:=Hd (H.o.ext E);have HE:=Hd E;have c3:=Hd (HC.o.ext E);have c4:=Hd a4;have c6:=Hd b3;have c7:=Hd b4;clear E hk a4 b3 b4;unfold ptrV;go_wp2_with fail
 refine vC (jxB w1 s c3.o) fun w2 E=>?_;have b5:=Hd E;have H2:=Hd (H1.o.ext E)
 by_cases hsm:s.size < 32
 ·have X:T.text.size < 32:=by rw[<-HS.o];exact hsm
  obtain⟨q,J,O⟩:=HT.o.nohash X
  rw[<-HS.o]at J O;have hr:refB s=s:=by unfold refB;rw[if_pos hsm]
  rw[hr];have a2:=HT.o.small X;have a3:=c7.o;rw[a2]at a3;unfold jaW at a3;have a6:=c6.o;rw[a3]at a6;have b6:vk=.slice none 0 0:=by
   rcases a6 with⟨h1,_⟩ |⟨g,c,_,h2,_⟩
   ·exact h1
   ·exact absurd rfl h2
  have A:ks++jbo T=ks:=by unfold jbo;rw[if_pos X,cC]
  have Q:=Hd A;have a0:=Hd hr;have a7:=Hd J;have a8:=Hd O;have a1:=c4.o.keeps E (fun h=>h);rw[b6]at a1;have QK:=Hd (a1.cell (i:=1) (v:=.slice none 0 0) vF);clear E J O hr a2 a3 a6 b6 a1 A;go_wp2_with fail
  refine vC (jei w2 s q vO a7.o) fun w3 E=>?_;rw[a8.o];have H3:=Hd (H2.o.ext E);have c8:=Hd (jaa QK.o E);have a9:=Hd ((HE.o.trans b5.o).trans E);clear E
  obtain⟨au,Z,hu⟩:=H3.o.row.sl
  subst hu;unfold optV;simp only;go_wp2_with fail
  have c9:bs.length<=Z:=by
   obtain⟨_,⟨hx,h2⟩ |⟨g,e2,e3,hx,h3,h4,h5,h6,h7⟩⟩:=H3.o.row.own
   ·have:=cT hx;omega
   ·have:=cT hx;omega
  refine jay [0,1,2,3,4,5,6,7,8,9,10,11,12] [12] Ext ExtR ExtT vY vY vY ?_;iterate 2 refine vP ?_
  refine qA _ (.pointer (some ⟨b,0,none⟩)) rfl (fun w1=>by kernel_rfl) ?_;refine vS ?_
  refine vP ?_
  refine qL ⟨b,1,none⟩ _ rfl (fun w1 h1=>jab Tryz.uParts rfl (jaa (by exact H3.o.blk.cell (i:=1) (v:=.slice au bs.length Z) vF) h1)) ?_;refine vS ?_
  refine vP ?_
  refine qA _ (.pointer (some ⟨k,0,none⟩)) rfl (fun w1=>by kernel_rfl) ?_;refine vS ?_
  refine vP ?_
  refine qL ⟨k,1,none⟩ _ rfl (fun w1 h1=>jab Tryz.uParts rfl (jaa (by exact c8.o) h1)) ?_;refine vS ?_
  obtain⟨i0,z0,d0,_⟩:=Tryz.sParts.hi
  refine qA _ (.slice au bs.length Z) rfl (fun w1=>jdK (jck Tryz.uParts d0 au bs.length Z c9 0 w1) vY) ?_;refine vS ?_;refine qA _ (.pointer (some ⟨b,0,none⟩)) rfl (fun w1=>by kernel_rfl) ?_;refine vS ?_
  refine vP ?_
  refine qH _ rfl (fun w4 he K hK=>?_);have h4:=H3.o.ext ((jai w3).trans he);have q1:w4.cell? ⟨b,1,none⟩=some (.slice au bs.length Z):=h4.blk.cell (i:=1) vF;have f1:w4.frozen? ⟨b,1,none⟩=false:=h4.blk.frozen;have H4:=Hd h4;have d1:=Hd (a9.o.trans ((jai w3).trans he));clear he h4;go_simp;refine hK _ _ ?_;clear hK K q1 f1;have H5:=Hd H4.o.same;refine qE (fun w5 he=>?_);have H6:=Hd (H5.o.ext he);have d2:=Hd ((((d1.o.mono (G:=fun x=>x=b\/(Value.slice au bs.length Z).ownBlock=some x) (fun _ _ h=>h.elim)).setCell (p:=⟨b,1,none⟩) (.inl (.inl rfl)) (.slice au bs.length Z)).trans (he.mono (fun _ _ h=>h.elim))));clear he H5 H4;go_wp2_with fail
  go_ret
  exact⟨_,bs,by rw[a0.o];rfl,by rw[Q.o];exact H6.o,by omega,H6.o.row.ext,d2.o⟩
 ·have X:¬ T.text.size < 32:=by rw[<-HS.o];exact hsm
  obtain⟨r,hr⟩:=vE (refB s)
  have b0:r=jap (shaB s):=by rw[hr];unfold refB;rw[if_neg hsm]
  obtain⟨q,J,O⟩:=jej (shaB s) (jbA s)
  rw[<-b0]at J O;have d3:r.size<=1000000000:=by have:=jaQ (shaB s);have:=jbA s;rw[b0];omega
  have A:ks++jbo T=ks++[T]:=by unfold jbo;rw[if_neg X]
  rw[<-hr];have Q:=Hd A;have a0:=Hd hr;have a7:=Hd J;have a8:=Hd O;have d4:=Hd (jbK.keeps E (fun _ _ h=>h) _ _ HK.o);clear E J O hr b0 A X;go_wp2_with fail
  refine vC (jei w2 r q d3 a7.o) fun w3 E=>?_;rw[a8.o];have h3:=H2.o.ext E;have b1:=Hd (jbK.keeps E (fun _ _ h=>h) _ _ d4.o);have b7:=(HE.o.trans b5.o).trans E
  obtain⟨au,Z,hu⟩:=h3.row.sl
  subst hu;have q1:w3.cell? ⟨b,1,none⟩=some (.slice au bs.length Z):=h3.blk.cell (i:=1) vF;have H3:=Hd h3;have d5:=H.o.blk.lt;have b8:=H.o.row.lt;have d6:=Hd b8;have d7:=H.o.row.ext.size;have a9:=Hd b7;clear E h3 b7 b8;unfold optV;simp only;go_wp2_with (at_builtin;refine jaS Tryz.sParts (H3.o.row.mono ((ExtR w3).alloc _)) (.tmp 29) (.tmp 31) rfl rfl rfl (jaH (Blk.new w3 _)) (news:=[ptrV k]) (by intro u hu;simp at hu;rw[hu];rfl) rfl rfl (by unfold maxLen;omega) vO (fun v' w4 r1 r2 r3=>?_);obtain⟨a5,c5,d8⟩:=r1.sl;subst d8;have b9:=(H3.o.blk.alloc _).keeps r2 H3.o.nb;have qb:w4.cell? ⟨b,1,none⟩=some (.slice au bs.length Z):=b9.cell (i:=1) vF;have fb:w4.frozen? ⟨b,1,none⟩=false:=b9.frozen)
  have e1:QRow w0 w4 (.slice a5 (bs.length+1) c5) (bs++[k]):=by
   unfold QRow;rw[bF,bZ];exact r1
  have h5:=jdG.add (w1:=W) (H3.o.ext ((ExtR w3).alloc _)) (jbK.keeps ((ExtR w3).alloc _) (fun _ _ h=>h) _ _ b1.o) d5 H.o.ml d6.o d7 e1 r2 r3;have d9:jae (fun x=>x=b\/(Value.slice au bs.length Z).ownBlock=some x) W (w4.setCell ⟨b,1,none⟩ (.slice a5 (bs.length+1) c5)):=
   ((((a9.o.alloc _).mono (G:=fun x=>x=b\/(Value.slice au bs.length Z).ownBlock=some x) (fun _ _ h=>h.elim)).trans (r2.mono (fun _ _ h=>.inr h)))).setCell (.inl (.inl rfl)) _
  go_ret
  exact⟨_,bs++[k],by rw[<-a0.o];rfl,by rw[Q.o];exact h5,by simp,h5.row.ext,d9⟩
abbrev Lt(a b:vN):Prop:=Op.bytesLess a b=true
theorem jbw{a b:vU}{x y:vN}:Lt (a :: x) (b :: y)↔a < b\/(a=b/\Lt x y):=by
 unfold Lt;rw[Op.bytesLess];simp
theorem not_lt_nil(a:vN):¬ Lt a []:=by
 unfold Lt;cases a <;> simp[Op.bytesLess]
theorem joM{b:vU}{y:vN}:Lt [] (b :: y):=rfl
theorem lt_irrefl:∀ a:vN,¬ Lt a a
 | [],h=>not_lt_nil _ h
 | a :: x,h=>by
  rcases jbw.1 h with h | h
  ·exact iF a h
  ·exact lt_irrefl x h.2
theorem jbg:∀ (a b:vN),a.take (ja0 a b)=b.take (ja0 a b)/\ja0 a b<=a.length/\ja0 a b<=b.length
 | [],b=>by simp[ja0]
 | x :: r,[]=>by simp[ja0]
 | x :: r,y :: t=>by
  unfold ja0;split
  ·rename_i h
   obtain⟨e,m,o⟩:=jbg r t
   subst h;simp only[dU,bP,e]
   exact⟨trivial,by omega,by omega⟩
  ·simp
theorem jib(a b:vN):ja0 (a.drop (ja0 a b)) (b.drop (ja0 a b))=0:=by
 obtain⟨e,m,o⟩:=jbg a b
 have:=jdJ a b (ja0 a b) e m o
 omega
theorem jq9:∀ (k:Nat) (a m b:vN),Lt a m->Lt m b->a.take k=b.take k->k<=a.length->k<=b.length->m.take k=a.take k/\k<=m.length
 | 0,a,m,b,_,_,_,_,_=>by simp
 | k+1,[],m,b,_,_,_,h,_=>by simp at h
 | k+1,x :: a,m,[],_,_,_,_,h=>by simp at h
 | k+1,x :: a,[],y :: b,h,_,_,_,_=>absurd h (not_lt_nil _)
 | k+1,x :: a,z :: m,y :: b,h1,h2,e,h4,h5=>by
  simp only[dU,List.cons.injEq]at e
  obtain⟨rfl,e⟩:=e
  have o:x=z:=by
   rcases jbw.1 h1 with h | h
   ·rcases jbw.1 h2 with h' | h'
    ·exact absurd (UInt8.lt_trans h h') (iF x)
    ·rw[h'.1]at h;exact absurd h (iF x)
   ·exact h.1
  subst o;have A:Lt a m:=by
   rcases jbw.1 h1 with h | h
   ·exact absurd h (iF x)
   ·exact h.2
  have E:Lt m b:=by
   rcases jbw.1 h2 with h | h
   ·exact absurd h (iF x)
   ·exact h.2
  obtain⟨H,J⟩:=jq9 k a m b A E e (by simpa using h4) (by simpa using h5)
  simp only[dU,H,bP]
  exact⟨trivial,by omega⟩
theorem jsc:∀ (k:Nat) (a b:vN),Lt a b->a.take k=b.take k->k<=a.length->k<=b.length->Lt (a.drop k) (b.drop k)
 | 0,a,b,h,_,_,_=>h
 | k+1,[],b,_,_,h,_=>by simp at h
 | k+1,x :: a,[],h,_,_,_=>absurd h (not_lt_nil _)
 | k+1,x :: a,y :: b,h,h1,h2,h3=>by
  simp only[dU,List.cons.injEq]at h1;rcases jbw.1 h with h | h
  ·rw[h1.1]at h;exact absurd h (iF y)
  ·exact jsc k a b h.2 h1.2 (by simpa using h2) (by simpa using h3)
abbrev Pair.l(p:Pair):vN:=p.1.data.toList
structure jax(f:Nat)(l:vL):Prop where
 size:∀ p∈l,p.1.size<=f/\p.1.size<=12/\jaz p.1=true/\0 < p.2.size/\p.2.size<=80
 rise:l.Pairwise fun p q=>Lt p.l q.l
theorem jcP(b:vB)(k n:Nat)(h:b.size<=n):(b.extract k n).data.toList=b.data.toList.drop k:=by
 rw[cX,fF,dQ,bQ];rw[fY];have:b.data.toList.length=b.size:=rfl;omega
theorem jaX(b:vB)(k:Nat):(b.extract k b.size).size=b.size - k:=by rw[cH];omega
theorem jbi{b:vB}(h:jaz b=true)(k n:Nat):jaz (b.extract k n)=true:=by
 unfold jaz at *;rw[fG]at *;intro x e;refine h x ?_;rw[cX,fF,dQ]at e;exact List.mem_of_mem_drop (gC e)
def pd:Pair:=(⟨#[]⟩,⟨#[]⟩)
def comK(l:vL):Nat:=jal (l.getD 0 pd).1 (l.getD (l.length - 1) pd).1
theorem jb9{l:vL}{R:Pair->Pair->Prop}(h:l.Pairwise R){i j:Nat}{p q:Pair}(hij:i < j)(hi:l[i]?=some p)(hj:l[j]?=some q):R p q:=by
 obtain⟨e,rfl⟩:=bO.1 hi
 obtain⟨m,rfl⟩:=bO.1 hj
 exact gP.1 h i j e m hij
theorem jbk{f:Nat}{l:vL}(h:jax f l)(h2:2<=l.length):∀ p∈l,p.l.take (comK l)=(l.getD 0 pd).l.take (comK l)/\comK l<=p.1.size:=by
 intro p J
 obtain⟨i,e⟩:=gK J
 have K:=(bO.1 e).1
 obtain⟨a,m⟩:∃ a,l[0]?=some a:=⟨_,bA vO⟩
 obtain⟨b,hb⟩:∃ b,l[l.length - 1]?=some b:=⟨_,bA vO⟩
 have o:l.getD 0 pd=a:=by rw[bC,m];rfl
 have O:l.getD (l.length - 1) pd=b:=by rw[bC,hb];rfl
 have Q:comK l=ja0 a.l b.l:=by unfold comK jal;rw[o,O]
 obtain⟨A,E,H⟩:=jbg a.l b.l
 rw[Q,o]
 by_cases h0:i=0
 ·subst h0;rw[m]at e;obtain rfl:=bN e;exact⟨rfl,E⟩
 ·by_cases hn:i=l.length - 1
  ·subst hn;rw[hb]at e;obtain rfl:=bN e;exact⟨A.symm,H⟩
  ·exact jq9 _ a.l p.l b.l (jb9 h.rise vO m e) (jb9 h.rise vO e hb) A E H
theorem jb8{f:Nat}{l:vL}(k:Nat)(h:jax f l)(hk:∀ p∈l,∀ q∈l,p.l.take k=q.l.take k)(hs:∀ p∈l,k<=p.1.size):jax (f - k) (jak k l):=by
 refine⟨fun p e=>?_,?_⟩
 ·obtain⟨q,m,rfl⟩:=bI.1 e
  obtain⟨J,K,A,E,H⟩:=h.size q m
  refine⟨?_,?_,jbi A _ _,E,H⟩
  ·show (q.1.extract k q.1.size).size<=_;rw[jaX];omega
  ·show (q.1.extract k q.1.size).size<=_;rw[jaX];omega
 ·unfold jak
  rw[List.pairwise_map];refine List.Pairwise.imp_of_mem (fun {p q} e m o=>?_) h.rise;show Lt (p.1.extract k p.1.size).data.toList (q.1.extract k q.1.size).data.toList;rw[jcP _ _ _ (bM _),jcP _ _ _ (bM _)];exact jsc k _ _ o (hk p e q m) (hs p e) (hs q m)
theorem jbB{i:Nat}{l:vL}{p:Pair}(h:p∈cutL i l):p∈l/\∃ a r,p.l=a :: r/\a.toNat=i:=by
 obtain⟨m,e⟩:=cU.1 h
 refine⟨m,?_⟩
 unfold jeM at e;cases hp:p.1.data.toList with
 | nil=>rw[hp]at e;cases e
 | cons a r=>rw[hp]at e;exact⟨a,r,hp,by simpa using e⟩
theorem jrx{f:Nat}{l:vL}(i:Nat)(h:jax f l):jax f (cutL i l):=
 ⟨fun p e=>h.size p (jbB e).1,List.Pairwise.filter _ h.rise⟩
theorem jcU{f:Nat}{l:vL}(i:Nat)(h:jax f l):jax (f - 1) (jak 1 (cutL i l)):=by
 refine jb8 1 (jrx i h) (fun p e q A=>?_) (fun p e=>?_)
 ·obtain⟨_,a,r,m,o⟩:=jbB e
  obtain⟨_,b,t,E,H⟩:=jbB A
  rw[m,E,dM.1 (o.trans H.symm)];rfl
 ·obtain⟨_,a,r,m,o⟩:=jbB e
  show 1<=p.1.data.toList.length;rw[show p.1.data.toList=a :: r from m];simp
def jao(B:vL->PT)(l:vL):jad:=
 if l.length=0 then jav
 else if l.length=1 then ⟨1,(l.getD 0 pd).1,(l.getD 0 pd).2,jam 16⟩
 else if 0 < comK l then ⟨2,(l.getD 0 pd).1.extract 0 (comK l),⟨#[]⟩,refB (B (jak (comK l) l)).text :: jam 15⟩
 else ⟨3,⟨#[]⟩,if (l.getD 0 pd).1.size=0 then (l.getD 0 pd).2 else ⟨#[]⟩,(List.range 16).map fun i=>if (cutL i l).length=0 then ⟨#[]⟩else refB (B (jak 1 (cutL i l))).text⟩
def jar(B:vL->PT)(l:vL):List PT:=
 if l.length<=1 then []
 else if 0 < comK l then jbo (B (jak (comK l) l))
 else (List.range 16).flatMap fun i=>if (cutL i l).length=0 then []else jbo (B (jak 1 (cutL i l)))
def jac:Nat->vL->PT
 | 0,_=>.mk ⟨#[]⟩ []
 | f+1,l=>.mk (jaO (jao (jac f) l)) (jar (jac f) l)
theorem jax.mono{f g:Nat}{l:vL}(h:jax f l)(hg:f<=g):jax g l:=⟨fun p e=>by obtain⟨o,m⟩:=h.size p e;exact⟨by omega,m⟩,h.rise⟩
theorem ji0:∀ (l:vM) (i j:Nat) (r:vB),l[j]?=some r->r.size≠0->(i+j,r)∈jaw i l
 | [],i,j,r,h,_=>by simp at h
 | x :: l,i,0,r,h,h0=>by
  simp at h;subst h;unfold jaw;rw[if_neg h0];exact bK ..
 | x :: l,i,j+1,r,h,h0=>by
  have:=ji0 l (i+1) j r (by simpa using h) h0
  rw[show i+(j+1)=i+1+j by omega];unfold jaw;split
  ·exact this
  ·exact bH _ this
theorem jzZ{α:Type}{a b:α}{l:List α}(ha:a∈l)(hb:b∈l)(h:a≠b):2<=l.length:=by
 match l,ha,hb with
 | [x],ha,hb =>
  rw[cG]at ha hb;exact absurd (ha.trans hb.symm) h
 | x :: y :: r,_,_=>simp
theorem jzu{α:Type}{a:α}{l:List α}(ha:a∈l):1<=l.length:=by cases l <;> simp at ha ⊢
structure jdW(f:Nat)(T:PT)(n:jad):Prop where
 text:T.text=jaO n
 good:jbI (InlD f) n
 kind:n.kind≠0
 small:T.text.size < 32->T.kids=[]
theorem jdW.may{f:Nat}{T:PT}{n:jad}(h:jdW f T n):MayP (InlD (f+1)) (refB T.text)/\(T.text.size < 32->InlD (f+1) (refB T.text) n):=by
 by_cases hs:T.text.size < 32
 ·have e:refB T.text=jaO n:=by unfold refB;rw[if_pos hs,h.text]
  have m:InlD (f+1) (refB T.text) n:=by rw[e];exact⟨h.good,rfl,by rw[<-h.text];exact hs,h.kind⟩
  exact⟨.inr ⟨n,m⟩,fun _=>m⟩
 ·exact⟨.inl ⟨shaB T.text,jbA _,by unfold refB;rw[if_neg hs]⟩,fun h=>absurd h hs⟩
theorem MayP.pos{f:Nat}{r:vB}(h:MayP (InlD f) r):r.size≠0:=by
 rcases h with h |⟨m,h⟩
 ·rw[h.size];omega
 ·exact (inlP f).pos r m h
theorem jdW.kid{f:Nat}{T:PT}{n:jad}(h:jdW f T n):jwp T:=by
 have e:=h.good.one (inlP f)
 refine⟨by have:=jhf n e;rw[h.text];omega,h.small,fun A=>?_⟩
 obtain⟨xs,m,o⟩:=jjK n e h.kind
 rw[h.text,m];exact jlR xs o
theorem jvl{T:PT}(h:¬ T.text.size < 32):(refB T.text).size=33:=by
 have:je1 (refB T.text):=⟨shaB T.text,jbA _,by unfold refB;rw[if_neg h]⟩
 exact this.size
theorem jhI:∀ (l:vM) (x:vB),x∈l->x.size<=(catB l).size
 | y :: l,x,h=>by
  rw[ja6];rcases bX.1 h with rfl | h
  ·omega
  ·have:=jhI l x h;omega
theorem jky(xs:vM):(catB xs).size<=(jba xs).size:=by unfold jba;rw[bY];omega
theorem jjD{k:Nat}{l:vL}{i:Nat}(h:i < l.length):(jak k l).getD i pd=((l.getD i pd).1.extract k (l.getD i pd).1.size,(l.getD i pd).2):=by
 unfold jak;rw[bC,bV,bC,bA h];rfl
theorem jaL(k:Nat)(l:vL):(jak k l).length=l.length:=by simp[jak]
theorem jgf{l:vL}(h:0 < l.length):comK (jak (comK l) l)=0:=by
 have e:comK (jak (comK l) l)=ja0 (((l.getD 0 pd).l).drop (comK l)) (((l.getD (l.length - 1) pd).l).drop (comK l)):=by
  conv=>lhs;unfold comK
  rw[jaL,jjD h,jjD vO];unfold jal;simp only;rw[jcP _ _ _ (bM _),jcP _ _ _ (bM _)];rfl
 rw[e];exact jib _ _
theorem jcR{p:Pair}(h:jaz p.1=true){a:vU}{r:vN}(hp:p.l=a :: r):a.toNat < 16:=by
 have:a<=15:=of_decide_eq_true (fG.1 h a (by rw[show p.1.data.toList=a :: r from hp];exact bK ..))
 have:=dS.1 this
 have e:(15:vU).toNat=15:=rfl;omega
theorem good:∀ (f:Nat) (l:vL),jax f l->jbI (InlD f) (jao (jac f) l)/\(l≠[]->jdW f (jac (f+1) l) (jao (jac f) l))/\(2<=l.length->comK l=0->(jao (jac f) l).kind=3):=by
 intro f;induction f with
 | zero =>
  intro l h;have hl:l.length<=1:=by
   rcases fH l.length 2 with h2 | h2
   ·omega
   ·obtain⟨a,ha⟩:∃ a,l[0]?=some a:=⟨_,bA vO⟩
    obtain⟨b,hb⟩:∃ b,l[1]?=some b:=⟨_,bA vO⟩
    have m:=jb9 h.rise vO ha hb
    have:=(h.size b (bE hb)).1
    rw[show b.l=[]from bD (by show b.1.size=0;omega)]at m;exact absurd m (not_lt_nil _)
  by_cases H:l.length=0
  ·have e:jao (jac 0) l=jav:=by unfold jao;rw[if_pos H]
   rw[e]
   exact⟨.none,fun hn=>absurd (bD H) hn,fun h2=>by omega⟩
  ·have h1:l.length=1:=vO
   obtain⟨p,A⟩:=vE (l.getD 0 pd)
   have e:jao (jac 0) l=⟨1,p.1,p.2,jam 16⟩:=by unfold jao;rw[if_neg H,if_pos h1,A]
   have a1:p∈l:=by rw[A,bC,bA vO];exact cY _
   obtain⟨s1,s2,s3,s4,s5⟩:=h.size p a1
   have J:jbI (InlD 0) ⟨1,p.1,p.2,jam 16⟩:=.leaf p.1 p.2 (by simp[jad.pathOk,s2,s3]) s4 s5;rw[e]
   exact⟨J,fun _=>⟨by unfold jac;rw[e];rfl,J,by simp,fun _=>by unfold jac jar;rw[if_pos vO];rfl⟩,fun h2=>by omega⟩
 | succ f ih =>
  intro l h
  by_cases H:l.length=0
  ·have e:jao (jac (f+1)) l=jav:=by unfold jao;rw[if_pos H]
   rw[e]
   exact⟨.none,fun hn=>absurd (bD H) hn,fun h2=>by omega⟩
  by_cases h1:l.length=1
  ·obtain⟨p,A⟩:=vE (l.getD 0 pd)
   have e:jao (jac (f+1)) l=⟨1,p.1,p.2,jam 16⟩:=by unfold jao;rw[if_neg H,if_pos h1,A]
   have a1:p∈l:=by rw[A,bC,bA vO];exact cY _
   obtain⟨s1,s2,s3,s4,s5⟩:=h.size p a1
   have J:jbI (InlD (f+1)) ⟨1,p.1,p.2,jam 16⟩:=.leaf p.1 p.2 (by simp[jad.pathOk,s2,s3]) s4 s5;rw[e]
   exact⟨J,fun _=>⟨by unfold jac;rw[e];rfl,J,by simp,fun _=>by unfold jac jar;rw[if_pos vO];rfl⟩,fun h2=>by omega⟩
  have h2:2<=l.length:=vO
  have o:=jbk h h2
  obtain⟨a,ha⟩:∃ a,l[0]?=some a:=⟨_,bA vO⟩
  obtain⟨b,hb⟩:∃ b,l[l.length - 1]?=some b:=⟨_,bA vO⟩
  have ga:l.getD 0 pd=a:=by rw[bC,ha];rfl
  have gb:l.getD (l.length - 1) pd=b:=by rw[bC,hb];rfl
  have m:=jb9 h.rise vO ha hb
  obtain⟨c2,c3,b2,c4,b3⟩:=h.size a (bE ha)
  obtain⟨c5,c6,c7,c8,c9⟩:=h.size b (bE hb)
  by_cases hk:0 < comK l
  ·have b4:jax f (jak (comK l) l):=(jb8 (comK l) h (fun p A q hq=>(o p A).1.trans (o q hq).1.symm) (fun p A=>(o p A).2)).mono vO
   obtain⟨_,i2,i3⟩:=ih _ b4
   have a7:=i2 (fun e=>by have:=jaL (comK l) l;rw[e]at this;simp at this;omega);have b5:=i3 (by rw[jaL];omega) (jgf vO);have e:jao (jac (f+1)) l=⟨2,a.1.extract 0 (comK l),⟨#[]⟩,refB (jac (f+1) (jak (comK l) l)).text :: jam 15⟩:=by unfold jao;rw[if_neg H,if_neg h1,if_pos hk,ga]
   have d0:=(o a (bE ha)).2;have b6:(a.1.extract 0 (comK l)).size=comK l:=by rw[cH];omega
   have J:jbI (InlD (f+1)) (jao (jac (f+1)) l):=by
    rw[e];refine .ext _ _ ?_ a7.may.1.pos ?_
    ·simp[jad.pathOk,b6,jbi b2];omega
    ·by_cases hs:(jac (f+1) (jak (comK l) l)).text.size < 32
     ·exact .inr ⟨_,a7.may.2 hs,b5⟩
     ·exact .inl ⟨_,jbA _,by unfold refB;rw[if_neg hs]⟩
   refine⟨J,fun _=>⟨rfl,J,by rw[e];simp,fun K=>?_⟩,fun _ a2=>by omega⟩
   have O:(jac (f+1+1) l).kids=jbo (jac (f+1) (jak (comK l) l)):=by
    show jar (jac (f+1)) l=_;unfold jar;rw[if_neg vO,if_pos hk]
   rw[O];unfold jbo;rw[if_pos];rcases fH (jac (f+1) (jak (comK l) l)).text.size 32 with hx | hx
   ·exact hx
   ·have b7:=jvl (T:=jac (f+1) (jak (comK l) l)) vO
    have ht:(jac (f+1+1) l).text=extB (jao (jac (f+1)) l):=by show jaO (jao (jac (f+1)) l)=_;rw[e];rfl
    rw[ht,e]at K
    have:=jky [jap (putB (a.1.extract 0 (comK l)) false),refB (jac (f+1) (jak (comK l) l)).text]
    have:=jhI [jap (putB (a.1.extract 0 (comK l)) false),refB (jac (f+1) (jak (comK l) l)).text] _ (bH _ (bK ..))
    have Z:(jba [jap (putB (a.1.extract 0 (comK l)) false),refB (jac (f+1) (jak (comK l) l)).text]).size < 32:=K;omega
  ·obtain⟨E,Q⟩:=vE ((List.range 16).map fun i=>if (cutL i l).length=0 then (⟨#[]⟩:vB)else refB (jac (f+1) (jak 1 (cutL i l))).text)
   have e:jao (jac (f+1)) l=⟨3,⟨#[]⟩,if a.1.size=0 then a.2 else ⟨#[]⟩,E⟩:=by unfold jao;rw[if_neg H,if_neg h1,if_neg hk,ga,Q]
   have a0:∀ i,(cutL i l).length≠0->jdW f (jac (f+1) (jak 1 (cutL i l))) (jao (jac f) (jak 1 (cutL i l))):=fun i hi =>
    (ih _ (jcU i h)).2.1 (fun e=>by have:=jaL 1 (cutL i l);rw[e]at this;simp at this;omega)
   have a8:E.length=16:=by rw[Q];simp
   have a9:∀ i,i < 16->E[i]?=some (if (cutL i l).length=0 then (⟨#[]⟩:vB)else refB (jac (f+1) (jak 1 (cutL i l))).text):=fun i hi=>by
    rw[Q,bV,dW hi];rfl
   have a4:∀ r∈E,r.size≠0->MayP (InlD (f+1)) r:=by
    intro r hr b0;rw[Q]at hr
    obtain⟨i,_,rfl⟩:=bI.1 hr
    by_cases hi:(cutL i l).length=0
    ·rw[if_pos hi]at b0;exact absurd rfl b0
    ·rw[if_neg hi];exact (a0 i hi).may.1
   have a3:∀ (p:Pair) (x:vU) (r:vN),p∈l->p.l=x :: r->∃ y,(x.toNat,y)∈jaw 0 E:=by
    intro p x r A b1;have hx:=jcR (h.size p A).2.2.1 b1;have hc:(cutL x.toNat l).length≠0:=by
     intro H;have hm:p∈cutL x.toNat l:=cU.2 ⟨A,by unfold jeM;rw[show p.1.data.toList=x :: r from b1];simp⟩;rw[bD H]at hm;cases hm
    have h5:=a9 x.toNat hx;rw[if_neg hc]at h5
    have:=ji0 E 0 x.toNat _ h5 (a0 _ hc).may.1.pos
    rw[cF]at this
    exact⟨_,this⟩
   have d1:comK l=ja0 a.l b.l:=by unfold comK jal;rw[ga,gb]
   have a2:ja0 a.l b.l=0:=vO
   have X:2<=min (if a.1.size=0 then a.2 else (⟨#[]⟩:vB)).size 1+(jaw 0 E).length:=by
    cases hal:a.l with
    | nil =>
     have b8:a.1.size=0:=by show a.1.data.toList.length=0;rw[show a.1.data.toList=[]from hal];rfl
     rw[if_pos b8];cases hbl:b.l with
     | nil=>rw[hbl]at m;exact absurd m (not_lt_nil _)
     | cons y r =>
      obtain⟨z,hz⟩:=a3 b y r (bE hb) hbl
      have:=jzu hz
      omega
    | cons x r =>
     cases hbl:b.l with
     | nil=>rw[hbl]at m;exact absurd m (not_lt_nil _)
     | cons y t =>
      obtain⟨z,hz⟩:=a3 a x r (bE ha) hal
      obtain⟨z',b9⟩:=a3 b y t (bE hb) hbl
      have c0:x≠y:=by
       intro e;rw[hal,hbl,e]at a2;simp[ja0]at a2
      have:=jzZ hz b9 (fun e=>c0 (dM.1 (Prod.mk.inj e).1))
      omega
   have J:jbI (InlD (f+1)) (jao (jac (f+1)) l):=by
    rw[e];refine .branch _ _ a8 ?_ a4 X;split
    ·exact b3
    ·exact cD _
   refine⟨J,fun _=>⟨rfl,J,by rw[e];simp,fun K=>?_⟩,fun _ _=>by rw[e]⟩
   have O:(jac (f+1+1) l).kids=(List.range 16).flatMap fun i=>if (cutL i l).length=0 then []else jbo (jac (f+1) (jak 1 (cutL i l))):=by
    show jar (jac (f+1)) l=_;unfold jar;rw[if_neg vO,if_neg hk]
   rw[O,List.flatMap_eq_nil_iff];intro i hi;have a5:=dZ.1 hi
   by_cases hc:(cutL i l).length=0
   ·rw[if_pos hc]
   ·rw[if_neg hc]
    unfold jbo;rw[if_pos];rcases fH (jac (f+1) (jak 1 (cutL i l))).text.size 32 with hx | hx
    ·exact hx
    ·have b7:=jvl (T:=jac (f+1) (jak 1 (cutL i l))) vO
     have ht:(jac (f+1+1) l).text=jd5 (jao (jac (f+1)) l):=by show jaO (jao (jac (f+1)) l)=_;rw[e];rfl
     rw[ht,e]at K;have h6:=a9 i a5;rw[if_neg hc]at h6;have c1:jbO ⟨3,⟨#[]⟩,if a.1.size=0 then a.2 else ⟨#[]⟩,E⟩=ja5 E (if a.1.size=0 then a.2 else ⟨#[]⟩):=jdy _ a8;have a6:refB (jac (f+1) (jak 1 (cutL i l))).text∈ja5 E (if a.1.size=0 then a.2 else ⟨#[]⟩):=by
      unfold ja5;refine iD _ (bI.2 ⟨_,bE h6,?_⟩);rw[if_neg vO]
     have h7:=jhI _ _ a6;have h8:=jky (ja5 E (if a.1.size=0 then a.2 else ⟨#[]⟩));have Z:(jba (jbO ⟨3,⟨#[]⟩,if a.1.size=0 then a.2 else ⟨#[]⟩,E⟩)).size < 32:=K;rw[c1]at Z;omega
def jh6(l:vL)(T:PT):Prop:=∀ (w:vW) (v:vV),jbW w->RdP w v l->vQ 29 #[v] w fun e w'=>∃ k,e=.returned (ptrV k)/\jbK (fun x=>w.heap.size<=x) T k w'/\Ext w w'
theorem juH(w:vW)(W1 W2:vW)(bn:Nat)(h1:W1=w.alloc (.cells #[.string ⟨#[]⟩,.slice none 0 0] 106))(h2:Ext W1 W2)(h3:bn=W1.heap.size)(h4:bn < W2.heap.size):jdG w W2 w.heap.size bn ⟨#[]⟩ [] (.slice none 0 0) []:=by
 have o:W1.heap.size=w.heap.size+1:=by rw[h1,bR]
 have m:Ext w W2:=(by rw[h1]at h2;exact ((ExtR w).alloc _).trans h2)
 refine⟨?_,bM _,ORow.nil _ _ m,fun _=>rfl,fun e=>(by cases e),by omega,fun e=>(by cases e),by omega,h4,by unfold jaW;rfl⟩
 rw[h1]at h2;exact (Blk.new w _).keeps h2 (fun h=>h)
theorem jpD(f:Nat)(l:vL)(h0:l.length=0):jh6 l (jac (f+1) l):=by
 intro w v hc hv
 obtain⟨a,c,O⟩:=hv.sl
 rw[h0]at O;subst O;have ht:jac (f+1) l=.mk (jaO jav) []:=by
  show PT.mk (jaO (jao _ l)) (jar _ l)=_;unfold jao jar;rw[if_pos h0,if_pos vO]
 rw[ht];clear hv hc h0
 obtain⟨W1,m⟩:=vE (w.alloc (.cells #[.string ⟨#[]⟩,.slice none 0 0] 106))
 have Z:=Hd m;go_enter Tryz.func29,Tryz.ntmps29;go_wp2_with (first |(refine jaj Tryz.allocNode rfl rfl ?_;intro W3 Q H;refine jag (vs:=jav.cells) rfl rfl rfl rfl Q rfl Tryz.szNode (jad.one _) ?_;intro W4 A J;simp only[bR]at A J) |(refine jaf 110 (.tmp 4) rfl rfl _ _ rfl (jaq _ _ jav rfl A) ?_))
 have E:Ext W1 W4:=by
  rw[<-m]at H;exact H.trans' J (fun x hx e=>by have e:x=w.heap.size+1:=e;rw[m,bR]at hx;omega)
 have HH:=Hd (juH w W1 W4 (w.heap.size+1) m E (by rw[m,bR]) A.lt);have HG:=Hd (jbI.none (I:=InlD f));clear H J Q m Z ht;unfold jad.V;refine vH (jjL (inlP f) _ jav HG.o) fun w9 hE=>?_;have X:=HH.o.ext hE;have q0:w9.cell? ⟨w.heap.size,0,none⟩=some (.string ⟨#[]⟩):=X.blk.cell (i:=0) vF;have f0:w9.frozen? ⟨w.heap.size,0,none⟩=false:=X.blk.frozen;have H9:=Hd (X.setText (jaO jav))
 obtain⟨tx,K⟩:=vE (jaO jav)
 rw[<-K]at H9 ⊢;have a0:=Hd K;clear X K A E;go_wp2_with fail
 go_ret
 exact⟨w.heap.size,rfl,by rw[<-a0.o];exact H9.o.part,H9.o.row.ext⟩
theorem jrg(f:Nat)(l:vL)(E:l.length=1)(hok:jax f l):jh6 l (jac (f+1) l):=by
 intro w v hc hv
 obtain⟨p,hp⟩:∃ p,l=[p]:=by
  match l,E with
  | [p],_=>exact⟨p,rfl⟩
 have hn:jao (jac f) l=⟨1,p.1,p.2,jam 16⟩:=by unfold jao;rw[if_neg vO,if_pos E,hp];rfl
 have m:=(good f l hok).1;rw[hn]at m;have ht:jac (f+1) l=.mk (jaO ⟨1,p.1,p.2,jam 16⟩) []:=by
  show PT.mk (jaO (jao _ l)) (jar _ l)=_;rw[hn];unfold jar;rw[if_pos vO]
 obtain⟨T,hT⟩:=vE (jac (f+1) l)
 rw[<-hT]at ht ⊢;have HT:=Hd ht;rcases hv with⟨_,_,_,h0⟩ |⟨b,o,c,rfl,hb,hcl,hcell⟩
 ·rw[h0]at E;cases E
 obtain⟨q1,q2⟩:=hcell 0 p (by rw[hp];rfl)
 rw[iI,fX]at q1 q2;rw[E]at hcl ⊢
 obtain⟨x,y⟩:=p
 have m:=m;have Q1:=Hd q1;have Q2:=Hd q2;have HG:=Hd m
 obtain⟨W1,A⟩:=vE (w.alloc (.cells #[.string ⟨#[]⟩,.slice none 0 0] 106))
 clear hc E hok hp hn m ht hT hcell q1 q2;go_enter Tryz.func29,Tryz.ntmps29;go_wp2_with (refine jaj Tryz.allocNode rfl rfl ?_;intro W3 a0 Q;refine jag (vs:=jav.cells) rfl rfl rfl rfl a0 rfl Tryz.szNode (jad.one _) ?_;intro W4 H X;simp only[bR]at H X)
 have O:Ext W1 W4:=by
  rw[<-A]at Q;exact Q.trans' X (fun x hx e=>by have e:x=w.heap.size+1:=e;rw[A,bR]at hx;omega)
 have hh:=juH w W1 W4 (w.heap.size+1) A O (by rw[A,bR]) H.lt;have J:=Hd hh;have a1:=Hd H;clear Q X a0 A H O hh;refine jay [0,1,2,3,4,5,6,7,8,9] [9] Ext ExtR ExtT vY vY vY ?_;iterate 3 refine vP ?_
 refine qL ⟨b,o,none⟩ _ rfl (fun w1 E=>jab Tryz.uStr rfl (jaa (jaa (by exact Q1.o) (J.o.row.ext.trans (jai _))) E)) ?_;refine vS ?_;iterate 3 refine vP ?_
 refine qL ⟨b,o+1,none⟩ _ rfl (fun w1 E=>jab Tryz.uStr rfl (jaa (jaa (by exact Q2.o) (J.o.row.ext.trans (jai _))) E)) ?_;refine vS ?_
 refine vP ?_
 refine qH _ rfl (fun w5 he K hK=>?_);have hX:=(jai W4).trans he;refine jlb (vs:=jcb 1 x y ⟨#[]⟩) rfl rfl rfl (a1.o.keeps hX (fun h=>h)) rfl Tryz.szNode (jcc _ _ _ _) ?_;intro W6 a2 a3;have H6:=Hd ((J.o.ext hX).other a3);have a4:=Hd (show Blk W6 (w.heap.size+1) (.cells (jad.cells ⟨1,x,y,jam 16⟩).toArray 110)from a2);clear he hX a2 a3 Q1 Q2 a1 J;refine vS ?_;refine hK _ _ ?_;clear hK K;refine qE (fun w7 he=>?_);have HH:=Hd (H6.o.ext he);have a5:=a4.o.keeps he (fun h=>h);clear he a4 H6;go_wp2_with (refine jaf 110 (.tmp 4) rfl rfl _ _ rfl (jaq _ _ ⟨1,x,y,jam 16⟩ rfl a5) ?_)
 refine vH (jjL (inlP _) _ ⟨1,x,y,jam 16⟩ HG.o) fun w9 hE=>?_;have h9:=HH.o.ext hE;have q0:w9.cell? ⟨w.heap.size,0,none⟩=some (.string ⟨#[]⟩):=h9.blk.cell (i:=0) vF;have f0:w9.frozen? ⟨w.heap.size,0,none⟩=false:=h9.blk.frozen;have H9:=Hd (h9.setText (jaO ⟨1,x,y,jam 16⟩))
 obtain⟨tx,Z⟩:=vE (jaO ⟨1,x,y,jam 16⟩)
 rw[<-Z]at H9 ⊢;have a6:=Hd Z;clear h9 Z;go_wp2_with fail
 go_ret
 exact⟨w.heap.size,rfl,by rw[HT.o, <-a6.o];exact H9.o.part,H9.o.row.ext⟩
theorem jrf(f:Nat)(l:vL)(H:2<=l.length)(hln:l.length<=1000)(hok:jax (f+1) l)(hk:0 < comK l)(HB:jh6 (jak (comK l) l) (jac (f+1) (jak (comK l) l))):jh6 l (jac (f+1+1) l):=by
 intro w v hc hv
 obtain⟨a,ha⟩:∃ a,l[0]?=some a:=⟨_,bA vO⟩
 obtain⟨z,hz⟩:∃ z,l[l.length - 1]?=some z:=⟨_,bA vO⟩
 have ga:l.getD 0 pd=a:=by rw[bC,ha];rfl
 have gz:l.getD (l.length - 1) pd=z:=by rw[bC,hz];rfl
 obtain⟨f2,f4,d1,f5,f6⟩:=hok.size a (bE ha)
 obtain⟨f7,f8,d2,f9,g0⟩:=hok.size z (bE hz)
 have A:=(good (f+1) l hok).1;have d3:=hv;rcases hv with⟨_,_,_,h0⟩ |⟨b,o,c,rfl,hb,hcl,hcell⟩
 ·rw[h0]at H;simp at H
 obtain⟨q1,b2⟩:=hcell 0 a ha
 rw[iI,fX]at q1 b2
 obtain⟨q2,_⟩:=hcell (l.length - 1) z hz
 obtain⟨m,J⟩:=vE (comK l)
 have b3:m=jal a.1 z.1:=by rw[J];unfold comK;rw[ga,gz]
 obtain⟨x,y⟩:=a
 obtain⟨xb,yb⟩:=z
 simp only at f2 f4 d1 f5 f6 f7 f8 d2 f9 g0 q1 b2 q2 b3;have Q:=jb8 (comK l) hok (fun p hp q hq=>((jbk hok H p hp).1).trans (jbk hok H q hq).1.symm) (fun p hp=>(jbk hok H p hp).2);have Z:=(jbk hok H (x,y) (bE ha)).2;have d4:∀ p∈l,m<=p.1.size/\p.1.size<=1000000:=fun p hp=>⟨by rw[J];exact (jbk hok H p hp).2,by have:=(hok.size p hp).2.1;omega⟩;rw[<-J]at hk Q Z HB;have Z:m<=x.size:=Z
 obtain⟨T',a4⟩:∃ T',T'=jac (f+1) (jak m l):=⟨_,rfl⟩
 have b4:=(good f _ (Q.mono vO)).2.1 (fun e=>by have:=jaL m l;rw[e]at this;simp at this;omega);rw[<-a4]at HB b4
 obtain⟨r,hr⟩:=vE (refB T'.text)
 have hn:jao (jac (f+1)) l=⟨2,x.extract 0 m,⟨#[]⟩,r :: jam 15⟩:=by unfold jao;rw[if_neg vO,if_neg vO, <-J,if_pos hk,ga, <-a4, <-hr]
 rw[hn]at A;have ht:jac (f+1+1) l=.mk (jaO ⟨2,x.extract 0 m,⟨#[]⟩,r :: jam 15⟩) (jbo T'):=by
  show PT.mk (jaO (jao _ l)) (jar _ l)=_;rw[hn];unfold jar;rw[if_neg vO, <-J,if_pos hk, <-a4]
 obtain⟨T,hT⟩:=vE (jac (f+1+1) l)
 rw[<-hT]at ht ⊢;have c0:((l.length:Int) == 0)=false:=by simp;exact fun e=>by rw[e]at H;simp at H
 have c1:¬(l.length:Int)=0:=vO
 have c2:((l.length:Int) == 1)=false:=by simp;omega
 have c3:¬(l.length:Int)=1:=vO
 have c4:(0:Int)<=(l.length:Int) - 1:=vO
 have c5:(l.length:Int) - 1 < (l.length:Int):=vO
 have c6:((l.length:Int) - 1).toNat=l.length - 1:=vO
 have c7:(0:Int) < (l.length:Int):=vO
 have d7:0 < l.length:=vO
 have d0:0 < m:=hk;have e0:(0:Int) < (m:Int):=vO
 have e1:(m:Int)<=(x.size:Int):=vO
 have e2:(x.extract 0 m).size=m:=by rw[cH];omega
 have HT:=Hd ht;have Q1:=Hd q1;have Q2:=Hd q2;have d5:=Hd b3;have HG:=Hd A;have g1:=Hd d3;have g2:=Hd d4;have b8:=Hd b4.kid;have HR:=Hd hr;have g3:=Hd HB;have HC:=Hd hc;have HL:=Hd (show jak m l≠[]from fun e=>by have:=jaL m l;rw[e]at this;simp at this;omega);have g4:=Hd (show (jak m l).length<=1000000 by rw[jaL];omega);clear hc ha hz ga gz hok A d3 hcell q1 b2 q2 J b3 Q Z d4 a4 b4 hr hn ht hT HB d1 d2 e2
 obtain⟨W1,X⟩:=vE (w.alloc (.cells #[.string ⟨#[]⟩,.slice none 0 0] 106))
 go_enter Tryz.func29,Tryz.ntmps29;go_wp2_with (refine jaj Tryz.allocNode rfl rfl ?_;intro W3 d6 b5;refine jag (vs:=jav.cells) rfl rfl rfl rfl d6 rfl Tryz.szNode (jad.one _) ?_;intro W4 a5 b6;simp only[bR]at a5 b6)
 have a0:Ext W1 W4:=by
  rw[<-X]at b5;exact b5.trans' b6 (fun x hx e=>by have e:x=w.heap.size+1:=e;rw[X,bR]at hx;omega)
 have hh:=juH w W1 W4 (w.heap.size+1) X a0 (by rw[X,bR]) a5.lt;have d8:=Hd hh;have d9:=Hd a5;have O:=Hd hh.row.ext;clear b5 b6 d6 X a5 a0 hh;refine jah [0,1,2,3,4,5,6,7,8,9,10,11,12,13] Ext ExtR ExtT vY vY vY ?_;iterate 3 refine vK ?_
 refine qKL ⟨b,o,none⟩ _ rfl (fun w1 K=>jab Tryz.uStr rfl (jaa (jaa (by exact Q1.o) (O.o.trans (jai _))) K)) ?_;refine vS ?_;iterate 6 refine vK ?_
 refine qKL ⟨b,o+(l.length - 1) * 2,none⟩ _ rfl (fun w1 K=>jab Tryz.uStr rfl (jaa (jaa (by exact Q2.o) (O.o.trans (jai _))) K)) ?_;refine vS ?_;refine qKC _ 57 #[.string x,.string xb] (.int .i64 (m:Nat)) rfl (fun w1=>jat (vX 57) vY) (fun w1 K=>by rw[d5.o];exact (jfw w1 x xb vO vO).mono (fun e w2 ⟨K,n,H⟩=>⟨K,by rw[H];exact (ExtR w1).drewN n⟩)) ?_;refine vS ?_;iterate 2 refine vK ?_
 refine qKE (fun w5 he=>?_);have a6:=(jai W4).trans he;have e3:=Hd (d8.o.ext a6);have e4:=Hd (d9.o.keeps a6 (fun h=>h));have O:=Hd (O.o.trans a6);clear he a6 d8 d9;go_wp2_with fail
 refine jah [0,1,2,3,4,5,6,7,8,9,10,11,12] Ext ExtR ExtT vY vY vY ?_;iterate 3 refine vK ?_
 refine qKL ⟨b,o,none⟩ _ rfl (fun w1 K=>jab Tryz.uStr rfl (jaa (jaa (by exact Q1.o) (O.o.trans (jai _))) K)) ?_;refine vS ?_;iterate 6 refine vK ?_
 refine qKL ⟨b,o+(l.length - 1) * 2,none⟩ _ rfl (fun w1 K=>jab Tryz.uStr rfl (jaa (jaa (by exact Q2.o) (O.o.trans (jai _))) K)) ?_;refine vS ?_;refine qKC _ 57 #[.string x,.string xb] (.int .i64 (m:Nat)) rfl (fun w1=>jat (vX 57) vY) (fun w1 K=>by rw[d5.o];exact (jfw w1 x xb vO vO).mono (fun e w2 ⟨K,n,H⟩=>⟨K,by rw[H];exact (ExtR w1).drewN n⟩)) ?_;refine vS ?_
 refine vK ?_
 refine qKE (fun w6 he=>?_);have a7:=(jai w5).trans he;have g5:=Hd (e3.o.ext a7);have e5:=e4.o.keeps a7 (fun h=>h);have O:=Hd (O.o.trans a7);have q6:=jaa Q1.o O.o;clear he a7 e3 e4;go_wp2_with (refine jag (vs:=jcb 2 (x.extract 0 m) ⟨#[]⟩ ⟨#[]⟩) rfl rfl rfl rfl e5 rfl Tryz.szNode (jcc _ _ _ _) ?_;intro W7 e6 e7)
 have e8:=Hd (g5.o.other e7);have g6:=Hd e6;clear e6 e7 e5 q6;have O:=Hd e8.o.row.ext;refine (jmN W7 _ m l (g1.o.ext O.o) vO g2.o).mono ?_;rintro e w8 ⟨v8,rfl,a9⟩;have b0:Ext W7 w8:=a9.ext;have g7:=Hd (e8.o.ext b0);have g8:=Hd (g6.o.keeps b0 (fun h=>h));have a1:=Hd a9.rd;have e9:=HC.o.ext (O.o.trans b0)
 obtain⟨a8,c8,g9⟩:=a9.sl
 subst g9;clear a9 b0;go_wp2_with fail
 refine (jv7 e9 g7.o (by simp) _ (jak m l) a1.o HL.o g4.o T' b8.o (g3.o w8 _ e9 a1.o)).mono ?_;rintro e b1 ⟨u,bs,rfl,f1,h4,b9,a2⟩;rw[<-HR.o];have E:=g8.o.keeps a2 (by rintro (h | h) <;> first | omega | cases h);have q3:b1.cell? ⟨w.heap.size+1,3,none⟩=some (.string ⟨#[]⟩):=E.cell (i:=3) vF;have f3:b1.frozen? ⟨w.heap.size+1,3,none⟩=false:=E.frozen;have a3:=E.set_same (i:=3) (.string r);have c9:Hid (Blk (b1.setCell ⟨w.heap.size+1,3,none⟩ (.string r)) (w.heap.size+1) (.cells (jad.cells ⟨2,x.extract 0 m,⟨#[]⟩,r :: jam 15⟩).toArray 110)):=Hd a3;have HH:=Hd (f1.other (jae.oneSet b1 ⟨w.heap.size+1,3,none⟩ (.string r)));clear f1 b9 a2 E a3;go_wp2_with (refine jaf 110 (.tmp 4) rfl rfl _ _ rfl (jaq _ _ ⟨2,x.extract 0 m,⟨#[]⟩,r :: jam 15⟩ rfl c9.o) ?_)
 refine vH (jjL (inlP _) _ ⟨2,x.extract 0 m,⟨#[]⟩,r :: jam 15⟩ HG.o) fun w9 hE=>?_;have h9:=HH.o.ext hE;have q0:w9.cell? ⟨w.heap.size,0,none⟩=some (.string ⟨#[]⟩):=h9.blk.cell (i:=0) vF;have f0:w9.frozen? ⟨w.heap.size,0,none⟩=false:=h9.blk.frozen;have H9:=Hd (h9.setText (jaO ⟨2,x.extract 0 m,⟨#[]⟩,r :: jam 15⟩))
 obtain⟨tx,b7⟩:=vE (jaO ⟨2,x.extract 0 m,⟨#[]⟩,r :: jam 15⟩)
 rw[<-b7]at H9 ⊢;have h3:=Hd b7;clear h9 b7;go_wp2_with fail
 go_ret
 exact⟨w.heap.size,rfl,by rw[HT.o, <-h3.o];exact H9.o.part,H9.o.row.ext⟩
def ksK(B:vL->PT)(l:vL)(k:Nat):List PT:=(List.range k).flatMap fun i=>if (cutL i l).length=0 then []else jbo (B (jak 1 (cutL i l)))
theorem jhV(B:vL->PT)(l:vL)(k:Nat):ksK B l (k+1)=ksK B l k++(if (cutL k l).length=0 then []else jbo (B (jak 1 (cutL k l)))):=by
 unfold ksK;rw[fT,fN];simp
def jyf(w:vW)(bn:Nat)(B:vL->PT)(l:vL)(rs:vM)(i:vV)(wr:vW):Prop:=∃ k:Nat,k<=16/\i=.int .i64 k/\∃ u bs,jdG w wr w.heap.size bn ⟨#[]⟩ (ksK B l k) u bs/\bs.length<=k/\Blk wr bn (.cells (brN rs k).cells.toArray 110)
theorem jbG{P:Program}{o:Oper}{a:Act}{w:vW}{K:Act->vW->Prop}{Q:Exit->Act->vW->Prop}{f:FuncId}{args:Array vV}(hv:(execOp a.eval o).run P w=.ok (.enter f args) w)(h:Calls P f args w (fun e m=>∃ v,e=.returned v/\K (a.put o.dst v) m)):o.wp P a w K Q:=by
 unfold Oper.wp;rw[hv];exact h.mono fun e m ⟨v,A,E⟩=>by subst A;exact E
theorem jlw(f:Nat)(l:vL)(h2:2<=l.length)(hln:l.length<=1000)(hok:jax (f+1) l)(hk:¬ 0 < comK l)(HB:∀ i,(cutL i l).length≠0->jh6 (jak 1 (cutL i l)) (jac (f+1) (jak 1 (cutL i l)))):jh6 l (jac (f+1+1) l):=by
 intro w v hc X
 obtain⟨a,ha⟩:∃ a,l[0]?=some a:=⟨_,bA vO⟩
 obtain⟨z,hz⟩:∃ z,l[l.length - 1]?=some z:=⟨_,bA vO⟩
 have ga:l.getD 0 pd=a:=by rw[bC,ha];rfl
 have gz:l.getD (l.length - 1) pd=z:=by rw[bC,hz];rfl
 obtain⟨h7,h8,e9,i0,i1⟩:=hok.size a (bE ha)
 obtain⟨i2,i3,f1,i4,i5⟩:=hok.size z (bE hz)
 have H:=(good (f+1) l hok).1;have f3:=X;rcases X with⟨_,_,_,h0⟩ |⟨b,o,c,rfl,hb,hcl,hcell⟩
 ·rw[h0]at h2;simp at h2
 obtain⟨q1,Z⟩:=hcell 0 a ha
 rw[iI,fX]at q1 Z
 obtain⟨q2,_⟩:=hcell (l.length - 1) z hz
 obtain⟨kk,c9⟩:=vE (comK l)
 have d1:kk=jal a.1 z.1:=by rw[c9];unfold comK;rw[ga,gz]
 obtain⟨x,y⟩:=a
 obtain⟨xb,yb⟩:=z
 simp only at h7 h8 e9 i0 i1 i2 i3 f1 i4 i5 q1 Z q2 d1
 obtain⟨A,b3⟩:=vE ((List.range 16).map fun i=>if (cutL i l).length=0 then (⟨#[]⟩:vB)else refB (jac (f+1) (jak 1 (cutL i l))).text)
 obtain⟨m,a0⟩:=vE (if x.size=0 then y else (⟨#[]⟩:vB))
 have hn:jao (jac (f+1)) l=⟨3,⟨#[]⟩,m,A⟩:=by unfold jao;rw[if_neg vO,if_neg vO,if_neg hk,ga,b3,a0]
 rw[hn]at H;have ht:jac (f+1+1) l=.mk (jaO ⟨3,⟨#[]⟩,m,A⟩) (ksK (jac (f+1)) l 16):=by
  show PT.mk (jaO (jao _ l)) (jar _ l)=_;rw[hn];unfold jar;rw[if_neg vO,if_neg hk];rfl
 obtain⟨T,hT⟩:=vE (jac (f+1+1) l)
 rw[<-hT]at ht ⊢;have f4:A.length=16:=by rw[b3];simp
 have f5:∀ i,i < 16->A[i]?=some (if (cutL i l).length=0 then (⟨#[]⟩:vB)else refB (jac (f+1) (jak 1 (cutL i l))).text):=fun i hi=>by
  rw[b3,bV,dW hi];rfl
 have a8:∀ i,(cutL i l).length≠0->jwp (jac (f+1) (jak 1 (cutL i l))):=fun i hi =>
  (((good f _ (jcU i hok)).2.1 (fun e=>by have:=jaL 1 (cutL i l);rw[e]at this;simp at this;omega)).kid)
 have d2:∀ p∈l,p.1.size<=1000000:=fun p hp=>by have:=(hok.size p hp).2.1;omega
 have f6:∀ i,∀ p∈cutL i l,1<=p.1.size/\p.1.size<=1000000:=fun i p hp=>by
  obtain⟨hm,a',r',e',_⟩:=jbB hp
  exact⟨by show 1<=p.1.data.toList.length;rw[show p.1.data.toList=a' :: r' from e'];simp,d2 p hm⟩
 have f8:∀ i,(cutL i l).length<=1000:=fun i=>bG (dE _ _) hln;have c0:((l.length:Int) == 0)=false:=by simp;exact fun e=>by rw[e]at h2;simp at h2
 have c1:¬(l.length:Int)=0:=vO
 have c2:((l.length:Int) == 1)=false:=by simp;omega
 have c3:¬(l.length:Int)=1:=vO
 have c4:(0:Int)<=(l.length:Int) - 1:=vO
 have c5:(l.length:Int) - 1 < (l.length:Int):=vO
 have c6:((l.length:Int) - 1).toNat=l.length - 1:=vO
 have c7:(0:Int) < (l.length:Int):=vO
 have d7:0 < l.length:=vO
 rw[<-c9]at hk;have d0:¬ 0 < kk:=hk;have e0:¬(0:Int) < (kk:Int):=vO
 have HT:=Hd ht;have Q1:=Hd q1;have i6:=Hd Z;have Q2:=Hd q2;have i7:=Hd d1;have HG:=Hd H;have i8:=Hd f3;have i9:=Hd d2;have j0:=Hd f6;have f9:=Hd f8;have e7:=Hd a8;have j1:=Hd f5;have a3:=Hd f4;have a9:=Hd a0;have j2:=Hd HB;have HC:=Hd hc;clear hc ha hz ga gz hok H f3 hcell q1 Z q2 c9 d1 d2 f6 f8 a8 f5 f4 a0 b3 hn ht hT HB e9 f1
 obtain⟨W1,a5⟩:=vE (w.alloc (.cells #[.string ⟨#[]⟩,.slice none 0 0] 106))
 go_enter Tryz.func29,Tryz.ntmps29;go_wp2_with (refine jaj Tryz.allocNode rfl rfl ?_;intro W3 g0 d3;refine jag (vs:=jav.cells) rfl rfl rfl rfl g0 rfl Tryz.szNode (jad.one _) ?_;intro W4 b4 d4;simp only[bR]at b4 d4)
 have b0:Ext W1 W4:=by
  rw[<-a5]at d3;exact d3.trans' d4 (fun x hx e=>by have e:x=w.heap.size+1:=e;rw[a5,bR]at hx;omega)
 have hh:=juH w W1 W4 (w.heap.size+1) a5 b0 (by rw[a5,bR]) b4.lt;have g1:=Hd hh;have g2:=Hd b4;have HX:=Hd hh.row.ext;clear d3 d4 g0 a5 b4 b0 hh;refine jah [0,1,2,3,4,5,6,7,8,9,10,11,12,13] Ext ExtR ExtT vY vY vY ?_;iterate 3 refine vK ?_
 refine qKL ⟨b,o,none⟩ _ rfl (fun w1 h1=>jab Tryz.uStr rfl (jaa (jaa (by exact Q1.o) (HX.o.trans (jai _))) h1)) ?_;refine vS ?_;iterate 6 refine vK ?_
 refine qKL ⟨b,o+(l.length - 1) * 2,none⟩ _ rfl (fun w1 h1=>jab Tryz.uStr rfl (jaa (jaa (by exact Q2.o) (HX.o.trans (jai _))) h1)) ?_;refine vS ?_;refine qKC _ 57 #[.string x,.string xb] (.int .i64 (kk:Nat)) rfl (fun w1=>jat (vX 57) vY) (fun w1 h1=>by rw[i7.o];exact (jfw w1 x xb vO vO).mono (fun e w2 ⟨h1,n,h2⟩=>⟨h1,by rw[h2];exact (ExtR w1).drewN n⟩)) ?_;refine vS ?_;iterate 2 refine vK ?_
 refine qKE (fun w5 E=>?_);have b5:=(jai W4).trans E;have J:=Hd (g1.o.ext b5);have b6:=Hd (g2.o.keeps b5 (fun h=>h));have HX:=Hd (HX.o.trans b5);clear E b5 g1 g2;have q0:=b6.o.cell (i:=0) (v:=.int .i64 0) vF;have f0:w5.frozen? ⟨w.heap.size+1,0,none⟩=false:=b6.o.frozen;have K6:=jae.oneSet w5 ⟨w.heap.size+1,0,none⟩ (.int .i64 3);have b7:=Hd (J.o.other K6);have b8:Hid (Blk (w5.setCell ⟨w.heap.size+1,0,none⟩ (.int .i64 3)) (w.heap.size+1) (.cells (brN A 0).cells.toArray 110)):=Hd (b6.o.set_same (i:=0) (.int .i64 3));clear K6 b6 J HX;go_wp2_with fail
 go_loopw [11] (fun i wr=>jyf w (w.heap.size+1) (jac (f+1)) l A i wr) (fun i _=>16 - (intOf i).toNat)
 case atStart=>exact⟨0,by omega,rfl,_,[],b7.o,by simp,b8.o⟩
 case round =>
  obtain⟨k,e8,rfl,u,bs,hH,k2,Q⟩:=hrel
  obtain⟨au,cu,hu⟩:=hH.row.sl
  subst hu;have HH:=Hd hH;have HB:=Hd Q;have HX:=Hd hH.row.ext;clear hH Q
  by_cases hlt:k < 16
  ·have b1:(k:Int) < 16:=vO
   have k3:=HH.o.ml;have QI:=Hd (show (wr.alloc (.cells #[.int .i64 (k:Int)] 3)).cell? ⟨wr.heap.size,0,none⟩=some (.int .i64 (k:Int))from(Blk.new wr _).cell vF);have g3:=jxu HH.o.row;have k4:w.heap.size < wr.heap.size:=HH.o.blk.lt;have NF:=Hd (show ¬(wr.heap.size=w.heap.size\/wr.heap.size=w.heap.size+1\/(Value.slice au bs.length cu).ownBlock=some wr.heap.size)from fun h=>by
    rcases h with h | h | h
    ·omega
    ·omega
    ·exact g3 h)
   clear g3;go_wp2_with fail
   refine jaJ [0,1,2,3,7,4,5,6,8,9] [4,5,6,9] Ext (jae (fun x=>x=w.heap.size\/x=w.heap.size+1\/(Value.slice au bs.length cu).ownBlock=some x)) ExtR ExtT (fun x y z h k=>jae.trans h k) (fun x y h=>h.mono (fun _ _ h=>h.elim)) vY vY vY ?_;refine qDL ⟨wr.heap.size,0,none⟩ _ rfl (fun w2 h2=>jab Tryz.uInt rfl (jan (by exact QI.o) h2 (by exact NF.o))) ?_;refine vS ?_;iterate 4 refine vD ?_
   refine qDH _ rfl (fun w1 E K hK=>?_);have d5:=(((ExtR wr).alloc (.cells #[.int .i64 (k:Int)] 3)).trans (jai _)).trans E;have g4:=jaa (jaa QI.o (jai _)) E;refine jbG (jat (vX 60) vY) ((jyW w1 _ wr.heap.size k l (i8.o.ext (HX.o.trans d5)) vO i9.o vO g4).mono ?_);rintro e w2 ⟨v2,n2,rfl,a6⟩;have g5:=Hd a6.rd;have g6:=Hd (d5.trans a6.ext)
   refine⟨_,rfl,hK _ _ (a6.ext.mono (fun _ _ h=>h.elim)) ?_⟩
   obtain⟨a2,c2,j3⟩:=a6.rd.sl
   subst j3;clear hK K E d5 g4 a6;refine vS ?_;refine qDH _ rfl (fun w3 E K hK=>?_);refine jbG (jat (vX 59) vY) ((jmN w3 _ 1 (cutL k l) (g5.o.ext E) (by have:=f9.o k;omega) (j0.o k)).mono ?_);rintro e w4 ⟨v4,rfl,a7⟩;have g7:=Hd a7.rd;have j4:=Hd ((g6.o.trans E).trans a7.ext)
   refine⟨_,rfl,hK _ _ (a7.ext.mono (fun _ _ h=>h.elim)) ?_⟩
   obtain⟨a4,g8,j5⟩:=a7.rd.sl
   subst j5;clear hK K E a7 g5 g6;refine vS ?_;refine qDH _ rfl (fun d6 E K hK=>?_);have d8:=Hd (j4.o.trans E);have d9:=Hd (g7.o.ext E);have J:=Hd (HH.o.ext d8.o);have e1:=HC.o.ext (HX.o.trans d8.o)
   obtain⟨rk,b9⟩:=vE (if (cutL k l).length=0 then (⟨#[]⟩:vB)else refB (jac (f+1) (jak 1 (cutL k l))).text)
   refine jbG (f:=58) (args:=#[ptrV w.heap.size,.slice a4 (jak 1 (cutL k l)).length g8]) (jat (vX 58) vY) ((show Calls _ _ _ _ (fun e w'=>∃ u' bs',e=.returned (.string rk)/\jdG w w' w.heap.size (w.heap.size+1) ⟨#[]⟩ (ksK (jac (f+1)) l (k+1)) u' bs'/\bs'.length<=bs.length+1/\Ext w w'/\jae (fun x=>x=w.heap.size\/(Value.slice au bs.length cu).ownBlock=some x) d6 w')from ?hold).mono ?_)
   case hold =>
    rw[jhV]
    by_cases hc0:(cutL k l).length=0
    ·rw[b9,if_pos hc0,if_pos hc0,cC,jaL,hc0]
     refine (juJ d6 w.heap.size a4 g8).mono ?_;rintro e w6 ⟨rfl,rfl⟩
     exact⟨_,bs,rfl,J.o,by omega,J.o.row.ext,jae.refl _ _⟩
    ·rw[b9,if_neg hc0,if_neg hc0]
     exact jv7 e1 J.o vO _ (jak 1 (cutL k l)) d9.o (fun e=>hc0 (by have:=jaL 1 (cutL k l);rw[e]at this;simpa using this.symm)) (by rw[jaL];have:=f9.o k;omega) _ (e7.o k hc0) (j2.o k hc0 d6 _ e1 d9.o)
   rintro e w6 ⟨u6,j6,rfl,h6,k5,j7,e2⟩
   refine⟨_,rfl,hK _ _ (e2.mono (fun x _ h=>h.elim .inl (fun h=>.inr (.inr h)))) ?_⟩
   have g9:=(HB.o.keeps d8.o (fun h=>h)).keeps e2 (fun h=>by
    rcases h with h | h
    ·omega
    ·exact HH.o.mb h)
   have b8:=Hd g9;have b7:=Hd h6;have j8:=Hd ((j1.o k hlt).trans (by rw[<-b9]));clear hK K E h6 j7 e2 g9 e1 b9 g7 d9 J;refine vS ?_
   refine vD ?_
   refine qDH _ rfl (fun w7 E K hK=>?_);have c8:=b8.o.keeps E (fun h=>h)
   obtain⟨old,q7⟩:∃ v,w7.cell? ⟨w.heap.size+1,3+k,none⟩=some v:=⟨_,c8.cellL (bA (by rw[jad.cells_len _ (jrd a3.o e8)];omega))⟩
   have f7:w7.frozen? ⟨w.heap.size+1,3+k,none⟩=false:=c8.frozen;have e3:=c8.set_same (i:=3+k) (.string rk);rw[show (brN A k).cells.toArray.setIfInBounds (3+k) (.string rk)=((brN A k).cells.set (3+k) (.string rk)).toArray by simp,jre a3.o hlt rk j8.o]at e3;have h3:=Hd e3;have K8:=jae.oneSet w7 ⟨w.heap.size+1,3+k,none⟩ (.string rk);have h4:=Hd ((b7.o.ext E).other K8);have h5:=Hd (K8.mono (G:=fun x=>x=w.heap.size\/x=w.heap.size+1\/(Value.slice au bs.length cu).ownBlock=some x) (fun x _ e=>.inr (.inl e)));clear E c8 e3 K8 b8 b7;go_simp;refine hK _ _ h5.o ?_;clear hK K q7 f7;refine qDE (fun w9 E=>?_);have j9:=Hd (h4.o.ext E);have k0:=Hd (h3.o.keeps E (fun h=>h));clear E h4 h3 h5;go_wp2_with fail
   go_roundw
   case rel=>exact⟨k+1,by omega,by go_num,u6,j6,j9.o,by omega,k0.o⟩
   case measure=>exact vJ
  ·have b2:k=16:=vO
   subst b2;have e4:brN A 16=⟨3,⟨#[]⟩,⟨#[]⟩,A⟩:=by unfold brN jam;rw[bQ (by have:=a3.o;omega)];simp
   have Q:=HB.o;rw[e4]at Q;have q1:=jaa Q1.o HX.o
   by_cases hx0:x.size=0
   ·have k1:=jbj hx0
    have X:m=y:=by rw[a9.o,if_pos hx0]
    have Z:=jaa i6.o HX.o;subst k1;have q2:wr.cell? ⟨w.heap.size+1,2,none⟩=some (.string ⟨#[]⟩):=Q.cellL vF;have f2:wr.frozen? ⟨w.heap.size+1,2,none⟩=false:=Q.frozen;have e5:=Q.set_same (i:=2) (.string y);rw[show (jad.cells ⟨3,⟨#[]⟩,⟨#[]⟩,A⟩).toArray.setIfInBounds 2 (.string y)=(jad.cells ⟨3,⟨#[]⟩,y,A⟩).toArray by simp[jad.cells]]at e5;have a1:=Hd (show Blk (wr.setCell ⟨w.heap.size+1,2,none⟩ (.string y)) (w.heap.size+1) (.cells (jad.cells ⟨3,⟨#[]⟩,m,A⟩).toArray 110)from by rw[X];exact e5);have HH:=Hd (HH.o.other (jae.oneSet wr ⟨w.heap.size+1,2,none⟩ (.string y)));have HV:=Hd X;clear Q e5 e4 X;go_wp2_with (refine jaf 110 (.tmp 4) rfl rfl _ _ rfl (jaq _ _ ⟨3,⟨#[]⟩,m,A⟩ a3.o a1.o) ?_)
    refine vH (jjL (inlP _) _ ⟨3,⟨#[]⟩,m,A⟩ HG.o) fun w9 hE=>?_;have h9:=HH.o.ext hE;have q0:w9.cell? ⟨w.heap.size,0,none⟩=some (.string ⟨#[]⟩):=h9.blk.cell (i:=0) vF;have f0:w9.frozen? ⟨w.heap.size,0,none⟩=false:=h9.blk.frozen;have H9:=Hd (h9.setText (jaO ⟨3,⟨#[]⟩,m,A⟩))
    obtain⟨tx,O⟩:=vE (jaO ⟨3,⟨#[]⟩,m,A⟩)
    rw[<-O]at H9 ⊢;have e6:=Hd O;clear h9 O;go_wp2_with fail
    go_ret
    exact⟨w.heap.size,rfl,by rw[HT.o, <-e6.o];exact H9.o.part,H9.o.row.ext⟩
   ·have k6:=jbe (s:=x) vO
    have X:m=⟨#[]⟩:=by rw[a9.o,if_neg hx0]
    rw[<-X]at Q;have a1:=Hd (show Blk wr (w.heap.size+1) (.cells (jad.cells ⟨3,⟨#[]⟩,m,A⟩).toArray 110)from by rw[X]at Q ⊢;exact Q);have HV:=Hd X;clear Q e4 X;go_wp2_with (refine jaf 110 (.tmp 4) rfl rfl _ _ rfl (jaq _ _ ⟨3,⟨#[]⟩,m,A⟩ a3.o a1.o) ?_)
    refine vH (jjL (inlP _) _ ⟨3,⟨#[]⟩,m,A⟩ HG.o) fun w9 hE=>?_;have h9:=HH.o.ext hE;have q0:w9.cell? ⟨w.heap.size,0,none⟩=some (.string ⟨#[]⟩):=h9.blk.cell (i:=0) vF;have f0:w9.frozen? ⟨w.heap.size,0,none⟩=false:=h9.blk.frozen;have H9:=Hd (h9.setText (jaO ⟨3,⟨#[]⟩,m,A⟩))
    obtain⟨tx,O⟩:=vE (jaO ⟨3,⟨#[]⟩,m,A⟩)
    rw[<-O]at H9 ⊢;have e6:=Hd O;clear h9 O;go_wp2_with fail
    go_ret
    exact⟨w.heap.size,rfl,by rw[HT.o, <-e6.o];exact H9.o.part,H9.o.row.ext⟩
theorem jkc:∀ (f:Nat) (l:vL),jax f l->l.length<=1000->jh6 l (jac (f+1) l)
 | f,l,hok,hln=>by
  by_cases h0:l.length=0
  ·exact jpD f l h0
  by_cases h1:l.length=1
  ·exact jrg f l h1 hok
  have e:2<=l.length:=vO
  cases f with
  | zero =>
   exfalso
   obtain⟨a,A⟩:∃ a,l[0]?=some a:=⟨_,bA vO⟩
   obtain⟨b,hb⟩:∃ b,l[1]?=some b:=⟨_,bA vO⟩
   have m:=jb9 hok.rise vO A hb
   have:=(hok.size b (bE hb)).1
   rw[show b.l=[]from bD (by show b.1.size=0;omega)]at m;exact not_lt_nil _ m
  | succ f =>
   by_cases hk:0 < comK l
   ·exact jrf f l e hln hok hk (jkc f _ ((jb8 (comK l) hok (fun p o q E=>((jbk hok e p o).1).trans (jbk hok e q E).1.symm) (fun p o=>(jbk hok e p o).2)).mono vO) (by rw[jaL];exact hln))
   ·exact jlw f l e hln hok hk (fun i _=>jkc f _ (jcU i hok) (by rw[jaL];exact bG (dE _ _) hln))
theorem jl3(b:vU):(b >>> 4).toNat=b.toNat / 16:=by
 have:∀ c:Fin 256,(UInt8.ofNat c.1 >>> 4).toNat=c.1 / 16:=by decide
 have h:=this ⟨b.toNat,b.toNat_lt⟩;simpa using h
theorem jl4(b:vU):(b &&& 15).toNat=b.toNat % 16:=by
 have:∀ c:Fin 256,(UInt8.ofNat c.1 &&& 15).toNat=c.1 % 16:=by decide
 have h:=this ⟨b.toNat,b.toNat_lt⟩;simpa using h
theorem jse:∀ (a b:vN),Lt a b->Lt (jcA a) (jcA b)
 | a,[],h=>absurd h (not_lt_nil _)
 | [],y :: b,_=>rfl
 | x :: a,y :: b,h=>by
  show Lt ((x >>> 4) ::(x &&& 15) :: jcA a) ((y >>> 4) ::(y &&& 15) :: jcA b);have e:=jl3 x;have m:=jl3 y;have o:=jl4 x;have A:=jl4 y;rcases jbw.1 h with h |⟨he,h2⟩
  ·have h:=dA.1 h
   by_cases hh:x.toNat / 16 < y.toNat / 16
   ·exact jbw.2 (.inl (dA.2 vO))
   ·refine jbw.2 (.inr ⟨dM.1 vO,jbw.2 (.inl (dA.2 vO))⟩)
  ·subst he;exact jbw.2 (.inr ⟨rfl,jbw.2 (.inr ⟨rfl,jse a b h2⟩)⟩)
theorem jcS(s:vB):jaz (jbf s)=true:=by
 unfold jaz jbf;rw[fG];intro x e;have e:x∈jcA s.data.toList:=e;unfold jcA at e
 obtain⟨b,_,hb⟩:=fA.1 e
 have o:=jl3 b;have A:=jl4 b;have E:=b.toNat_lt;have m:(15:vU).toNat=15:=rfl;refine decide_eq_true (dS.2 ?_);rcases bX.1 hb with rfl | hb
 ·omega
 ·rw[cG.1 hb];omega
theorem jep(s:vB):(jbf s).size=2 * s.size:=by
 show (jcA s.data.toList).length=2 * s.data.toList.length;unfold jcA;induction s.data.toList with
 | nil=>rfl
 | cons x r ih=>rw[dI,bF,ih,bP,bP,bP,dD];omega
structure jtN(l:vL):Prop where
 size:∀ p∈l,0 < p.1.size/\p.1.size<=6/\0 < p.2.size/\p.2.size<=80
 rise:l.Pairwise fun p q=>Lt p.l q.l
 len:l.length<=40
theorem jdQ:∀ (a b c:vN),Lt a b->Lt b c->Lt a c
 | a,b,[],_,h=>absurd h (not_lt_nil _)
 | a,[],z :: c,h,_=>absurd h (not_lt_nil _)
 | [],y :: b,z :: c,_,_=>rfl
 | x :: a,y :: b,z :: c,h1,h2=>by
  rcases jbw.1 h1 with h |⟨rfl,h⟩
  ·rcases jbw.1 h2 with h' |⟨rfl,h'⟩
   ·exact jbw.2 (.inl (UInt8.lt_trans h h'))
   ·exact jbw.2 (.inl h)
  ·rcases jbw.1 h2 with h' |⟨rfl,h'⟩
   ·exact jbw.2 (.inl h')
   ·exact jbw.2 (.inr ⟨rfl,jdQ a b c h h'⟩)
theorem jaG{l:vL}(h:jaD l=0):jtN l:=by
 unfold jaD at h;split at h
 ·cases h
 rename_i hb
 split at h
 ·cases h
 rename_i hl
 have E:∀ i,i < l.length->badN l i=false:=fun i m=>by
  cases hbi:badN l i with
  | false=>rfl
  | true=>exact absurd (gO.2 ⟨i,dZ.2 m,hbi⟩) hb
 refine⟨fun p Q=>?_,?_,by omega⟩
 ·obtain⟨i,m⟩:=gK Q
  have o:=E i (bO.1 m).1;have X:l.getD i (⟨#[]⟩,⟨#[]⟩)=p:=by rw[bC,m];rfl
  unfold badN at o;rw[X]at o;simp only[gM,Bool.not_eq_false']at o;have A:=o.1.1;have J:=o.1.2;unfold jcg at A;unfold jbR at J;simp only[decide_eq_true_eq]at A J
  exact⟨A.1,A.2,J.1,J.2⟩
 ·have H:∀ i,i+1 < l.length->Lt (l.getD i pd).l (l.getD (i+1) pd).l:=fun i m=>by
   have o:=E (i+1) m;unfold badN at o;simp only[gM,Bool.and_eq_false_iff,Bool.not_eq_false']at o;rcases o.2 with A | A
   ·simp at A
   ·rw[Nat.add_sub_cancel]at A
    have:Op.bytesLess (l.getD i pd).1.toList (l.getD (i+1) pd).1.toList=true:=A
    rw[bL,bL]at this;exact this
  rw[gP];intro i j m Z a0;have e:∀ k (O:k < l.length),l.getD k pd=l[k]:=fun k O=>by rw[bC,bA O];rfl
  have K:∀ d,∀ i,i+d+1 < l.length->Lt (l.getD i pd).l (l.getD (i+d+1) pd).l:=by
   intro d;induction d with
   | zero=>exact fun i m=>H i m
   | succ d ih=>exact fun i m=>jdQ _ _ _ (ih i vO) (H (i+d+1) m)
  have:=K (j - i - 1) i vO
  rw[show i+(j - i - 1)+1=j by omega,e i m,e j Z]at this;exact this
theorem jbx{l:vL}(h:jtN l):jax 12 (jaM l):=by
 refine⟨fun p e=>?_,?_⟩
 ·obtain⟨q,m,rfl⟩:=bI.1 e
  obtain⟨E,H,o,A⟩:=h.size q m
  have J:=jep q.1
  exact⟨by show (jbf q.1).size<=_;omega,by show (jbf q.1).size<=_;omega,jcS _,o,A⟩
 ·unfold jaM
  rw[List.pairwise_map];exact h.rise.imp fun {p q} h=>jse _ _ h
def jaF(l:vL):PT:=jac 13 (jaM l)
end Go.Proofs.YtegloohdmjadoaaGreatDoor
