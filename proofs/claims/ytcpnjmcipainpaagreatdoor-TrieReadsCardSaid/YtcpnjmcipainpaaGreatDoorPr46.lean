/- Lemmas; each is under no condition but those that it states. -/
import Derived.Test.YtcpnjmcipainpaaGreatDoorPr45
namespace Go.Proofs.YtcpnjmcipainpaaGreatDoor
set_option linter.unusedSimpArgs false
set_option linter.unusedVariables false
set_option maxRecDepth 100000
set_option maxHeartbeats 16000000
open Go Go.RowKit
section
attribute [local go_sem] Oper.semAt_some
def valK(l:List Pair)(k:Nat):vB:=if k=0 then ⟨#[]⟩else if (l.getD 0 pd).1.size=0 then (l.getD 0 pd).2 else ⟨#[]⟩
theorem jr1{f:Nat}{l:List Pair}(h:jaA f l){k:Nat}{q:Pair}(hq:l[k]?=some q)(h0:q.1.size=0):valK l (k+1)=q.2:=by
 have hk:k=0:=by
  by_cases hk:k=0
  ·exact hk
  ·exfalso
   have hl:=(List.getElem?_eq_some_iff.1 hq).1;have hp:=jb0 h.rise (i:=0) (j:=k) vO (List.getElem?_eq_getElem vO) hq;have e:q.l=[]:=List.eq_nil_of_length_eq_zero h0;rw[e]at hp;revert hp;cases (l[0]'(by omega)).l <;> simp[Lt] <;> rfl
 subst hk;have e:l.getD 0 pd=q:=by rw[List.getD_eq_getElem?_getD,hq];rfl
 unfold valK;rw[if_neg vO,e,if_pos h0]
theorem jr0{l:List Pair}{k:Nat}{q:Pair}(hq:l[k]?=some q)(h0:q.1.size≠0):valK l (k+1)=valK l k:=by
 unfold valK;rw[if_neg vO]
 by_cases hk:k=0
 ·subst hk
  have e:l.getD 0 pd=q:=by rw[List.getD_eq_getElem?_getD,hq];rfl
  rw[e,if_neg h0,if_pos rfl]
 ·rw[if_neg hk]
def Nc5R(w5:World)(gn:Nat)(va:vB)(rs:List vB)(iv sv:Value)(wr:World):Prop:=∃ k:Nat,k<=16/\iv=.int .i64 k/\Blk wr gn (.cells (jad.cells ⟨3,⟨#[]⟩,va,jdJ rs k⟩).toArray 144)/\jae (fun z=>z=gn) w5 wr
def Nb5R(w4:World)(gn:Nat)(l:List Pair)(iv:Value)(wr:World):Prop:=∃ k:Nat,k<=l.length/\iv=.int .i64 k/\Blk wr gn (.cells (jad.cells ⟨3,⟨#[]⟩,valK l k,jam 16⟩).toArray 144)/\jae (fun z=>z=gn) w4 wr
theorem jla(f:Nat)(l:List Pair)(h2:2<=l.length)(hln:l.length<=1000)(hok:jaA (f+1) l)(hk:¬ 0 < comK l)(hB:∀ i,(cutL i l).length≠0->jfO (jal 1 (cutL i l)) (jav (jac f) (jal 1 (cutL i l)))):jfO l (jav (jac (f+1)) l):=by
 intro w v hv;have HV:=Hd hv;have HO:=Hd hok;have HB:=Hd hB;have hcf:=jjq hok h2;rw[show comK l=0 by omega,show (l.getD 0 pd).1.extract 0 0=⟨#[]⟩from jbt (by rw[jbS];rfl)]at hcf;have HSZ:Hid (∀ p∈l,p.1.size<=1000000):=(fun p hp=>Nat.le_trans (hok.size p hp).2.1 vI)
 obtain⟨rs,hrs⟩:=vE ((List.range 16).map fun i=>if (cutL i l).length=0 then (⟨#[]⟩:vB)else refB (jac (f+1) (jal 1 (cutL i l))).text)
 have hnode:jav (jac (f+1)) l=⟨3,⟨#[]⟩,valK l l.length,rs⟩:=by
  rw[show valK l l.length=if (l.getD 0 pd).1.size=0 then (l.getD 0 pd).2 else ⟨#[]⟩ by unfold valK;rw[if_neg vO]];unfold jav;rw[if_neg vO,if_neg vO,if_neg hk,hrs]
 rw[hnode]
 obtain⟨va,hva⟩:=vE (valK l l.length)
 rw[<-hva];have HVA:=Hd hva;clear hva;have HRL:=Hd (show rs.length=16 by rw[hrs];simp);have HRS:=Hd (show ∀ i,i < 16->rs[i]?=some (if (cutL i l).length=0 then (⟨#[]⟩:vB)else refB (jac (f+1) (jal 1 (cutL i l))).text)from fun i hi=>by rw[hrs,List.getElem?_map,List.getElem?_range hi];rfl);have hco:=fun W (e:Ext w W)=>jmC W v l (hv.ext e) (fun e=>by rw[e]at h2;simp at h2) vO HSZ.o;rw[hcf]at hco;have HCO:=Hd hco;clear hco hcf
 obtain⟨a0,c0,rfl⟩:=hv.sl;have g0:¬(l.length:Int)=0:=by omega
 have g1:¬(l.length:Int)=1:=by omega
 clear hv hok hB hnode hrs hk;go_enter Tryz.func122,Tryz.ntmps122;go_wp2_with (refine jah Tryz.allocNode rfl rfl ?_;intro W1 hB1 hE1)
 have HB1:=Hd hB1;have HE1:=Hd hE1;clear hB1 hE1;refine vC (HCO.o W1 HE1.o) fun w2 hE=>?_;have HE2:=Hd (HE1.o.trans hE);have HB2:=Hd (HB1.o.keeps hE (fun h=>h));clear hE HE1 HB1 HCO;have hpe:(⟨#[]⟩:vB).toList.isEmpty=true:=by rw[ByteArray.toList_eq];rfl
 go_wp2_with (first |(refine jah Tryz.allocNode rfl rfl ?_;intro W3 hB3 hE3) |(refine jag (vs:=jad.cells ⟨3,⟨#[]⟩,⟨#[]⟩,jam 16⟩) rfl rfl rfl rfl hB3 rfl Tryz.szNode (jad.one _) ?_;intro W4 hB4 hE4))
 obtain⟨gr,hgr⟩:=vE w.heap.size
 obtain⟨gn,hgn⟩:=vE w2.heap.size
 have HGN:=Hd (show gr≠gn/\w.heap.size<=gr/\w.heap.size<=gn from by have:=HB2.o.lt;have:=HE2.o.size;omega);have HX4:=Hd ((HE2.o.trans hE3).trans' hE4 (fun x hx e=>by have e:x=w2.heap.size:=e;have:=HE2.o.size;omega));have HR4:=Hd ((HB2.o.keeps hE3 (fun h=>h)).keeps hE4 (by have:=HB2.o.lt;omega));have HN4:=Hd hB4;rw[<-hgr]at HR4 ⊢;rw[<-hgn]at HN4 ⊢;clear hB3 hE3 hB4 hE4 hgr hgn HB2;go_loopw [6] (fun iv wr=>Nb5R W4 gn l iv wr) (fun iv _=>l.length - (intOf iv).toNat)
 case atStart=>exact⟨0,by omega,rfl,HN4.o,jae.refl _ _⟩
 case round =>
  obtain⟨k,hk,rfl,hN,hK⟩:=hrel
  have HN:=Hd hN;have HK:=Hd hK;clear hN hK
  by_cases hlt:k < l.length
  ·have b1:(k:Int) < (l.length:Int):=by omega
   obtain⟨⟨x,y⟩,hq⟩:∃ p,l[k]?=some p:=⟨_,List.getElem?_eq_getElem hlt⟩
   rcases HV.o with⟨_,_,_,h0⟩ |⟨b,o,c1,hh,hb,hc,hcell⟩
   ·rw[h0]at hlt;cases hlt
   cases hh;have hbn:¬ b=gn:=by have:=HGN.o;omega
   obtain⟨q1,q2⟩:=hcell k _ hq
   have q1:=jaw (jaa q1 HX4.o) HK.o hbn;have q2:=jaw (jaa q2 HX4.o) HK.o hbn;have Q2:=Hd q2;have HQ:=Hd hq;clear hcell hq hb hc q2
   by_cases hx:x.size=0
   ·have hxe:x.toList.isEmpty=true:=by rw[ByteArray.toList_eq,List.isEmpty_iff];exact List.eq_nil_of_length_eq_zero hx
    have HVK:=Hd (jr1 HO.o HQ.o hx);have q2:=Q2.o;have k2:=HN.o.cellL (i:=2) (v:=.string (valK l k)) rfl;have f2:wr.frozen? ⟨gn,2,none⟩=false:=HN.o.frozen;clear hx;go_wp2_with fail
    go_roundw
    case rel=>exact⟨k+1,by omega,by go_num,by rw[HVK.o];exact HN.o.set_same (i:=2) (.string y),HK.o.setCell (p:=⟨gn,2,none⟩) (.inl rfl) (.string y)⟩
    case measure=>simp[intOf];omega
   ·have hxe:x.toList.isEmpty=false:=by
     rw[Bool.eq_false_iff];intro e;rw[List.isEmpty_iff,ByteArray.toList_eq]at e;exact hx (by show x.data.toList.length=0;rw[e];rfl)
    have HVK:=Hd (jr0 HQ.o hx);clear hx;go_wp2_with fail
    go_roundw
    case rel=>exact⟨k+1,by omega,by go_num,by rw[HVK.o];exact HN.o,HK.o⟩
    case measure=>simp[intOf];omega
  ·have hkl:k=l.length:=by omega
   subst hkl;have HX5:=Hd (HX4.o.trans' HK.o (fun x hx e=>by have e:x=gn:=e;have:=HGN.o;omega));have HR5:=Hd (HR4.o.keeps HK.o (by have:=HGN.o;omega));rw[<-HVA.o]at HN;clear HX4 HR4 HN4 HK;go_wp2_with fail
   have HVA2:=HVA;go_loopw [7,8] (fun iv sv w2=>Nc5R wr gn va rs iv sv w2) (fun iv _ _=>16 - (intOf iv).toNat)
   case atStart=>exact⟨0,by omega,rfl,HN.o,jae.refl _ _⟩
   case round =>
    obtain⟨i,hi,rfl,hN,hK⟩:=hrel
    have HN2:=Hd hN;have HK2:=Hd hK;clear hN hK
    by_cases hi16:i < 16
    ·have b3:(i:Int) < 16:=by omega
     obtain⟨bi,hbi⟩:∃ bi:UInt8,bi=i.toUInt8:=⟨_,rfl⟩
     have hbn:bi.toNat=i:=by rw[hbi];simp;omega
     have hcv:=jcr wr bi;rw[hbn]at hcv;have HUC:=Hd (jir i vO l);rw[<-hbi]at HUC;have HRI:=Hd (HRS.o i hi16);have HX6:=Hd (HX5.o.trans' HK2.o (fun x hx e=>by have e:x=gn:=e;have:=HGN.o;omega));clear hbi hbn;go_wp2_with fail
     obtain⟨w4,hw4⟩:=vE (wr.alloc (.cells #[.int .u8 (i:Int)] 5))
     have HX34:=Hd (show Ext wr w4 by rw[hw4];exact (ExtR wr).alloc _);rw[<-hw4];clear hcv hw4;refine (jgc w4 _ l ⟨#[bi]⟩ (HV.o.ext (HX6.o.trans HX34.o)) vO HSZ.o (by show 1<=1000000;decide)).mono ?_;rintro e w5 ⟨u,rfl,hU⟩;rw[HUC.o]at hU
     obtain⟨l',hl'⟩:∃ l',l'=jal 1 (cutL i l):=⟨_,rfl⟩
     have HL':=Hd hl';have HLL:=Hd (show l'.length=(cutL i l).length by rw[hl'];unfold jal;rw[List.length_map]);rw[<-hl']at hU HRI
     obtain⟨a5,c5,rfl⟩:=hU.sl
     have HU:=Hd hU;have HX5':=Hd (HX34.o.trans hU.ext);have HN5:=Hd (HN2.o.keeps HX5'.o (fun h=>h));have HK5:=Hd (HK2.o.trans (HX5'.o.mono (fun _ _ h=>h.elim)));clear hU hl'
     by_cases hc0:(cutL i l).length=0
     ·have g5:¬(0:Int) < (l'.length:Int):=by have:=HLL.o;omega
      have hr0:=HRI.o;rw[if_pos hc0]at hr0;have HKN:=Hd (jlw HRL.o hr0);clear hr0 hc0;go_wp2_with fail
      go_roundw
      case rel=>exact⟨i+1,by omega,by go_num,by rw[HKN.o];exact HN5.o,HK5.o⟩
      case measure=>simp[intOf];omega
     ·have g5:(0:Int) < (l'.length:Int):=by have:=HLL.o;omega
      have hr0:=HRI.o;rw[if_neg hc0]at hr0;have hok':jaA f l':=by rw[HL'.o];exact jeb i HO.o
      have hBB:=HB.o i hc0;rw[<-HL'.o]at hBB;have hrf:=jrE f l' hBB hok' w5 _ (ERow.rd HU.o)
      obtain⟨r,hr⟩:=vE (refB (jac (f+1) l').text)
      rw[<-hr]at hrf hr0;have HKS:=Hd (jia HRL.o hr0);have HRF:=Hd hrf;clear hr hr0 hrf hBB hok' hc0;go_wp2_with fail
      refine HRF.o.mono ?_;rintro e w6 ⟨rfl,hE⟩;have hN6:=HN5.o.keeps hE (fun h=>h);have HN6:=Hd hN6;have HK6:=Hd (HK5.o.trans (hE.mono (fun _ _ h=>h.elim)))
      obtain⟨old,k3⟩:∃ old,w6.cell? ⟨gn,3+i,none⟩=some old:=⟨_,HN6.o.cellL (List.getElem?_eq_getElem (by rw[jad.cells_len _ (jgM HRL.o vO)];omega))⟩
      have f3:w6.frozen? ⟨gn,3+i,none⟩=false:=HN6.o.frozen;clear hE hN6;go_wp2_with fail
      have hN8:=HN6.o.set_same (i:=3+i) (.string r);rw[jkF,HKS.o]at hN8
      exact⟨⟨i+1,by omega,by go_num,hN8,HK6.o.setCell (p:=⟨gn,3+i,none⟩) (.inl rfl) (.string r)⟩,by simp[intOf];omega⟩
    ·have hi':i=16:=by omega
     subst hi';have hN:=HN2.o;rw[jlv HRL.o]at hN;have b3:¬((16:Nat):Int) < 16:=by omega
     have hR8:=HR5.o.keeps HK2.o (by have:=HGN.o;omega);have HX8:=Hd (HX5.o.trans' HK2.o (fun x hx e=>by have e:x=gn:=e;have:=HGN.o;omega));have hld:=jan _ gn ⟨3,⟨#[]⟩,va,rs⟩ HRL.o hN;have HLN:=Hd (jad.cells_len ⟨3,⟨#[]⟩,va,rs⟩ HRL.o);unfold jad.V at hld;clear hN hi16;go_wp2_with (first |(refine jaf 144 (.tmp 5) rfl rfl _ _ rfl hld ?_) |(refine jag (vs:=jad.cells ⟨3,⟨#[]⟩,va,rs⟩) rfl rfl rfl rfl hR8 (by rw[HLN.o];rfl) (by rw[HLN.o];exact Tryz.szNode) (jad.one _) ?_;intro W12 hB12 hE12))
     refine bodyPost_ret (jbE rfl rfl (jap W12 _ ⟨3,⟨#[]⟩,va,rs⟩ HRL.o hB12)) rfl ?_;have hz:=HGN.o
     exact⟨rfl,HX8.o.trans' hE12 (fun x hx e=>by have e:x=gr:=e;omega)⟩
theorem jlB{l:List Pair}(h:jaA 0 l):l.length<=1:=by
 rcases l with _ |⟨a,_ |⟨b,r⟩⟩
 ·simp
 ·simp
 ·exfalso
  have h1:=jb0 h.rise (i:=0) (j:=1) vO rfl rfl;have eb:b.l=[]:=List.eq_nil_of_length_eq_zero (by have:=(h.size b (by simp)).1;show b.1.size=0;omega);rw[eb]at h1;exact absurd h1 (not_lt_nil _)
theorem jaA.up{f g:Nat}{l:List Pair}(h:jaA f l)(hg:f<=g):jaA g l:=⟨fun p hp=>⟨Nat.le_trans (h.size p hp).1 hg,(h.size p hp).2⟩,h.rise⟩
theorem jsL{f:Nat}{l:List Pair}(h:jaA (f+1) l)(h2:2<=l.length)(hk:0 < comK l):jaA f (jal (comK l) l):=by
 have hall:=jbu h h2;exact (jcv (comK l) h (fun p hp q hq=>(hall p hp).1.trans (hall q hq).1.symm) (fun p hp=>(hall p hp).2)).up vO
theorem jqX:∀ (f:Nat) (l:List Pair),jaA f l->l.length<=1000->jfO l (jav (jac f) l)
 | f,[],_,_=>joL _
 | f,[(x,y)],_,_=>jqZ _ x y
 | 0,a :: b :: r,h,_=>absurd (jlB h) (by simp)
 | f+1,a :: b :: r,h,hl=>by
  have h2:2<=(a :: b :: r).length:=by simp
  by_cases hk:0 < comK (a :: b :: r)
  ·have k1:=jsL h h2 hk
   exact jqY f _ h2 hl h hk (jqX f _ k1 (by unfold jal;rw[List.length_map];exact hl)) k1
  ·refine jla f _ h2 hl h hk (fun i hc=>?_)
   have k1:jaA f _:=jeb i h;exact jqX f _ k1 (by unfold jal;rw[List.length_map];exact Nat.le_trans (List.length_filter_le _ _) hl)
end
theorem jju(d:Nat)(l:List Pair):(jal d l).length=l.length:=by unfold jal;rw[List.length_map]
end Go.Proofs.YtcpnjmcipainpaaGreatDoor
