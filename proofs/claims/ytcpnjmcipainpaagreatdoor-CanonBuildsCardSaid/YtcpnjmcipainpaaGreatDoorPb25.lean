/- Parts of the proof, one behind the other: RefSd, RefSe, RefSf, RefSg, RefSh, RefSi. Each is under no condition but those that it states. -/
import Derived.Test.YtcpnjmcipainpaaGreatDoorPb24
import Derived.Test.YtcpnjmcipainpaaGreatDoorPb13
import Derived.Test.YtcpnjmcipainpaaGreatDoorPb22
import Derived.Test.YtcpnjmcipainpaaGreatDoorPb20
import Derived.Test.YtcpnjmcipainpaaGreatDoorPb23
namespace Go.Proofs.YtcpnjmcipainpaaGreatDoor
set_option linter.unusedSimpArgs false
set_option linter.unusedVariables false
set_option maxRecDepth 100000
set_option maxHeartbeats 16000000
section
open Go Go.RowKit
attribute [local go_sem] Oper.semAt_some
theorem jjA(h:ByteArray){l:List Pair}{k:Nat}{q:Pair}(hq:l[k]?=some q):comF (l.take (k+1)) h=(comF (l.take k) h).extract 0 (jaQ (comF (l.take k) h) q.1):=by
 unfold comF;rw[List.take_add_one,hq,Option.toList_some,List.foldl_append];rfl
theorem jgB:∀ (l:List Pair) (h:ByteArray),(comF l h).size≤h.size
 | [],h=>Nat.le_refl _
 | q :: l,h=>Nat.le_trans (jgB l _) (by rw[ByteArray.size_extract];omega)
def Co5R(w:World)(h:ByteArray)(l:List Pair)(v iv:Value)(wr:World):Prop:=∃ k:Nat,k≤l.length∧v=.string (comF (l.take k) h)∧iv=.int .i64 k∧Ext w wr
theorem jgb(w:World)(v:Value)(l:List Pair)(hv:RdP w v l)(hl:l≠[])(hn:l.length≤1000000)(hs:∀ p∈l,p.1.size≤1000000) :
  Calls Tryz.prog 76 #[v] w fun e w'=>e=.returned (.string (comF l (l.getD 0 pd).1))∧Ext w w':=by
 have HS:=Hd hs;have hpos:0 < l.length:=List.length_pos_iff.2 hl
 obtain⟨⟨x0,y0⟩,hq0⟩:∃ p,l[0]?=some p:=⟨_,List.getElem?_eq_getElem hpos⟩
 have hx0:(l.getD 0 pd).1=x0:=by rw[List.getD_eq_getElem?_getD,hq0];rfl
 rw[hx0];rcases hv with⟨_,_,_,h0⟩ |⟨b,o,c1,rfl,hb,hc,hcell⟩
 ·rw[h0]at hpos;cases hpos
 have q0:=(hcell 0 _ hq0).1;rw[Nat.zero_mul,Nat.add_zero]at q0;have HX0:=Hd (HS.o _ (List.mem_of_getElem? hq0));have HCL:=Hd hcell;have b0:(0:Int) < (l.length:Int):=by omega
 clear hs hcell hq0 hx0;go_enter Tryz.func76,Tryz.ntmps76;go_wp2_with fail
 go_loopw [3,4] (fun v iv wr=>Co5R w x0 l v iv wr) (fun _ iv _=>l.length - (intOf iv).toNat)
 case atStart=>exact⟨0,by omega,rfl,rfl,ExtR w⟩
 case round =>
  obtain⟨k,hk,rfl,rfl,hE⟩:=hrel
  have HE:=Hd hE
  obtain⟨p,hp⟩:∃ p,p=comF (l.take k) x0:=⟨_,rfl⟩
  have HP:=Hd hp;rw[←hp];have HPS:=Hd (show p.size≤1000000 by rw[hp];exact Nat.le_trans (jgB _ _) HX0.o);clear hE hp
  by_cases hlt:k < l.length
  ·have b1:(k:Int) < (l.length:Int):=by omega
   obtain⟨⟨x,y⟩,hq⟩:∃ p,l[k]?=some p:=⟨_,List.getElem?_eq_getElem hlt⟩
   have q1:=jab (HCL.o k _ hq).1 HE.o;have HXS:=Hd (HS.o _ (List.mem_of_getElem? hq));have HST:=Hd (jjA x0 hq);rw[←HP.o]at HST;clear hq;go_wp2_with fail
   refine (jkk p.size wr p x (Nat.le_refl _) HPS.o HXS.o).mono ?_;rintro e w1 ⟨rfl,hE⟩
   obtain⟨cm,hcm⟩:∃ cm,cm=jaQ p x:=⟨_,rfl⟩
   have hcl:cm≤p.size:=by rw[hcm];exact jd4 _ _
   have HE1:=Hd (HE.o.trans hE);rw[←hcm]at HST ⊢;clear hE hcm;have c0:(cm:Int)≤(p.size:Int):=by omega
   go_wp2_with fail
   go_roundw
   case rel=>exact⟨k+1,by omega,by rw[HST.o],by go_num,HE1.o⟩
   case measure=>simp[intOf];omega
  ·have hkn:k=l.length:=by omega
   have HF:=Hd (show p=comF l x0 by rw[HP.o,hkn,List.take_of_length_le (Nat.le_refl _)]);go_wp2_with fail
   go_ret
   exact⟨by rw[HF.o];rfl,HE.o⟩
def jdD(l:List Pair)(n:jae):Prop:=∀ w v,RdP w v l→Calls Tryz.prog 122 #[v] w fun e w'=>e=.returned n.V∧Ext w w'
theorem jc2(f:Nat)(l:List Pair)(hN:jdD l (ja1 (jaf f) l))(h:jaT f l)(w:World)(v:Value)(hv:RdP w v l) :
  Calls Tryz.prog 75 #[v] w fun e w'=>e=.returned (.string (jaf (f+1) l).text)∧Ext w w':=by
 have HG:=Hd (good f l h).1;have HV:=Hd hv;have HN:=Hd hN
 obtain⟨n,hn⟩:∃ n,n=ja1 (jaf f) l:=⟨_,rfl⟩
 rw[show (jaf (f+1) l).text=jaV (ja1 (jaf f) l)from rfl];rw[←hn]at HG HN ⊢
 obtain⟨a0,c0,hsl⟩:=hv.sl
 subst hsl;clear hv hN hn h;go_enter Tryz.func75,Tryz.ntmps75;go_wp2_with fail
 refine (HN.o w _ HV.o).mono ?_;rintro e w1 ⟨rfl,hE⟩;have HE:=Hd hE;clear hE;go_wp2_with fail
 refine (je9 (inlP f) (inlR f) w1 n HG.o).mono ?_;rintro e w2 ⟨rfl,hE⟩;have HE2:=Hd (HE.o.trans hE);clear hE;go_wp2_with fail
 go_ret
 exact⟨rfl,HE2.o⟩
theorem jkv(f:Nat)(l:List Pair)(hN:jdD l (ja1 (jaf f) l))(h:jaT f l)(w:World)(v:Value)(hv:RdP w v l) :
  Calls Tryz.prog 169 #[v] w fun e w'=>e=.returned (.string (refB (jaf (f+1) l).text))∧Ext w w':=by
 have HB:=Hd (jc2 f l hN h w v hv);have HSZ:=Hd (show (jaf (f+1) l).text.size≤1000000 from Nat.le_trans (jee (ja1 (jaf f) l) ((good f l h).1.one (inlP f))) (by decide))
 obtain⟨t,ht⟩:∃ t,t=(jaf (f+1) l).text:=⟨_,rfl⟩
 rw[←ht]at HB HSZ ⊢
 obtain⟨a0,c0,hsl⟩:=hv.sl
 subst hsl;clear hv hN ht h;go_enter Tryz.func169,Tryz.ntmps169;go_wp2_with fail
 refine HB.o.mono ?_;rintro e w1 ⟨rfl,hE⟩;have HE:=Hd hE;clear hE;go_wp2_with fail
 refine (jm7 w1 t HSZ.o).mono ?_;rintro e w2 ⟨rfl,hE⟩;have HE2:=Hd (HE.o.trans hE);clear hE;go_wp2_with fail
 go_ret
 exact⟨rfl,HE2.o⟩
theorem jiR(B:List Pair→PT):jdD [] (ja1 B []):=by
 intro w v hv
 obtain⟨a0,c0,hsl⟩:=hv.sl
 subst hsl;clear hv;go_enter Tryz.func122,Tryz.ntmps122;go_wp2_with (first |(refine jap Tryz.allocNode rfl rfl ?_;intro W1 hB1 hE1) |(refine jal (vs:=jaL.cells) rfl rfl rfl rfl hB1 rfl Tryz.szNode jaL.one ?_;intro W2 hB2 hE2))
 refine bodyPost_ret (jbX rfl rfl (jax W2 _ jaL rfl hB2)) rfl ?_
 exact⟨rfl,hE1.trans' hE2 (fun x hx e=>by have e:x=w.heap.size:=e;omega)⟩
theorem jj7(B:List Pair→PT)(x y:ByteArray):jdD [(x,y)] (ja1 B [(x,y)]):=by
 intro w v hv;rcases hv with⟨_,_,_,h0⟩ |⟨b,o,c1,rfl,hb,hc,hcell⟩
 ·cases h0
 obtain⟨q1,q2⟩:=hcell 0 (x,y) rfl
 rw[Nat.zero_mul,Nat.add_zero]at q1;rw[Nat.zero_mul,Nat.add_zero]at q2;have Q1:=Hd q1;have Q2:=Hd q2;rw[show List.length [(x,y)]=1 from rfl]at *;rw[show ja1 B [(x,y)]=⟨1,x,y,jat 16⟩from rfl];have NB:=Hd (show ¬(b=w.heap.size)from by omega);clear hcell q1 q2 hc hb;go_enter Tryz.func122,Tryz.ntmps122;go_wp2_with (refine jap Tryz.allocNode rfl rfl ?_;intro W1 hB1 hE1)
 have HB1:=Hd hB1;have HE1:=Hd hE1;clear hB1 hE1;refine jaG [0,1,2,3,4,5,6,7,8,9] [9] Ext (jah (fun z=>z=w.heap.size)) ExtR ExtT (fun x y z h k=>jah.trans h k) (fun x y h=>h.mono (fun _ _ h=>h.elim)) (by kernel_rfl) (by kernel_rfl) (by kernel_rfl) ?_;iterate 3 (refine jao _ rfl (by kernel_rfl) rfl rfl (fun K hK=>?_);go_big_quiet_op;refine hK _ ?_;clear hK K)
 refine jaP ⟨b,o,none⟩ _ rfl (by kernel_rfl) rfl rfl (fun w1 h1=>jaa Tryz.uStr rfl (jaw (jab (jab Q1.o HE1.o) (jaj W1)) h1 NB.o)) ?_;simp only[Act.put,sA,sB,sC];iterate 3 (refine jao _ rfl (by kernel_rfl) rfl rfl (fun K hK=>?_);go_big_quiet_op;refine hK _ ?_;clear hK K)
 refine jaP ⟨b,o+1,none⟩ _ rfl (by kernel_rfl) rfl rfl (fun w1 h1=>jaa Tryz.uStr rfl (jaw (jab (jab Q2.o HE1.o) (jaj W1)) h1 NB.o)) ?_;simp only[Act.put,sA,sB,sC]
 (refine jao _ rfl (by kernel_rfl) rfl rfl (fun K hK=>?_);go_big_quiet_op;refine hK _ ?_;clear hK K)
 refine jaK _ rfl (by kernel_rfl) rfl (fun w2 he K hK=>?_);refine jhP (vs:=jae.cells ⟨1,x,y,jat 16⟩) rfl rfl rfl ((HB1.o.keeps (jaj W1) (fun h=>h)).keeps he (fun h=>h)) rfl Tryz.szNode (jae.one _) ?_;intro W3 hB3 hE3;have HE3:=Hd (((HE1.o.trans (jaj W1)).trans he).trans' hE3 (fun x hx e=>by have e:x=w.heap.size:=e;omega));have HB3:=Hd hB3;refine hK _ _ hE3 ?_;clear hK K he hB3 hE3;refine jbt (by kernel_rfl) (fun w4 he=>?_);have HB4:=Hd (HB3.o.keeps he (fun h=>h));have HE4:=Hd (HE3.o.trans he);clear he;go_wp2_with fail
 refine bodyPost_ret (jbX rfl rfl (jax w4 _ (jae.mk 1 x y (jat 16)) rfl HB4.o)) rfl ?_
 exact⟨rfl,HE4.o⟩
theorem jj6(f:Nat)(l:List Pair)(h2:2≤l.length)(hln:l.length≤1000)(hok:jaT (f+1) l)(hk:0 < comK l)(hB:jdD (jaC (comK l) l) (ja1 (jaf f) (jaC (comK l) l)))(hok':jaT f (jaC (comK l) l)):jdD l (ja1 (jaf (f+1)) l):=by
 intro w v hv;have HV:=Hd hv;have HO:=Hd hok;have HO':=Hd hok';have HB:=Hd hB;have HCF:=Hd (jet hok h2);have HUN:=Hd (jhd hok h2);have hall:=jbJ hok h2;have HSZ:=Hd (show ∀ p∈l,p.1.size≤1000000 from fun p hp=>Nat.le_trans (hok.size p hp).2.1 (by decide));have hps:((l.getD 0 pd).1.extract 0 (comK l)).size=comK l:=by
  have hm0:l.getD 0 pd∈l:=by
   rw[List.getD_eq_getElem?_getD,List.getElem?_eq_getElem (by omega)];exact List.getElem_mem _
  rw[ByteArray.size_extract];have:=(hall _ hm0).2;omega
 have hk12:comK l≤12:=by
  have hm0:l.getD 0 pd∈l:=by
   rw[List.getD_eq_getElem?_getD,List.getElem?_eq_getElem (by omega)];exact List.getElem_mem _
  exact Nat.le_trans (hall _ hm0).2 (hok.size _ hm0).2.1
 have hnode:ja1 (jaf (f+1)) l=⟨2,(l.getD 0 pd).1.extract 0 (comK l),⟨#[]⟩,refB (jaf (f+1) (jaC (comK l) l)).text :: jat 15⟩:=by
  unfold ja1;rw[if_neg (by omega),if_neg (by omega),if_pos hk]
 rw[hnode]
 obtain⟨p,hp⟩:∃ p,p=(l.getD 0 pd).1.extract 0 (comK l):=⟨_,rfl⟩
 rw[←hp]at HCF HUN hps ⊢
 obtain⟨r,hr⟩:∃ r,r=refB (jaf (f+1) (jaC (comK l) l)).text:=⟨_,rfl⟩
 have HR:=Hd (jkv f _ hB hok');rw[←hr]at HR ⊢;have HPZ:=Hd (show 0 < p.size∧p.size≤12 by omega);have hco:=fun W (e:Ext w W)=>jgb W v l (hv.ext e) (fun e=>by rw[e]at h2;simp at h2) (by omega) HSZ.o;rw[HCF.o]at hco;have HCO:=Hd hco;clear hco
 obtain⟨a0,c0,hsl⟩:=hv.sl
 subst hsl;have g0:¬(l.length:Int)=0:=by omega
 have g1:¬(l.length:Int)=1:=by omega
 clear hv hok hok' hB hall hps hk12 hnode hp hr hk;go_enter Tryz.func122,Tryz.ntmps122;go_wp2_with (refine jap Tryz.allocNode rfl rfl ?_;intro W1 hB1 hE1)
 have HB1:=Hd hB1;have HE1:=Hd hE1;clear hB1 hE1;refine (HCO.o W1 HE1.o).mono ?_;rintro e w2 ⟨rfl,hE⟩;have HE2:=Hd (HE1.o.trans hE);have HB2:=Hd (HB1.o.keeps hE (fun h=>h));clear hE HE1 HB1 HCO;have hpe:p.toList.isEmpty=false:=by
  rw[ByteArray.toList_eq];cases h:p.data.toList with
  | nil=>have:=HPZ.o.1;have e:p.data.toList.length=p.size:=rfl;rw[h]at e;simp at e;omega
  | cons=>rfl
 go_wp2_with (first |(refine jap Tryz.allocNode rfl rfl ?_;intro W3 hB3 hE3) |(refine jal (vs:=jae.cells ⟨2,p,⟨#[]⟩,jat 16⟩) rfl rfl rfl rfl hB3 rfl Tryz.szNode (jae.one _) ?_;intro W4 hB4 hE4))
 obtain⟨gr,hgr⟩:∃ gr,gr=w.heap.size:=⟨_,rfl⟩
 obtain⟨gn,hgn⟩:∃ gn,gn=w2.heap.size:=⟨_,rfl⟩
 have HGN:=Hd (show gr≠gn∧w.heap.size≤gr∧w.heap.size≤gn from by have:=HB2.o.lt;have:=HE2.o.size;omega);have HX4:=Hd ((HE2.o.trans hE3).trans' hE4 (fun x hx e=>by have e:x=w2.heap.size:=e;have:=HE2.o.size;omega));have HR4:=Hd ((HB2.o.keeps hE3 (fun h=>h)).keeps hE4 (by have:=HB2.o.lt;omega));have HN4:=Hd hB4;rw[←hgr]at HR4 ⊢;rw[←hgn]at HN4 ⊢;clear hB3 hE3 hB4 hE4 hgr hgn HB2;refine (jeD W4 _ l p (HV.o.ext HX4.o) (by omega) HSZ.o (by have:=HPZ.o.2;omega)).mono ?_;rintro e w5 ⟨u,rfl,hU⟩;rw[HUN.o]at hU
 obtain⟨a5,c5,rfl⟩:=hU.sl
 have HU:=Hd hU;clear hU;go_wp2_with fail
 refine (HR.o w5 _ (ERow.rd HU.o)).mono ?_;rintro e w6 ⟨rfl,hE⟩;have HE6:=Hd (HU.o.ext.trans hE);have HN6:=Hd (HN4.o.keeps HE6.o (fun h=>h));have HR6:=Hd (HR4.o.keeps HE6.o (fun h=>h));clear hE;have k3:=HN6.o.cellL (i:=3) (v:=.string ⟨#[]⟩) rfl;have f3:w6.frozen? ⟨gn,3,none⟩=false:=HN6.o.frozen;have hN7:Blk (w6.setCell ⟨gn,3,none⟩ (.string r)) gn (.cells (jae.cells ⟨2,p,⟨#[]⟩,r :: jat 15⟩).toArray 144):=HN6.o.set_same (i:=3) (.string r);have HK7:=Hd ((jah.refl (fun z=>z=gn) w6).setCell (p:=⟨gn,3,none⟩) (.inl rfl) (.string r));have hR7:=HR6.o.keeps HK7.o HGN.o.1;have hld:=jar _ gn ⟨2,p,⟨#[]⟩,r :: jat 15⟩ rfl hN7;unfold jae.V at hld;clear hN7;go_wp2_with (first |(refine jag 144 (.tmp 4) rfl rfl _ _ rfl hld ?_) |(refine jal (vs:=jae.cells ⟨2,p,⟨#[]⟩,r :: jat 15⟩) rfl rfl rfl rfl hR7 rfl Tryz.szNode (jae.one _) ?_;intro W12 hB12 hE12))
 refine bodyPost_ret (jbX rfl rfl (jax W12 _ ⟨2,p,⟨#[]⟩,r :: jat 15⟩ rfl hB12)) rfl ?_;have hz:=HGN.o
 exact⟨rfl,((HX4.o.trans HE6.o).trans' HK7.o (fun x hx e=>by have e:x=gn:=e;omega)).trans' hE12 (fun x hx e=>by have e:x=gr:=e;omega)⟩
def valK(l:List Pair)(k:Nat):ByteArray:=if k=0 then ⟨#[]⟩else if (l.getD 0 pd).1.size=0 then (l.getD 0 pd).2 else ⟨#[]⟩
theorem jkL{f:Nat}{l:List Pair}(h:jaT f l){k:Nat}{q:Pair}(hq:l[k]?=some q)(h0:q.1.size=0):valK l (k+1)=q.2:=by
 have hk:k=0:=by
  by_cases hk:k=0
  ·exact hk
  ·exfalso
   have hl:=(List.getElem?_eq_some_iff.1 hq).1;have hp:=jcI h.rise (i:=0) (j:=k) (by omega) (List.getElem?_eq_getElem (by omega)) hq;have e:q.l=[]:=List.eq_nil_of_length_eq_zero h0;rw[e]at hp;revert hp;cases (l[0]'(by omega)).l <;> simp[Lt] <;> rfl
 subst hk;have e:l.getD 0 pd=q:=by rw[List.getD_eq_getElem?_getD,hq];rfl
 unfold valK;rw[if_neg (by omega),e,if_pos h0]
theorem jkK{l:List Pair}{k:Nat}{q:Pair}(hq:l[k]?=some q)(h0:q.1.size≠0):valK l (k+1)=valK l k:=by
 unfold valK;rw[if_neg (by omega)]
 by_cases hk:k=0
 ·subst hk
  have e:l.getD 0 pd=q:=by rw[List.getD_eq_getElem?_getD,hq];rfl
  rw[e,if_neg h0,if_pos rfl]
 ·rw[if_neg hk]
def Nc5R(w5:World)(gn:Nat)(va:ByteArray)(rs:List ByteArray)(iv sv:Value)(wr:World):Prop:=∃ k:Nat,k≤16∧iv=.int .i64 k∧Blk wr gn (.cells (jae.cells ⟨3,⟨#[]⟩,va,jcp rs k⟩).toArray 144)∧jah (fun z=>z=gn) w5 wr
def Nb5R(w4:World)(gn:Nat)(l:List Pair)(iv:Value)(wr:World):Prop:=∃ k:Nat,k≤l.length∧iv=.int .i64 k∧Blk wr gn (.cells (jae.cells ⟨3,⟨#[]⟩,valK l k,jat 16⟩).toArray 144)∧jah (fun z=>z=gn) w4 wr
theorem jgQ(f:Nat)(l:List Pair)(h2:2≤l.length)(hln:l.length≤1000)(hok:jaT (f+1) l)(hk:¬ 0 < comK l)(hB:∀ i,(cutL i l).length≠0→jdD (jaC 1 (cutL i l)) (ja1 (jaf f) (jaC 1 (cutL i l)))):jdD l (ja1 (jaf (f+1)) l):=by
 intro w v hv;have HV:=Hd hv;have HO:=Hd hok;have HB:=Hd hB;have hcf:=jet hok h2;rw[show comK l=0 by omega,show (l.getD 0 pd).1.extract 0 0=⟨#[]⟩from jdj (by rw[jbE];rfl)]at hcf;have HSZ:=Hd (show ∀ p∈l,p.1.size≤1000000 from fun p hp=>Nat.le_trans (hok.size p hp).2.1 (by decide))
 obtain⟨rs,hrs⟩:∃ rs,rs=(List.range 16).map fun i=>if (cutL i l).length=0 then (⟨#[]⟩:ByteArray)else refB (jaf (f+1) (jaC 1 (cutL i l))).text:=⟨_,rfl⟩
 have hnode:ja1 (jaf (f+1)) l=⟨3,⟨#[]⟩,valK l l.length,rs⟩:=by
  rw[show valK l l.length=if (l.getD 0 pd).1.size=0 then (l.getD 0 pd).2 else ⟨#[]⟩ by unfold valK;rw[if_neg (by omega)]];unfold ja1;rw[if_neg (by omega),if_neg (by omega),if_neg hk,hrs]
 rw[hnode]
 obtain⟨va,hva⟩:∃ va,va=valK l l.length:=⟨_,rfl⟩
 rw[←hva];have HVA:=Hd hva;clear hva;have HRL:=Hd (show rs.length=16 by rw[hrs];simp);have HRS:=Hd (show ∀ i,i < 16→rs[i]?=some (if (cutL i l).length=0 then (⟨#[]⟩:ByteArray)else refB (jaf (f+1) (jaC 1 (cutL i l))).text)from fun i hi=>by rw[hrs,List.getElem?_map,List.getElem?_range hi];rfl);have hco:=fun W (e:Ext w W)=>jgb W v l (hv.ext e) (fun e=>by rw[e]at h2;simp at h2) (by omega) HSZ.o;rw[hcf]at hco;have HCO:=Hd hco;clear hco hcf
 obtain⟨a0,c0,hsl⟩:=hv.sl
 subst hsl;have g0:¬(l.length:Int)=0:=by omega
 have g1:¬(l.length:Int)=1:=by omega
 clear hv hok hB hnode hrs hk;go_enter Tryz.func122,Tryz.ntmps122;go_wp2_with (refine jap Tryz.allocNode rfl rfl ?_;intro W1 hB1 hE1)
 have HB1:=Hd hB1;have HE1:=Hd hE1;clear hB1 hE1;refine (HCO.o W1 HE1.o).mono ?_;rintro e w2 ⟨rfl,hE⟩;have HE2:=Hd (HE1.o.trans hE);have HB2:=Hd (HB1.o.keeps hE (fun h=>h));clear hE HE1 HB1 HCO;have hpe:(⟨#[]⟩:ByteArray).toList.isEmpty=true:=by rw[ByteArray.toList_eq];rfl
 go_wp2_with (first |(refine jap Tryz.allocNode rfl rfl ?_;intro W3 hB3 hE3) |(refine jal (vs:=jae.cells ⟨3,⟨#[]⟩,⟨#[]⟩,jat 16⟩) rfl rfl rfl rfl hB3 rfl Tryz.szNode (jae.one _) ?_;intro W4 hB4 hE4))
 obtain⟨gr,hgr⟩:∃ gr,gr=w.heap.size:=⟨_,rfl⟩
 obtain⟨gn,hgn⟩:∃ gn,gn=w2.heap.size:=⟨_,rfl⟩
 have HGN:=Hd (show gr≠gn∧w.heap.size≤gr∧w.heap.size≤gn from by have:=HB2.o.lt;have:=HE2.o.size;omega);have HX4:=Hd ((HE2.o.trans hE3).trans' hE4 (fun x hx e=>by have e:x=w2.heap.size:=e;have:=HE2.o.size;omega));have HR4:=Hd ((HB2.o.keeps hE3 (fun h=>h)).keeps hE4 (by have:=HB2.o.lt;omega));have HN4:=Hd hB4;rw[←hgr]at HR4 ⊢;rw[←hgn]at HN4 ⊢;clear hB3 hE3 hB4 hE4 hgr hgn HB2;go_loopw [6] (fun iv wr=>Nb5R W4 gn l iv wr) (fun iv _=>l.length - (intOf iv).toNat)
 case atStart=>exact⟨0,by omega,rfl,HN4.o,jah.refl _ _⟩
 case round =>
  obtain⟨k,hk,rfl,hN,hK⟩:=hrel
  have HN:=Hd hN;have HK:=Hd hK;clear hN hK
  by_cases hlt:k < l.length
  ·have b1:(k:Int) < (l.length:Int):=by omega
   obtain⟨⟨x,y⟩,hq⟩:∃ p,l[k]?=some p:=⟨_,List.getElem?_eq_getElem hlt⟩
   rcases HV.o with⟨_,_,_,h0⟩ |⟨b,o,c1,hh,hb,hc,hcell⟩
   ·rw[h0]at hlt;cases hlt
   cases hh;have hbn:¬ b=gn:=by have:=HGN.o;omega
   obtain⟨q1,q2⟩:=hcell k _ hq
   have q1:=jaw (jab q1 HX4.o) HK.o hbn;have q2:=jaw (jab q2 HX4.o) HK.o hbn;have Q2:=Hd q2;have HQ:=Hd hq;clear hcell hq hb hc q2
   by_cases hx:x.size=0
   ·have hxe:x.toList.isEmpty=true:=by rw[ByteArray.toList_eq,List.isEmpty_iff];exact List.eq_nil_of_length_eq_zero hx
    have HVK:=Hd (jkL HO.o HQ.o hx);have q2:=Q2.o;have k2:=HN.o.cellL (i:=2) (v:=.string (valK l k)) rfl;have f2:wr.frozen? ⟨gn,2,none⟩=false:=HN.o.frozen;clear hx;go_wp2_with fail
    go_roundw
    case rel=>exact⟨k+1,by omega,by go_num,by rw[HVK.o];exact HN.o.set_same (i:=2) (.string y),HK.o.setCell (p:=⟨gn,2,none⟩) (.inl rfl) (.string y)⟩
    case measure=>simp[intOf];omega
   ·have hxe:x.toList.isEmpty=false:=by
     rw[Bool.eq_false_iff];intro e;rw[List.isEmpty_iff,ByteArray.toList_eq]at e;exact hx (by show x.data.toList.length=0;rw[e];rfl)
    have HVK:=Hd (jkK HQ.o hx);clear hx;go_wp2_with fail
    go_roundw
    case rel=>exact⟨k+1,by omega,by go_num,by rw[HVK.o];exact HN.o,HK.o⟩
    case measure=>simp[intOf];omega
  ·have hkl:k=l.length:=by omega
   subst hkl;have HX5:=Hd (HX4.o.trans' HK.o (fun x hx e=>by have e:x=gn:=e;have:=HGN.o;omega));have HR5:=Hd (HR4.o.keeps HK.o (by have:=HGN.o;omega));rw[←HVA.o]at HN;clear HX4 HR4 HN4 HK;go_wp2_with fail
   have HVA2:=HVA;go_loopw [7,8] (fun iv sv w2=>Nc5R wr gn va rs iv sv w2) (fun iv _ _=>16 - (intOf iv).toNat)
   case atStart=>exact⟨0,by omega,rfl,HN.o,jah.refl _ _⟩
   case round =>
    obtain⟨i,hi,rfl,hN,hK⟩:=hrel
    have HN2:=Hd hN;have HK2:=Hd hK;clear hN hK
    by_cases hi16:i < 16
    ·have b3:(i:Int) < 16:=by omega
     obtain⟨bi,hbi⟩:∃ bi:UInt8,bi=i.toUInt8:=⟨_,rfl⟩
     have hbn:bi.toNat=i:=by rw[hbi];simp;omega
     have hcv:=jbo wr bi;rw[hbn]at hcv;have HUC:=Hd (jhe i (by omega) l);rw[←hbi]at HUC;have HRI:=Hd (HRS.o i hi16);have HX6:=Hd (HX5.o.trans' HK2.o (fun x hx e=>by have e:x=gn:=e;have:=HGN.o;omega));clear hbi hbn;go_wp2_with fail
     obtain⟨w4,hw4⟩:∃ w4,w4=wr.alloc (.cells #[.int .u8 (i:Int)] 5):=⟨_,rfl⟩
     have HX34:=Hd (show Ext wr w4 by rw[hw4];exact (ExtR wr).alloc _);rw[←hw4];clear hcv hw4;refine (jeD w4 _ l ⟨#[bi]⟩ (HV.o.ext (HX6.o.trans HX34.o)) (by omega) HSZ.o (by show 1≤1000000;decide)).mono ?_;rintro e w5 ⟨u,rfl,hU⟩;rw[HUC.o]at hU
     obtain⟨l',hl'⟩:∃ l',l'=jaC 1 (cutL i l):=⟨_,rfl⟩
     have HL':=Hd hl';have HLL:=Hd (show l'.length=(cutL i l).length by rw[hl'];unfold jaC;rw[List.length_map]);rw[←hl']at hU HRI
     obtain⟨a5,c5,rfl⟩:=hU.sl
     have HU:=Hd hU;have HX5':=Hd (HX34.o.trans hU.ext);have HN5:=Hd (HN2.o.keeps HX5'.o (fun h=>h));have HK5:=Hd (HK2.o.trans (HX5'.o.mono (fun _ _ h=>h.elim)));clear hU hl'
     by_cases hc0:(cutL i l).length=0
     ·have g5:¬(0:Int) < (l'.length:Int):=by have:=HLL.o;omega
      have hr0:=HRI.o;rw[if_pos hc0]at hr0;have HKN:=Hd (jg1 HRL.o hr0);clear hr0 hc0;go_wp2_with fail
      go_roundw
      case rel=>exact⟨i+1,by omega,by go_num,by rw[HKN.o];exact HN5.o,HK5.o⟩
      case measure=>simp[intOf];omega
     ·have g5:(0:Int) < (l'.length:Int):=by have:=HLL.o;omega
      have hr0:=HRI.o;rw[if_neg hc0]at hr0;have hok':jaT f l':=by rw[HL'.o];exact jeo i HO.o
      have hBB:=HB.o i hc0;rw[←HL'.o]at hBB;have hrf:=jkv f l' hBB hok' w5 _ (ERow.rd HU.o)
      obtain⟨r,hr⟩:∃ r,r=refB (jaf (f+1) l').text:=⟨_,rfl⟩
      rw[←hr]at hrf hr0;have HKS:=Hd (je6 HRL.o hr0);have HRF:=Hd hrf;clear hr hr0 hrf hBB hok' hc0;go_wp2_with fail
      refine HRF.o.mono ?_;rintro e w6 ⟨rfl,hE⟩;have hN6:=HN5.o.keeps hE (fun h=>h);have HN6:=Hd hN6;have HK6:=Hd (HK5.o.trans (hE.mono (fun _ _ h=>h.elim)))
      obtain⟨old,k3⟩:∃ old,w6.cell? ⟨gn,3+i,none⟩=some old:=⟨_,HN6.o.cellL (List.getElem?_eq_getElem (by rw[jae.cells_len _ (jef HRL.o (by omega))];omega))⟩
      have f3:w6.frozen? ⟨gn,3+i,none⟩=false:=HN6.o.frozen;clear hE hN6;go_wp2_with fail
      have hN8:=HN6.o.set_same (i:=3+i) (.string r);rw[jgA,HKS.o]at hN8
      exact⟨⟨i+1,by omega,by go_num,hN8,HK6.o.setCell (p:=⟨gn,3+i,none⟩) (.inl rfl) (.string r)⟩,by simp[intOf];omega⟩
    ·have hi':i=16:=by omega
     subst hi';have hN:=HN2.o;rw[jg0 HRL.o]at hN;have b3:¬((16:Nat):Int) < 16:=by omega
     have hR8:=HR5.o.keeps HK2.o (by have:=HGN.o;omega);have HX8:=Hd (HX5.o.trans' HK2.o (fun x hx e=>by have e:x=gn:=e;have:=HGN.o;omega));have hld:=jar _ gn ⟨3,⟨#[]⟩,va,rs⟩ HRL.o hN;have HLN:=Hd (jae.cells_len ⟨3,⟨#[]⟩,va,rs⟩ HRL.o);unfold jae.V at hld;clear hN hi16;go_wp2_with (first |(refine jag 144 (.tmp 5) rfl rfl _ _ rfl hld ?_) |(refine jal (vs:=jae.cells ⟨3,⟨#[]⟩,va,rs⟩) rfl rfl rfl rfl hR8 (by rw[HLN.o];rfl) (by rw[HLN.o];exact Tryz.szNode) (jae.one _) ?_;intro W12 hB12 hE12))
     refine bodyPost_ret (jbX rfl rfl (jax W12 _ ⟨3,⟨#[]⟩,va,rs⟩ HRL.o hB12)) rfl ?_;have hz:=HGN.o
     exact⟨rfl,HX8.o.trans' hE12 (fun x hx e=>by have e:x=gr:=e;omega)⟩
theorem jg5{l:List Pair}(h:jaT 0 l):l.length≤1:=by
 rcases l with _ |⟨a,_ |⟨b,r⟩⟩
 ·simp
 ·simp
 ·exfalso
  have h1:=jcI h.rise (i:=0) (j:=1) (by omega) rfl rfl;have eb:b.l=[]:=List.eq_nil_of_length_eq_zero (by have:=(h.size b (by simp)).1;show b.1.size=0;omega);rw[eb]at h1;exact absurd h1 (jbn _)
theorem jaT.up{f g:Nat}{l:List Pair}(h:jaT f l)(hg:f≤g):jaT g l:=⟨fun p hp=>⟨Nat.le_trans (h.size p hp).1 hg,(h.size p hp).2⟩,h.rise⟩
theorem jeu{f:Nat}{l:List Pair}(h:jaT (f+1) l)(h2:2≤l.length)(hk:0 < comK l):jaT f (jaC (comK l) l):=by
 have hall:=jbJ h h2;exact (jdM (comK l) h (fun p hp q hq=>(hall p hp).1.trans (hall q hq).1.symm) (fun p hp=>(hall p hp).2)).up (by omega)
theorem jiQ:∀ (f:Nat) (l:List Pair),jaT f l→l.length≤1000→jdD l (ja1 (jaf f) l)
 | f,[],_,_=>jiR _
 | f,[(x,y)],_,_=>jj7 _ x y
 | 0,a :: b :: r,h,_=>absurd (jg5 h) (by simp)
 | f+1,a :: b :: r,h,hl=>by
  have h2:2≤(a :: b :: r).length:=by simp
  by_cases hk:0 < comK (a :: b :: r)
  ·have k1:=jeu h h2 hk
   exact jj6 f _ h2 hl h hk (jiQ f _ k1 (by unfold jaC;rw[List.length_map];exact hl)) k1
  ·refine jgQ f _ h2 hl h hk (fun i hc=>?_)
   have k1:jaT f _:=jeo i h;exact jiQ f _ k1 (by unfold jaC;rw[List.length_map];exact Nat.le_trans (List.length_filter_le _ _) hl)
theorem jkw(w:World)(v:Value)(l:List Pair)(hv:RdP w v l)(h:jaD l=0) :
  Calls Tryz.prog 48 #[v] w fun e w'=>e=.returned (.string (jbr l).text)∧Ext w w':=by
 have hm:=ja5 h;have HP:=Hd (jip w v l hv (by have:=hm.len;omega) (fun p hp=>by have:=(hm.size p hp).2.1;omega));have hr:=jdx hm;have hln:(jbb l).length≤1000:=by unfold jbb;rw[List.length_map];have:=hm.len;omega
 have HBY:=Hd (jc2 12 (jbb l) (jiQ 12 _ hr hln) hr);rw[show (jaf (12+1) (jbb l)).text=(jbr l).text from rfl]at HBY
 obtain⟨t,ht⟩:∃ t,t=(jbr l).text:=⟨_,rfl⟩
 rw[←ht]at HBY ⊢
 obtain⟨a0,c0,hsl⟩:=hv.sl
 subst hsl;clear hv hm hr hln ht h;go_enter Tryz.func48,Tryz.ntmps48;go_wp2_with fail
 refine HP.o.mono ?_;rintro e w1 ⟨u,rfl,hU⟩
 obtain⟨a1,c1,rfl⟩:=hU.sl
 have HU:=Hd hU;clear hU;go_wp2_with fail
 refine (HBY.o w1 _ (ERow.rd HU.o)).mono ?_;rintro e w2 ⟨rfl,hE⟩;have HE:=Hd (HU.o.ext.trans hE);clear hE;go_wp2_with fail
 go_ret
 exact⟨rfl,HE.o⟩
theorem jlL(w:World)(v:Value)(l:List Pair)(hv:RdP w v l)(h:jaD l=0) :
  Calls Tryz.prog 36 #[v] w fun e w'=>e=.returned (.string (shaB (jbr l).text))∧Ext w w':=by
 have HT:=Hd (jkw w v l hv h);have HSZ:=Hd (show (jbr l).text.size≤1000000 from Nat.le_trans (jee (ja1 (jaf 12) (jbb l)) ((good 12 _ (jdx (ja5 h))).1.one (inlP 12))) (by decide))
 obtain⟨t,ht⟩:∃ t,t=(jbr l).text:=⟨_,rfl⟩
 rw[←ht]at HT HSZ ⊢
 obtain⟨a0,c0,hsl⟩:=hv.sl
 subst hsl;clear hv ht h;go_enter Tryz.func36,Tryz.ntmps36;go_wp2_with fail
 refine HT.o.mono ?_;rintro e w1 ⟨rfl,hE⟩;have HE:=Hd hE;clear hE;go_wp2_with fail
 refine (jop w1 t HSZ.o).mono ?_;rintro e w2 ⟨rfl,hE⟩;have HE2:=Hd (HE.o.trans hE);clear hE;go_wp2_with fail
 go_ret
 exact⟨rfl,HE2.o⟩
end
section
open Go Go.RowKit
def addT(acc:List ByteArray)(t:ByteArray):List ByteArray:=if 32≤t.size then addF acc t else acc
def belF(B:List Pair→PT)(l:List Pair)(acc:List ByteArray):List ByteArray:=(jaH (ja4 B l)).foldl addF acc
theorem jhX{f:Nat}{l:List Pair}(hk:(jaf (f+1) l).text.size < 32→(jaf (f+1) l).kids=[])(acc:List ByteArray):(jaH (jb3 (jaf (f+1) l))).foldl addF acc=belF (jaf f) l (addT acc (jaf (f+1) l).text):=by
 have e:(jaf (f+1) l).kids=ja4 (jaf f) l:=rfl;unfold jb3 addT belF
 by_cases h:(jaf (f+1) l).text.size < 32
 ·have h1:=hk h
  rw[e]at h1;rw[if_pos h,if_neg (by omega),h1]
 ·rw[if_neg h,if_pos (by omega)]
  have e2:jaH [jaf (f+1) l]=(jaf (f+1) l).text :: jaH (ja4 (jaf f) l):=by
   rw[←e];cases jaf (f+1) l with
   | mk t ks=>simp[jaH,jba,PT.text,PT.kids]
  rw[e2];rfl
def jcO(l:List Pair):List (List Pair):=if 0 < comK l then [jaC (comK l) l]else (List.range 16).map fun i=>jaC 1 (cutL i l)
def jcm(f:Nat)(acc:List ByteArray)(p:List Pair):List ByteArray:=if p.length=0 then acc else belF (jaf f) p (addT acc (jaf (f+1) p).text)
theorem jbD(d:Nat)(l:List Pair):(jaC d l).length=l.length:=by unfold jaC;rw[List.length_map]
theorem jeb{f:Nat}{l:List Pair}(h:jaT f l)(hl:l.length≠0):(jaf (f+1) l).text.size < 32→(jaf (f+1) l).kids=[]:=
 ((good f l h).2.1 (fun e=>hl (by rw[e];rfl))).small
theorem jgv(f:Nat)(l:List Pair)(hok:∀ i,(cutL i l).length≠0→jaT f (jaC 1 (cutL i l))):∀ (is:List Nat) (acc:List ByteArray),(jaH (is.flatMap fun i=>if (cutL i l).length=0 then []else jb3 (jaf (f+1) (jaC 1 (cutL i l))))).foldl addF acc=(is.map fun i=>jaC 1 (cutL i l)).foldl (jcm f) acc
 | [],acc=>rfl
 | i :: is,acc=>by
  rw[List.flatMap_cons,jb2,List.foldl_append,jgv f l hok is,List.map_cons,List.foldl_cons]
  congr 1
  unfold jcm;rw[jbD]
  by_cases h:(cutL i l).length=0
  ·rw[if_pos h,if_pos h];rfl
  ·rw[if_neg h,if_neg h]
   exact jhX (jeb (hok i h) (by rw[jbD];exact h)) acc
theorem jgu{f:Nat}{l:List Pair}(h:jaT (f+1) l)(h2:2≤l.length)(acc:List ByteArray):belF (jaf (f+1)) l acc=(jcO l).foldl (jcm f) acc:=by
 unfold belF ja4 jcO;rw[if_neg (by omega)]
 by_cases hk:0 < comK l
 ·rw[if_pos hk,if_pos hk,List.foldl_cons,List.foldl_nil]
  unfold jcm;have hl:(jaC (comK l) l).length≠0:=by rw[jbD];omega
  rw[if_neg hl];exact jhX (jeb (jeu h h2 hk) hl) acc
 ·rw[if_neg hk,if_neg hk]
  exact jgv f l (fun i _=>jeo i h) _ acc
def cstP(f:Nat)(q:List Pair):Nat:=if q.length=0 then 0 else (jaH (jb3 (jaf (f+1) q))).length
theorem jjb(acc:List ByteArray)(t:ByteArray):(addF acc t).length≤acc.length+1:=by
 unfold addF;split <;> simp
theorem jfT:∀ (ts acc:List ByteArray),(ts.foldl addF acc).length≤acc.length+ts.length
 | [],acc=>by simp
 | t :: ts,acc=>by
  have h1:=jjb acc t;have h2:=jfT ts (addF acc t);simp only[List.foldl_cons,List.length_cons];omega
theorem jeI{f:Nat}{q:List Pair}(h:jaT f q)(hq:q.length≠0)(acc:List ByteArray):(addT acc (jaf (f+1) q).text).length+(jaH (ja4 (jaf f) q)).length≤acc.length+cstP f q:=by
 have e:(jaf (f+1) q).kids=ja4 (jaf f) q:=rfl;have hs:=jeb h hq;unfold cstP addT jb3;rw[if_neg hq]
 by_cases h32:(jaf (f+1) q).text.size < 32
 ·rw[if_neg (by omega),if_pos h32, ←e,hs h32];exact Nat.le_refl _
 ·rw[if_pos (by omega),if_neg h32]
  have h1:=jjb acc (jaf (f+1) q).text;have e2:jaH [jaf (f+1) q]=(jaf (f+1) q).text :: jaH (ja4 (jaf f) q):=by
   rw[←e];cases jaf (f+1) q with
   | mk t ks=>simp[jaH,jba,PT.text,PT.kids]
  rw[e2,List.length_cons];omega
theorem jjE{f:Nat}{q:List Pair}(h:q.length≠0→jaT f q)(acc:List ByteArray):(jcm f acc q).length≤acc.length+cstP f q:=by
 unfold jcm
 by_cases hq:q.length=0
 ·rw[if_pos hq];omega
 ·rw[if_neg hq]
  have h1:=jeI (h hq) hq acc;have h2:=jfT (jaH (ja4 (jaf f) q)) (addT acc (jaf (f+1) q).text);unfold belF;omega
def cstS(f:Nat)(ps:List (List Pair)):Nat:=(ps.map (cstP f)).sum
theorem jd6{f:Nat}:∀ (ps:List (List Pair)) (acc:List ByteArray),(∀ q∈ps,q.length≠0→jaT f q)→(ps.foldl (jcm f) acc).length≤acc.length+cstS f ps
 | [],acc,_=>by simp
 | q :: ps,acc,h=>by
  have h1:=jjE (h q List.mem_cons_self) acc;have h2:=jd6 ps (jcm f acc q) (fun x hx=>h x (List.mem_cons_of_mem _ hx));simp only[List.foldl_cons,cstS,List.map_cons,List.sum_cons]at h2 ⊢;omega
theorem jeJ{f:Nat}:∀ (ps:List (List Pair)) (k:Nat) (q:List Pair),ps[k]?=some q→cstS f (ps.take k)+cstP f q≤cstS f ps
 | [],k,q,h=>by simp at h
 | p :: ps,0,q,h=>by
  obtain rfl:=Option.some.inj h;simp[cstS]
 | p :: ps,k+1,q,h=>by
  have:=jeJ (f:=f) ps k q h
  simp only[cstS,List.take_succ_cons,List.map_cons,List.sum_cons]at this ⊢;omega
theorem jfC(f:Nat)(l:List Pair):∀ is:List Nat,(jaH (is.flatMap fun i=>if (cutL i l).length=0 then []else jb3 (jaf (f+1) (jaC 1 (cutL i l))))).length=cstS f (is.map fun i=>jaC 1 (cutL i l))
 | []=>rfl
 | i :: is=>by
  have ih:=jfC f l is;rw[List.flatMap_cons,jb2,List.length_append,ih];simp only[cstS,List.map_cons,List.sum_cons]
  congr 1
  unfold cstP;rw[jbD];split <;> rfl
theorem jh0{f:Nat}{l:List Pair}(h2:2≤l.length):(jaH (ja4 (jaf (f+1)) l)).length=cstS f (jcO l):=by
 unfold ja4 jcO;rw[if_neg (by omega)]
 by_cases hk:0 < comK l
 ·rw[if_pos hk,if_pos hk]
  simp only[cstS,List.map_cons,List.map_nil,List.sum_cons,List.sum_nil,Nat.add_zero,cstP];rw[if_neg (by rw[jbD];omega)]
 ·rw[if_neg hk,if_neg hk]
  exact jfC f l _
end
end Go.Proofs.YtcpnjmcipainpaaGreatDoor
