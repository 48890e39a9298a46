/- Parts of the proof, one behind the other: CanonJ, CanonK, CanonL, CanonM, CanonN, CanonO, TextsA. Each is under no condition but those that it states. -/
import Derived.Test.YtcpnjmcipainpaaGreatDoorPc17
namespace Go.Proofs.YtcpnjmcipainpaaGreatDoor
set_option linter.unusedSimpArgs false
set_option linter.unusedVariables false
set_option maxRecDepth 100000
set_option maxHeartbeats 16000000
section
open Go Go.RowKit
def ksK(B:List Pair→PT)(l:List Pair)(k:Nat):List PT:=(List.range k).flatMap fun i=>if (cutL i l).length=0 then []else jbW (B (jax 1 (cutL i l)))
theorem jfJ(B:List Pair→PT)(l:List Pair)(k:Nat):ksK B l (k+1)=ksK B l k++(if (cutL k l).length=0 then []else jbW (B (jax 1 (cutL k l)))):=by
 unfold ksK;rw[List.range_succ,List.flatMap_append];simp
def jqN(w:World)(bn:Nat)(B:List Pair→PT)(l:List Pair)(rs:List ByteArray)(i:Value)(wr:World):Prop:=∃ k:Nat,k≤16∧i=.int .i64 k∧∃ u bs,jcE w wr w.heap.size bn ⟨#[]⟩ (ksK B l k) u bs∧bs.length≤k∧Blk wr bn (.cells (brN rs k).cells.toArray 144)
theorem jd1{P:Program}{o:Oper}{a:Act}{w:World}{K:Act→World→Prop}{Q:Exit→Act→World→Prop}{f:FuncId}{args:Array Value}(hv:(execOp a.eval o).run P w=.ok (.enter f args) w)(h:Calls P f args w (fun e w2=>∃ v,e=.returned v∧K (a.put o.dst v) w2)):o.wp P a w K Q:=by
 unfold Oper.wp;rw[hv];exact h.mono fun e w2 ⟨v,he,hk⟩=>by subst he;exact hk
theorem Tryz.enterCut:∀ args w,(callFunc 127 args).run Tryz.prog w=.ok (.enter 127 args) w:=fun _ _=>by kernel_rfl
theorem Tryz.enterWithout:∀ args w,(callFunc 126 args).run Tryz.prog w=.ok (.enter 126 args) w:=fun _ _=>by kernel_rfl
theorem Tryz.enterHold:∀ args w,(callFunc 125 args).run Tryz.prog w=.ok (.enter 125 args) w:=fun _ _=>by kernel_rfl
theorem jil(f:Nat)(l:List Pair)(h2:2≤l.length)(hln:l.length≤1000)(hok:jaG (f+1) l)(hk:¬ 0 < comK l)(HB:∀ i,(cutL i l).length≠0→jfS (jax 1 (cutL i l)) (jad (f+1) (jax 1 (cutL i l)))):jfS l (jad (f+1+1) l):=by
 intro w v hc hv
 obtain⟨a,ha⟩:∃ a,l[0]?=some a:=⟨_,List.getElem?_eq_getElem (by omega)⟩
 obtain⟨z,hz⟩:∃ z,l[l.length - 1]?=some z:=⟨_,List.getElem?_eq_getElem (by omega)⟩
 have ga:l.getD 0 pd=a:=by rw[List.getD_eq_getElem?_getD,ha];rfl
 have gz:l.getD (l.length - 1) pd=z:=by rw[List.getD_eq_getElem?_getD,hz];rfl
 obtain⟨sa1,sa2,sa3,sa4,sa5⟩:=hok.size a (List.mem_of_getElem? ha)
 obtain⟨sz1,sz2,sz3,sz4,sz5⟩:=hok.size z (List.mem_of_getElem? hz)
 have hgood:=(good (f+1) l hok).1;have hrd:=hv;rcases hv with⟨_,_,_,h0⟩ |⟨b,o,c,rfl,hb,hcl,hcell⟩
 ·rw[h0]at h2;simp at h2
 obtain⟨q1,q1v⟩:=hcell 0 a ha
 rw[Nat.zero_mul,Nat.add_zero]at q1 q1v
 obtain⟨q2,_⟩:=hcell (l.length - 1) z hz
 obtain⟨kk,hkk⟩:∃ kk,kk=comK l:=⟨_,rfl⟩
 have hkc:kk=jaX a.1 z.1:=by rw[hkk];unfold comK;rw[ga,gz]
 obtain⟨x,y⟩:=a
 obtain⟨xb,yb⟩:=z
 simp only at sa1 sa2 sa3 sa4 sa5 sz1 sz2 sz3 sz4 sz5 q1 q1v q2 hkc
 obtain⟨rs,hrs⟩:∃ rs,rs=(List.range 16).map fun i=>if (cutL i l).length=0 then (⟨#[]⟩:ByteArray)else refB (jad (f+1) (jax 1 (cutL i l))).text:=⟨_,rfl⟩
 obtain⟨val,hval⟩:∃ val,val=(if x.size=0 then y else (⟨#[]⟩:ByteArray)):=⟨_,rfl⟩
 have hn:jay (jad (f+1)) l=⟨3,⟨#[]⟩,val,rs⟩:=by unfold jay;rw[if_neg (by omega),if_neg (by omega),if_neg hk,ga,hrs,hval]
 rw[hn]at hgood;have ht:jad (f+1+1) l=.mk (jaH ⟨3,⟨#[]⟩,val,rs⟩) (ksK (jad (f+1)) l 16):=by
  show PT.mk (jaH (jay _ l)) (jaE _ l)=_;rw[hn];unfold jaE;rw[if_neg (by omega),if_neg hk];rfl
 obtain⟨T,hT⟩:∃ T,T=jad (f+1+1) l:=⟨_,rfl⟩
 rw[←hT]at ht ⊢;have hrl:rs.length=16:=by rw[hrs];simp
 have hri:∀ i,i < 16→rs[i]?=some (if (cutL i l).length=0 then (⟨#[]⟩:ByteArray)else refB (jad (f+1) (jax 1 (cutL i l))).text):=fun i hi=>by
  rw[hrs,List.getElem?_map,List.getElem?_range hi];rfl
 have hkid:∀ i,(cutL i l).length≠0→jpz (jad (f+1) (jax 1 (cutL i l))):=fun i hi =>
  (((good f _ (jei i hok)).2.1 (fun e=>by have:=jaP 1 (cutL i l);rw[e]at this;simp at this;omega)).kid)
 have hsz:∀ p∈l,p.1.size≤1000000:=fun p hp=>by have:=(hok.size p hp).2.1;omega
 have hcs:∀ i,∀ p∈cutL i l,1≤p.1.size∧p.1.size≤1000000:=fun i p hp=>by
  obtain⟨hm,a',r',e',_⟩:=jdp hp
  exact⟨by show 1≤p.1.data.toList.length;rw[show p.1.data.toList=a' :: r' from e'];simp,hsz p hm⟩
 have hcn:∀ i,(cutL i l).length≤1000:=fun i=>Nat.le_trans (List.length_filter_le _ _) hln;have c0:((l.length:Int) == 0)=false:=by simp;exact fun e=>by rw[e]at h2;simp at h2
 have c1:¬(l.length:Int)=0:=by omega
 have c2:((l.length:Int) == 1)=false:=by simp;omega
 have c3:¬(l.length:Int)=1:=by omega
 have c4:(0:Int)≤(l.length:Int) - 1:=by omega
 have c5:(l.length:Int) - 1 < (l.length:Int):=by omega
 have c6:((l.length:Int) - 1).toNat=l.length - 1:=by omega
 have c7:(0:Int) < (l.length:Int):=by omega
 have d7:0 < l.length:=by omega
 rw[←hkk]at hk;have d0:¬ 0 < kk:=hk;have e0:¬(0:Int) < (kk:Int):=by omega
 have HT:=Hd ht;have Q1:=Hd q1;have Q1V:=Hd q1v;have Q2:=Hd q2;have HKK:=Hd hkc;have HG:=Hd hgood;have HRD:=Hd hrd;have HSZ:=Hd hsz;have HCS:=Hd hcs;have HCN:=Hd hcn;have HKID:=Hd hkid;have HRI:=Hd hri;have HRL:=Hd hrl;have HVAL:=Hd hval;have HBB:=Hd HB;have HC:=Hd hc;clear hc ha hz ga gz hok hgood hrd hcell q1 q1v q2 hkk hkc hsz hcs hcn hkid hri hrl hval hrs hn ht hT HB sa3 sz3
 obtain⟨W1,hW1⟩:∃ W1,W1=w.alloc (.cells #[.string ⟨#[]⟩,.slice none 0 0] 159):=⟨_,rfl⟩
 go_enter Tryz.func78,Tryz.ntmps78;go_wp2_with (refine jai Tryz.allocNode rfl rfl ?_;intro W3 hB3 hE3;refine jaf (vs:=jav.cells) rfl rfl rfl rfl hB3 rfl Tryz.szNode (jac.one _) ?_;intro W4 hB4 hE4;simp only[World.size_alloc]at hB4 hE4)
 have hE34:Ext W1 W4:=by
  rw[←hW1]at hE3;exact hE3.trans' hE4 (fun x hx e=>by have e:x=w.heap.size+1:=e;rw[hW1,World.size_alloc]at hx;omega)
 have hh:=jor w W1 W4 (w.heap.size+1) hW1 hE34 (by rw[hW1,World.size_alloc]) hB4.lt;have HH0:=Hd hh;have HB4:=Hd hB4;have HX:=Hd hh.row.ext;clear hE3 hE4 hB3 hW1 hB4 hE34 hh;refine jan [0,1,2,3,4,5,6,7,8,9,10,11,12,13] Ext ExtR ExtT (by kernel_rfl) (by kernel_rfl) (by kernel_rfl) ?_;iterate 3 (refine jae _ rfl (by kernel_rfl) rfl rfl (fun K hK=>?_);go_big_quiet_op;refine hK _ ?_;clear hK K)
 refine jak ⟨b,o,none⟩ _ rfl (by kernel_rfl) rfl rfl (fun w1 h1=>jaa Tryz.uStr rfl (jab (jab (by exact Q1.o) (HX.o.trans (jas _))) h1)) ?_;simp only[Act.put,sA,sB,sC];iterate 6 (refine jae _ rfl (by kernel_rfl) rfl rfl (fun K hK=>?_);go_big_quiet_op;refine hK _ ?_;clear hK K)
 refine jak ⟨b,o+(l.length - 1) * 2,none⟩ _ rfl (by kernel_rfl) rfl rfl (fun w1 h1=>jaa Tryz.uStr rfl (jab (jab (by exact Q2.o) (HX.o.trans (jas _))) h1)) ?_;simp only[Act.put,sA,sB,sC];refine jaN _ 124 #[.string x,.string xb] (.int .i64 (kk:Nat)) rfl (by kernel_rfl) rfl (fun w1=>jau Tryz.enterCommon (by kernel_rfl)) (fun w1 h1=>by rw[HKK.o];exact (jhv w1 x xb (by omega) (by omega)).mono (fun e w2 ⟨h1,n,h2⟩=>⟨h1,by rw[h2];exact (ExtR w1).drewN n⟩)) ?_;simp only[Act.put,sA,sB,sC];iterate 2 (refine jae _ rfl (by kernel_rfl) rfl rfl (fun K hK=>?_);go_big_quiet_op;refine hK _ ?_;clear hK K)
 refine jaJ (by kernel_rfl) (fun w5 he=>?_);have hX5:=(jas W4).trans he;have HH5:=Hd (HH0.o.ext hX5);have HB5:=Hd (HB4.o.keeps hX5 (fun h=>h));have HX:=Hd (HX.o.trans hX5);clear he hX5 HH0 HB4;have q0:=HB5.o.cell (i:=0) (v:=.int .i64 0) (by rfl);have f0:w5.frozen? ⟨w.heap.size+1,0,none⟩=false:=HB5.o.frozen;have K6:=jag.oneSet w5 ⟨w.heap.size+1,0,none⟩ (.int .i64 3);have HH6:=Hd (HH5.o.other K6);have HB6:Hid (Blk (w5.setCell ⟨w.heap.size+1,0,none⟩ (.int .i64 3)) (w.heap.size+1) (.cells (brN rs 0).cells.toArray 144)):=Hd (HB5.o.set_same (i:=0) (.int .i64 3));clear K6 HB5 HH5 HX;go_wp2_with fail
 go_loopw [11] (fun i wr=>jqN w (w.heap.size+1) (jad (f+1)) l rs i wr) (fun i _=>16 - (intOf i).toNat)
 case atStart=>exact⟨0,by omega,rfl,_,[],HH6.o,by simp,HB6.o⟩
 case round =>
  obtain⟨k,hk16,rfl,u,bs,hH,hbs,hB⟩:=hrel
  obtain⟨au,cu,hu⟩:=hH.row.sl
  subst hu;have HH:=Hd hH;have HB:=Hd hB;have HX:=Hd hH.row.ext;clear hH hB
  by_cases hlt:k < 16
  ·have b1:(k:Int) < 16:=by omega
   have hwb:=HH.o.ml;have QI:=Hd (show (wr.alloc (.cells #[.int .i64 (k:Int)] 3)).cell? ⟨wr.heap.size,0,none⟩=some (.int .i64 (k:Int))from(Blk.new wr _).cell (by rfl));have hno:=jqi HH.o.row;have hwp:w.heap.size < wr.heap.size:=HH.o.blk.lt;have NF:=Hd (show ¬(wr.heap.size=w.heap.size∨wr.heap.size=w.heap.size+1∨(Value.slice au bs.length cu).ownBlock=some wr.heap.size)from fun h=>by
    rcases h with h | h | h
    ·omega
    ·omega
    ·exact hno h)
   clear hno;go_wp2_with fail
   refine jaL [0,1,2,3,7,4,5,6,8,9] [4,5,6,9] Ext (jag (fun x=>x=w.heap.size∨x=w.heap.size+1∨(Value.slice au bs.length cu).ownBlock=some x)) ExtR ExtT (fun x y z h k=>jag.trans h k) (fun x y h=>h.mono (fun _ _ h=>h.elim)) (by kernel_rfl) (by kernel_rfl) (by kernel_rfl) ?_;refine jaQ ⟨wr.heap.size,0,none⟩ _ rfl (by kernel_rfl) rfl rfl (fun w2 h2=>jaa Tryz.uInt rfl (jaD (by exact QI.o) h2 (by exact NF.o))) ?_;simp only[Act.put,sA,sB,sC];iterate 4 (refine jaq _ rfl (by kernel_rfl) rfl rfl (fun K hK=>?_);go_big_quiet_op;refine hK _ ?_;clear hK K)
   refine jaV _ rfl (by kernel_rfl) rfl (fun w1 he K hK=>?_);have hX1:=(((ExtR wr).alloc (.cells #[.int .i64 (k:Int)] 3)).trans (jas _)).trans he;have hI1:=jab (jab QI.o (jas _)) he;refine jd1 (jau Tryz.enterCut (by kernel_rfl)) ((jrj w1 _ wr.heap.size k l (HRD.o.ext (HX.o.trans hX1)) (by omega) HSZ.o (by omega) hI1).mono ?_);rintro e w2 ⟨v2,n2,rfl,hr2⟩;have HR2:=Hd hr2.rd;have HX2:=Hd (hX1.trans hr2.ext)
   refine⟨_,rfl,hK _ _ (hr2.ext.mono (fun _ _ h=>h.elim)) ?_⟩
   obtain⟨a2,c2,hv2⟩:=hr2.rd.sl
   subst hv2;clear hK K he hX1 hI1 hr2;simp only[Act.put,sA,sB,sC];refine jaV _ rfl (by kernel_rfl) rfl (fun w3 he K hK=>?_);refine jd1 (jau Tryz.enterWithout (by kernel_rfl)) ((jje w3 _ 1 (cutL k l) (HR2.o.ext he) (by have:=HCN.o k;omega) (HCS.o k)).mono ?_);rintro e w4 ⟨v4,rfl,hr4⟩;have HR4:=Hd hr4.rd;have HX4:=Hd ((HX2.o.trans he).trans hr4.ext)
   refine⟨_,rfl,hK _ _ (hr4.ext.mono (fun _ _ h=>h.elim)) ?_⟩
   obtain⟨a4,c4',hv4⟩:=hr4.rd.sl
   subst hv4;clear hK K he hr4 HR2 HX2;simp only[Act.put,sA,sB,sC];refine jaV _ rfl (by kernel_rfl) rfl (fun w5' he K hK=>?_);have HX5:=Hd (HX4.o.trans he);have HR5:=Hd (HR4.o.ext he);have HH5:=Hd (HH.o.ext HX5.o);have hC5:=HC.o.ext (HX.o.trans HX5.o)
   obtain⟨rk,hrk⟩:∃ rk,rk=(if (cutL k l).length=0 then (⟨#[]⟩:ByteArray)else refB (jad (f+1) (jax 1 (cutL k l))).text):=⟨_,rfl⟩
   refine jd1 (f:=125) (args:=#[ptrV w.heap.size,.slice a4 (jax 1 (cutL k l)).length c4']) (jau Tryz.enterHold (by kernel_rfl)) ((show Calls _ _ _ _ (fun e w'=>∃ u' bs',e=.returned (.string rk)∧jcE w w' w.heap.size (w.heap.size+1) ⟨#[]⟩ (ksK (jad (f+1)) l (k+1)) u' bs'∧bs'.length≤bs.length+1∧Ext w w'∧jag (fun x=>x=w.heap.size∨(Value.slice au bs.length cu).ownBlock=some x) w5' w')from ?hold).mono ?_)
   case hold =>
    rw[jfJ]
    by_cases hc0:(cutL k l).length=0
    ·rw[hrk,if_pos hc0,if_pos hc0,List.append_nil,jaP,hc0]
     refine (jos w5' w.heap.size a4 c4').mono ?_;rintro e w6 ⟨rfl,rfl⟩
     exact⟨_,bs,rfl,HH5.o,by omega,HH5.o.row.ext,jag.refl _ _⟩
    ·rw[hrk,if_neg hc0,if_neg hc0]
     exact jpg hC5 HH5.o (by omega) _ (jax 1 (cutL k l)) HR5.o (fun e=>hc0 (by have:=jaP 1 (cutL k l);rw[e]at this;simpa using this.symm)) (by rw[jaP];have:=HCN.o k;omega) _ (HKID.o k hc0) (HBB.o k hc0 w5' _ hC5 HR5.o)
   rintro e w6 ⟨u6,bs6,rfl,h6,hb6,hE6,hk6⟩
   refine⟨_,rfl,hK _ _ (hk6.mono (fun x _ h=>h.elim .inl (fun h=>.inr (.inr h)))) ?_⟩
   have hB6:=(HB.o.keeps HX5.o (fun h=>h)).keeps hk6 (fun h=>by
    rcases h with h | h
    ·omega
    ·exact HH.o.mb h)
   have HB6:=Hd hB6;have HH6:=Hd h6;have HRK:=Hd ((HRI.o k hlt).trans (by rw[←hrk]));clear hK K he h6 hE6 hk6 hB6 hC5 hrk HR4 HR5 HH5;simp only[Act.put,sA,sB,sC]
   (refine jaq _ rfl (by kernel_rfl) rfl rfl (fun K hK=>?_);go_big_quiet_op;refine hK _ ?_;clear hK K)
   refine jaV _ rfl (by kernel_rfl) rfl (fun w7 he K hK=>?_);have hB7:=HB6.o.keeps he (fun h=>h)
   obtain⟨old,q7⟩:∃ v,w7.cell? ⟨w.heap.size+1,3+k,none⟩=some v:=⟨_,hB7.cellL (List.getElem?_eq_getElem (by rw[jac.cells_len _ (jl3 HRL.o hk16)];omega))⟩
   have f7:w7.frozen? ⟨w.heap.size+1,3+k,none⟩=false:=hB7.frozen;have hB8:=hB7.set_same (i:=3+k) (.string rk);rw[show (brN rs k).cells.toArray.setIfInBounds (3+k) (.string rk)=((brN rs k).cells.set (3+k) (.string rk)).toArray by simp,jl4 HRL.o hlt rk HRK.o]at hB8;have HB8:=Hd hB8;have K8:=jag.oneSet w7 ⟨w.heap.size+1,3+k,none⟩ (.string rk);have HH8:=Hd ((HH6.o.ext he).other K8);have HD8:=Hd (K8.mono (G:=fun x=>x=w.heap.size∨x=w.heap.size+1∨(Value.slice au bs.length cu).ownBlock=some x) (fun x _ e=>.inr (.inl e)));clear he hB7 hB8 K8 HB6 HH6;go_simp;refine hK _ _ HD8.o ?_;clear hK K q7 f7;refine jbI (by kernel_rfl) (fun w9 he=>?_);have HH9:=Hd (HH8.o.ext he);have HB9:=Hd (HB8.o.keeps he (fun h=>h));clear he HH8 HB8 HD8;go_wp2_with fail
   go_roundw
   case rel=>exact⟨k+1,by omega,by go_num,u6,bs6,HH9.o,by omega,HB9.o⟩
   case measure=>simp[intOf];omega
  ·have hk16':k=16:=by omega
   subst hk16';have e16:brN rs 16=⟨3,⟨#[]⟩,⟨#[]⟩,rs⟩:=by unfold brN jat;rw[List.take_of_length_le (by have:=HRL.o;omega)];simp
   have hB:=HB.o;rw[e16]at hB;have q1:=jab Q1.o HX.o
   by_cases hx0:x.size=0
   ·have hxe:=jbE hx0
    have hv:val=y:=by rw[HVAL.o,if_pos hx0]
    have q1v:=jab Q1V.o HX.o;subst hxe;have q2:wr.cell? ⟨w.heap.size+1,2,none⟩=some (.string ⟨#[]⟩):=hB.cellL (by rfl);have f2:wr.frozen? ⟨w.heap.size+1,2,none⟩=false:=hB.frozen;have hB2:=hB.set_same (i:=2) (.string y);rw[show (jac.cells ⟨3,⟨#[]⟩,⟨#[]⟩,rs⟩).toArray.setIfInBounds 2 (.string y)=(jac.cells ⟨3,⟨#[]⟩,y,rs⟩).toArray by simp[jac.cells]]at hB2;have HB11:=Hd (show Blk (wr.setCell ⟨w.heap.size+1,2,none⟩ (.string y)) (w.heap.size+1) (.cells (jac.cells ⟨3,⟨#[]⟩,val,rs⟩).toArray 144)from by rw[hv];exact hB2);have HH:=Hd (HH.o.other (jag.oneSet wr ⟨w.heap.size+1,2,none⟩ (.string y)));have HV:=Hd hv;clear hB hB2 e16 hv;go_wp2_with (refine jah 144 (.tmp 4) rfl rfl _ _ rfl (jap _ _ ⟨3,⟨#[]⟩,val,rs⟩ HRL.o HB11.o) ?_)
    refine (jiJ (inlP _) _ ⟨3,⟨#[]⟩,val,rs⟩ HG.o).mono ?_;rintro e w9 ⟨rfl,hE⟩;have h9:=HH.o.ext hE;have q0:w9.cell? ⟨w.heap.size,0,none⟩=some (.string ⟨#[]⟩):=h9.blk.cell (i:=0) (by rfl);have f0:w9.frozen? ⟨w.heap.size,0,none⟩=false:=h9.blk.frozen;have H9:=Hd (h9.setText (jaH ⟨3,⟨#[]⟩,val,rs⟩))
    obtain⟨tx,htx⟩:∃ tx,tx=jaH ⟨3,⟨#[]⟩,val,rs⟩:=⟨_,rfl⟩
    rw[←htx]at H9 ⊢;have HTX:=Hd htx;clear h9 hE htx;go_wp2_with fail
    go_ret
    exact⟨w.heap.size,rfl,by rw[HT.o, ←HTX.o];exact H9.o.part,H9.o.row.ext⟩
   ·have hne:=ja2 (s:=x) (by omega)
    have hv:val=⟨#[]⟩:=by rw[HVAL.o,if_neg hx0]
    rw[←hv]at hB;have HB11:=Hd (show Blk wr (w.heap.size+1) (.cells (jac.cells ⟨3,⟨#[]⟩,val,rs⟩).toArray 144)from by rw[hv]at hB ⊢;exact hB);have HV:=Hd hv;clear hB e16 hv;go_wp2_with (refine jah 144 (.tmp 4) rfl rfl _ _ rfl (jap _ _ ⟨3,⟨#[]⟩,val,rs⟩ HRL.o HB11.o) ?_)
    refine (jiJ (inlP _) _ ⟨3,⟨#[]⟩,val,rs⟩ HG.o).mono ?_;rintro e w9 ⟨rfl,hE⟩;have h9:=HH.o.ext hE;have q0:w9.cell? ⟨w.heap.size,0,none⟩=some (.string ⟨#[]⟩):=h9.blk.cell (i:=0) (by rfl);have f0:w9.frozen? ⟨w.heap.size,0,none⟩=false:=h9.blk.frozen;have H9:=Hd (h9.setText (jaH ⟨3,⟨#[]⟩,val,rs⟩))
    obtain⟨tx,htx⟩:∃ tx,tx=jaH ⟨3,⟨#[]⟩,val,rs⟩:=⟨_,rfl⟩
    rw[←htx]at H9 ⊢;have HTX:=Hd htx;clear h9 hE htx;go_wp2_with fail
    go_ret
    exact⟨w.heap.size,rfl,by rw[HT.o, ←HTX.o];exact H9.o.part,H9.o.row.ext⟩
theorem jhs:∀ (f:Nat) (l:List Pair),jaG f l→l.length≤1000→jfS l (jad (f+1) l)
 | f,l,hok,hln=>by
  by_cases h0:l.length=0
  ·exact jk1 f l h0
  by_cases h1:l.length=1
  ·exact jl6 f l h1 hok
  have h2:2≤l.length:=by omega
  cases f with
  | zero =>
   exfalso
   obtain⟨a,ha⟩:∃ a,l[0]?=some a:=⟨_,List.getElem?_eq_getElem (by omega)⟩
   obtain⟨b,hb⟩:∃ b,l[1]?=some b:=⟨_,List.getElem?_eq_getElem (by omega)⟩
   have hlt:=jb3 hok.rise (by omega) ha hb
   have:=(hok.size b (List.mem_of_getElem? hb)).1
   rw[show b.l=[]from List.eq_nil_of_length_eq_zero (by show b.1.size=0;omega)]at hlt;exact jbc _ hlt
  | succ f =>
   by_cases hk:0 < comK l
   ·exact jl5 f l h2 hln hok hk (jhs f _ ((jcA (comK l) hok (fun p hp q hq=>((jbF hok h2 p hp).1).trans (jbF hok h2 q hq).1.symm) (fun p hp=>(jbF hok h2 p hp).2)).mono (by omega)) (by rw[jaP];exact hln))
   ·exact jil f l h2 hln hok hk (fun i _=>jhs f _ (jei i hok) (by rw[jaP];exact Nat.le_trans (List.length_filter_le _ _) hln))
theorem jiG(b:UInt8):(b >>> 4).toNat=b.toNat / 16:=by
 have:∀ c:Fin 256,(UInt8.ofNat c.1 >>> 4).toNat=c.1 / 16:=by decide
 have h:=this ⟨b.toNat,b.toNat_lt⟩;simpa using h
theorem jiH(b:UInt8):(b &&& 15).toNat=b.toNat % 16:=by
 have:∀ c:Fin 256,(UInt8.ofNat c.1 &&& 15).toNat=c.1 % 16:=by decide
 have h:=this ⟨b.toNat,b.toNat_lt⟩;simpa using h
theorem jmQ:∀ (a b:List UInt8),Lt a b→Lt (jce a) (jce b)
 | a,[],h=>absurd h (jbc _)
 | [],y :: b,_=>rfl
 | x :: a,y :: b,h=>by
  show Lt ((x >>> 4) ::(x &&& 15) :: jce a) ((y >>> 4) ::(y &&& 15) :: jce b);have hx:=jiG x;have hy:=jiG y;have lx:=jiH x;have ly:=jiH y;rcases jbH.1 h with h |⟨he,h2⟩
  ·have h:=UInt8.lt_iff_toNat_lt.1 h
   by_cases hh:x.toNat / 16 < y.toNat / 16
   ·exact jbH.2 (.inl (UInt8.lt_iff_toNat_lt.2 (by omega)))
   ·refine jbH.2 (.inr ⟨UInt8.toNat_inj.1 (by omega),jbH.2 (.inl (UInt8.lt_iff_toNat_lt.2 (by omega)))⟩)
  ·subst he;exact jbH.2 (.inr ⟨rfl,jbH.2 (.inr ⟨rfl,jmQ a b h2⟩)⟩)
theorem jch(s:ByteArray):jaA (jbe s)=true:=by
 unfold jaA jbe;rw[List.all_eq_true];intro x hx;have hx:x∈jce s.data.toList:=hx;unfold jce at hx
 obtain⟨b,_,hb⟩:=List.mem_flatMap.1 hx
 have h1:=jiG b;have h2:=jiH b;have h3:=b.toNat_lt;have h15:(15:UInt8).toNat=15:=rfl;refine decide_eq_true (UInt8.le_iff_toNat_le.2 ?_);rcases List.mem_cons.1 hb with rfl | hb
 ·omega
 ·rw[List.mem_singleton.1 hb];omega
theorem jeQ(s:ByteArray):(jbe s).size=2 * s.size:=by
 show (jce s.data.toList).length=2 * s.data.toList.length;unfold jce;induction s.data.toList with
 | nil=>rfl
 | cons x r ih=>rw[List.flatMap_cons,List.length_append,ih,List.length_cons,List.length_cons,List.length_cons,List.length_nil];omega
structure jpB(l:List Pair):Prop where
 size:∀ p∈l,0 < p.1.size∧p.1.size≤6∧0 < p.2.size∧p.2.size≤80
 rise:l.Pairwise fun p q=>Lt p.l q.l
 len:l.length≤40
theorem jiF:∀ (a b c:List UInt8),Lt a b→Lt b c→Lt a c
 | a,b,[],_,h=>absurd h (jbc _)
 | a,[],z :: c,h,_=>absurd h (jbc _)
 | [],y :: b,z :: c,_,_=>rfl
 | x :: a,y :: b,z :: c,h1,h2=>by
  rcases jbH.1 h1 with h |⟨rfl,h⟩
  ·rcases jbH.1 h2 with h' |⟨rfl,h'⟩
   ·exact jbH.2 (.inl (UInt8.lt_trans h h'))
   ·exact jbH.2 (.inl h)
  ·rcases jbH.1 h2 with h' |⟨rfl,h'⟩
   ·exact jbH.2 (.inl h')
   ·exact jbH.2 (.inr ⟨rfl,jiF a b c h h'⟩)
theorem jbS{l:List Pair}(h:ja6 l=0):jpB l:=by
 unfold ja6 at h;split at h
 ·cases h
 rename_i hb
 split at h
 ·cases h
 rename_i hl
 have hbad:∀ i,i < l.length→badN l i=false:=fun i hi=>by
  cases hbi:badN l i with
  | false=>rfl
  | true=>exact absurd (List.any_eq_true.2 ⟨i,List.mem_range.2 hi,hbi⟩) hb
 refine⟨fun p hp=>?_,?_,by omega⟩
 ·obtain⟨i,hi⟩:=List.getElem?_of_mem hp
  have h1:=hbad i (List.getElem?_eq_some_iff.1 hi).1;have hg:l.getD i (⟨#[]⟩,⟨#[]⟩)=p:=by rw[List.getD_eq_getElem?_getD,hi];rfl
  unfold badN at h1;rw[hg]at h1;simp only[Bool.or_eq_false_iff,Bool.not_eq_false']at h1;have h2:=h1.1.1;have h3:=h1.1.2;unfold jft at h2;unfold jdZ at h3;simp only[decide_eq_true_eq]at h2 h3
  exact⟨h2.1,h2.2,h3.1,h3.2⟩
 ·have step:∀ i,i+1 < l.length→Lt (l.getD i pd).l (l.getD (i+1) pd).l:=fun i hi=>by
   have h1:=hbad (i+1) hi;unfold badN at h1;simp only[Bool.or_eq_false_iff,Bool.and_eq_false_iff,Bool.not_eq_false']at h1;rcases h1.2 with h2 | h2
   ·simp at h2
   ·rw[Nat.add_sub_cancel]at h2
    have:Op.bytesLess (l.getD i pd).1.toList (l.getD (i+1) pd).1.toList=true:=h2
    rw[ByteArray.toList_eq,ByteArray.toList_eq]at this;exact this
  rw[List.pairwise_iff_getElem];intro i j hi hj hij;have e:∀ k (hk:k < l.length),l.getD k pd=l[k]:=fun k hk=>by rw[List.getD_eq_getElem?_getD,List.getElem?_eq_getElem hk];rfl
  have key:∀ d,∀ i,i+d+1 < l.length→Lt (l.getD i pd).l (l.getD (i+d+1) pd).l:=by
   intro d;induction d with
   | zero=>exact fun i hi=>step i hi
   | succ d ih=>exact fun i hi=>jiF _ _ _ (ih i (by omega)) (step (i+d+1) hi)
  have:=key (j - i - 1) i (by omega)
  rw[show i+(j - i - 1)+1=j by omega,e i hi,e j hj]at this;exact this
theorem jdu{l:List Pair}(h:jpB l):jaG 12 (ja3 l):=by
 refine⟨fun p hp=>?_,?_⟩
 ·obtain⟨q,hq,rfl⟩:=List.mem_map.1 hp
  obtain⟨h1,h2,h3,h4⟩:=h.size q hq
  have hs:=jeQ q.1
  exact⟨by show (jbe q.1).size≤_;omega,by show (jbe q.1).size≤_;omega,jch _,h3,h4⟩
 ·unfold ja3
  rw[List.pairwise_map];exact h.rise.imp fun {p q} h=>jmQ _ _ h
def ja5(l:List Pair):PT:=jad 13 (ja3 l)
end
section
open Go Go.RowKit
attribute [local go_sem] Oper.semAt_some
inductive AT where
 | mk (b:Nat) (text:ByteArray) (v:Value) (kids:List AT)
def AT.root:AT→Nat | .mk b _ _ _=>b
mutual
def AtIs(A:Nat→Prop):AT→World→Prop
 | .mk b t v ks,W=>A b∧Blk W b (.cells #[.string t,v] 159)∧RdQ A W v (ks.map AT.root)∧jdm A ks W
def jdm(A:Nat→Prop):List AT→World→Prop
 | [],_=>True
 | k :: ks,W=>AtIs A k W∧jdm A ks W
end
mutual
def AT.pt:AT→PT
 | .mk _ t _ ks=>.mk t (AT.pts ks)
def AT.pts:List AT→List PT
 | []=>[]
 | k :: ks=>AT.pt k :: AT.pts ks
end
mutual
def jaF:PT→List ByteArray
 | .mk t ks=>t :: jaM ks
def jaM:List PT→List ByteArray
 | []=>[]
 | k :: ks=>jaF k++jaM ks
end
mutual
theorem jrf{A:Nat→Prop}{W:World}:∀ (T:PT) (b:Nat),jbt A T b W→∃ a:AT,a.root=b∧a.pt=T∧AtIs A a W
 | .mk t ks,b,h=>by
  unfold jbt at h
  obtain⟨h1,v,bs,h2,h3,h4⟩:=h
  obtain⟨al,e1,e2,e3⟩:=jpb ks bs h4
  exact⟨.mk b t v al,rfl,by unfold AT.pt;rw[e2],by unfold AtIs;exact⟨h1,h2,by rw[e1];exact h3,e3⟩⟩
theorem jpb{A:Nat→Prop}{W:World}:∀ (ks:List PT) (bs:List Nat),jaK A ks bs W→∃ al:List AT,al.map AT.root=bs∧AT.pts al=ks∧jdm A al W
 | [],bs,h=>by
  unfold jaK at h;subst h
  exact⟨[],rfl,by unfold AT.pts;rfl,by unfold jdm;trivial⟩
 | x :: ks,bs,h=>by
  unfold jaK at h
  obtain⟨b,r,rfl,h2,h3⟩:=h
  obtain⟨a,e1,e2,e3⟩:=jrf x b h2
  obtain⟨al,e4,e5,e6⟩:=jpb ks r h3
  exact⟨a :: al,by rw[List.map_cons,e1,e4],by unfold AT.pts;rw[e2,e5],by unfold jdm;exact⟨e3,e6⟩⟩
end
mutual
theorem AtIs.keeps{A:Nat→Prop}{F:BSet}{W W':World}(k:jag F W W')(hF:∀ x,A x→¬ F x):∀ (a:AT),AtIs A a W→AtIs A a W'
 | .mk b t v ks,h=>by
  unfold AtIs at *
  obtain⟨h1,h2,h3,h4⟩:=h
  exact⟨h1,h2.keeps k (hF b h1),h3.keeps k hF,jdm.keeps k hF ks h4⟩
theorem jdm.keeps{A:Nat→Prop}{F:BSet}{W W':World}(k:jag F W W')(hF:∀ x,A x→¬ F x):∀ (ks:List AT),jdm A ks W→jdm A ks W'
 | [],_=>by unfold jdm;trivial
 | x :: ks,h=>by
  unfold jdm at *
  exact⟨AtIs.keeps k hF x h.1,jdm.keeps k hF ks h.2⟩
end
theorem jdm.get{A:Nat→Prop}{W:World}:∀ (ks:List AT) (j:Nat) (a:AT),jdm A ks W→ks[j]?=some a→AtIs A a W
 | [],j,a,_,h=>by simp at h
 | x :: ks,0,a,h,hj=>by simp at hj;subst hj;unfold jdm at h;exact h.1
 | x :: ks,j+1,a,h,hj=>by unfold jdm at h;exact jdm.get ks j a h.2 (by simpa using hj)
theorem jiu:∀ (ks:List AT) (j:Nat) (a:AT),ks[j]?=some a→jaM (AT.pts (ks.take (j+1)))=jaM (AT.pts (ks.take j))++jaF a.pt
 | [],j,a,h=>by simp at h
 | x :: ks,0,a,h=>by
  simp at h;subst h;simp[AT.pts,jaM]
 | x :: ks,j+1,a,h=>by
  have:=jiu ks j a (by simpa using h)
  simp only[List.take_succ_cons,AT.pts,jaM,this,List.append_assoc]
theorem jkc:∀ (ks:List AT) (j:Nat),∃ r,jaM (AT.pts ks)=jaM (AT.pts (ks.take j))++r
 | ks,0=>⟨jaM (AT.pts ks),by simp[AT.pts,jaM]⟩
 | [],j+1=>⟨[],by simp[AT.pts,jaM]⟩
 | x :: ks,j+1=>by
  obtain⟨r,h⟩:=jkc ks j
  exact⟨r,by simp only[List.take_succ_cons,AT.pts,jaM,h,List.append_assoc]⟩
def jc4(L m:List ByteArray)(p:Nat):Prop:=∀ j x,m[j]?=some x→L[p+j]?=some x
theorem jc4.left{L m n:List ByteArray}{p:Nat}(h:jc4 L (m++n) p):jc4 L m p:=fun j x hx=>h j x (by rw[List.getElem?_append_left (List.getElem?_eq_some_iff.1 hx).1];exact hx)
theorem jc4.right{L m n:List ByteArray}{p:Nat}(h:jc4 L (m++n) p):jc4 L n (p+m.length):=fun j x hx=>by
 have:=h (m.length+j) x (by rw[List.getElem?_append_right (by omega),Nat.add_sub_cancel_left];exact hx)
 rw[Nat.add_assoc];exact this
theorem jc4.le{L m:List ByteArray}{p:Nat}(h:jc4 L m p)(hm:m≠[]):p+m.length≤L.length:=by
 have hl:0 < m.length:=List.length_pos_iff.2 hm
 have:=h (m.length - 1) _ (List.getElem?_eq_getElem (by omega))
 have:=(List.getElem?_eq_some_iff.1 this).1
 omega
theorem jon(T:PT):1≤(jaF T).length:=by cases T;unfold jaF;simp
theorem jkb:∀ (ks:List AT),ks.length≤(jaM (AT.pts ks)).length
 | []=>by simp
 | x :: ks=>by
  have:=jkb ks
  have:=jon x.pt
  simp only[AT.pts,jaM,List.length_append,List.length_cons];omega
def jhn(C Cx:Nat→World→Prop)(n N:Nat)(e:Ending)(W':World):Prop:=(e=.returned (.bool true)∧C n W')∨(e=.returned (.bool false)∧∃ q,0 < q∧q≤N∧Cx q W')
def jpI(C:Nat→World→Prop)(p:Nat)(ks:List AT)(v:Value)(wr:World):Prop:=∃ j:Nat,j≤ks.length∧v=.int .i64 j∧C (p+1+(jaM (AT.pts (ks.take j))).length) wr
theorem jnE(A:Nat→Prop)(l:Nat)(C Cx:Nat→World→Prop)(hC:∀ k,St (C k))(L:List ByteArray)(hLn:L.length≤1000000)
  (hY:∀ j W',j < L.length→C j W'→jlL Tryz.prog l #[.string (L.getD j ⟨#[]⟩)] W' (C (j+1)) (Cx (j+1)))
  (b:Nat) (t:ByteArray) (v:Value) (ks:List AT)
  (IHk:∀ a∈ks,∀ (p:Nat) (W:World),jc4 L (jaF a.pt) p→(∀ j W',C j W'→AtIs A a W')→C p W →
   CallsIn Fence.wide 0 Tryz.prog 131 #[ptrV a.root,.func (.yield l) #[] #[]] W (jhn C Cx (p+(jaF a.pt).length) L.length))
  (p:Nat) (W:World) (hL:jc4 L (jaF (AT.mk b t v ks).pt) p) (hS:∀ j W',C j W'→AtIs A (.mk b t v ks) W') (h0:C p W) :
   CallsIn Fence.wide 0 Tryz.prog 131 #[ptrV b,.func (.yield l) #[] #[]] W (jhn C Cx (p+(jaF (AT.mk b t v ks).pt).length) L.length):=by
  have e1:jaF (AT.pt (.mk b t v ks))=t :: jaM (AT.pts ks):=by unfold AT.pt jaF;rfl
  rw[e1]at hL ⊢;have hp:p < L.length:=by have:=hL 0 t rfl;exact (List.getElem?_eq_some_iff.1 this).1
  have hg:L.getD p ⟨#[]⟩=t:=by rw[List.getD_eq_getElem?_getD];have:=hL 0 t rfl;rw[Nat.add_zero]at this;rw[this];rfl
  have hS':∀ j W',C j W'→Blk W' b (.cells #[.string t,v] 159)∧RdQ A W' v (ks.map AT.root)∧jdm A ks W':=fun j W' h=>by
   have:=hS j W' h;unfold AtIs at this;exact this.2
  obtain⟨fn,tm,asg,bd,hyr,hrd⟩:=hY p W hp h0
  rw[hg]at hyr;have q0:=(hS' p W h0).1.cell (i:=0) (v:=.string t) (by rfl)
  obtain⟨av,cv,hv⟩:=(hS' p W h0).2.1.sl
  rw[List.length_map]at hv;subst hv;have hkl:ks.length≤1000000:=by
   have h1:=jkb ks;have h2:=hL.le (by simp);simp only[List.length_cons]at h2;omega
  have HRD:=Hd hrd;have HS:=Hd hS';have HY:=Hd hY;have HC:=Hd hC;have HIK:=Hd IHk;have HL:=Hd hL;clear hS' hS hrd hg h0 e1 hL hY hC IHk;unfold ptrV;refine callsIn_of_wp Tryz.func131 rfl trivial ?_ rfl;simp only[Tryz.ntmps131,List.size_toArray,List.length_cons,List.length_nil,Nat.reduceAdd,Nat.reduceSub,Array.replicate_succ,Array.replicate_zero,List.push_toArray,List.append_toArray,List.nil_append,List.cons_append];gi_wp2_with fail
  refine⟨rfl,HRD.o.mono ?_⟩
  rintro e w5 (⟨rfl,C5⟩ |⟨rfl,C5⟩)
  ·have q1:=(HS.o _ _ C5).1.cell (i:=1) (v:=.slice av ks.length cv) (by rfl)
   have HC5:=Hd C5;clear C5 q0 hyr;gi_wp2_with fail
   gi_loopw [19] (fun v wr=>jpI C p ks v wr) (fun v _=>ks.length - (intOf v).toNat)
   case atStart=>exact⟨0,by omega,rfl,by simpa [AT.pts,jaM]using HC5.o⟩
   case round =>
    obtain⟨j,hj,rfl,hCj⟩:=hrel
    by_cases hlt:j < ks.length
    ·obtain⟨hb1,hq1,ha1⟩:=HS.o _ _ hCj
     obtain⟨a,ha⟩:∃ a,ks[j]?=some a:=⟨_,List.getElem?_eq_getElem hlt⟩
     have hmem:a∈ks:=List.mem_of_getElem? ha;have hft:=jiu ks j a ha
     obtain⟨rest,hpre⟩:=jkc ks (j+1)
     have hbeg:jc4 L (jaF a.pt) (p+1+(jaM (AT.pts (ks.take j))).length):=by
      have h1:jc4 L ([t]++(jaM (AT.pts (ks.take j))++(jaF a.pt++rest))) p:=by
       have:=HL.o
       rw[hpre,hft,List.append_assoc]at this;exact this
      exact (h1.right.right).left
     rcases hq1 with⟨_,h0⟩ |⟨g,c,hh,_,_,_,_,hcell⟩
     ·rw[List.map_eq_nil_iff]at h0;rw[h0]at hlt;cases hlt
     obtain⟨rfl,hx1,hx2⟩:=Value.slice.inj hh
     clear hx1 hx2;have qj:wr.cell? ⟨g,j,none⟩=some (ptrV a.root):=hcell j a.root (by rw[List.getElem?_map,ha];rfl)
     obtain⟨ar,har⟩:∃ ar,ar=a.root:=⟨_,rfl⟩
     rw[←har]at qj;have b1:(j:Int) < (ks.length:Int):=by omega
     have ih:=HIK.o a hmem _ wr hbeg (fun j' W' h=>jdm.get ks j a (HS.o j' W' h).2.2 ha) hCj;rw[←har]at ih;have IH:=Hd ih;have HFT:=Hd hft;unfold ptrV at qj;clear hb1 ha1 hcell hh hpre hbeg ih hft hCj ha har q1 hmem HC5;gi_wp2_with fail
     refine⟨trivial,rfl,IH.o.mono ?_⟩
     rintro e w6 (⟨rfl,C6⟩ |⟨rfl,q',hq1,hq2,C6⟩)
     ·have HC6:=Hd C6
      clear C6;gi_wp2_with fail
      go_roundw
      case rel=>exact⟨j+1,by omega,by go_num,by rw[HFT.o,List.length_append, ←Nat.add_assoc];exact HC6.o⟩
      case measure=>simp[intOf];omega
     ·have HC6:=Hd C6
      clear C6;gi_wp2_with fail
      go_ret;exact .inr ⟨rfl,q',hq1,hq2,HC6.o⟩
    ·have hjk:j=ks.length:=by omega
     subst hjk;rw[List.take_length]at hCj;have HC6:=Hd hCj;clear hCj;gi_wp2_with fail
     go_ret;exact .inl ⟨rfl,by rw[show p+((jaM (AT.pts ks)).length+1)=p+1+(jaM (AT.pts ks)).length by omega];exact HC6.o⟩
  ·have HC5:=Hd C5
   clear C5 q0 hyr;gi_wp2_with fail
   go_ret;exact .inr ⟨rfl,p+1,by omega,by omega,HC5.o⟩
theorem jnD(A:Nat→Prop)(l:Nat)(C Cx:Nat→World→Prop)(hC:∀ k,St (C k))(L:List ByteArray)(hLn:L.length≤1000000)
  (hY:∀ j W',j < L.length→C j W'→jlL Tryz.prog l #[.string (L.getD j ⟨#[]⟩)] W' (C (j+1)) (Cx (j+1))) :
  ∀ (a:AT) (p:Nat) (W:World),jc4 L (jaF a.pt) p→(∀ j W',C j W'→AtIs A a W')→C p W →
   CallsIn Fence.wide 0 Tryz.prog 131 #[ptrV a.root,.func (.yield l) #[] #[]] W (jhn C Cx (p+(jaF a.pt).length) L.length)
 | .mk b t v ks,p,W,hL,hS,h0=>jnE A l C Cx hC L hLn hY b t v ks (fun a ha=>jnD A l C Cx hC L hLn hY a) p W hL hS h0
termination_by a=>SizeOf.sizeOf a
decreasing_by
 have:=List.sizeOf_lt_of_mem ha
 simp
 omega
def jlO(L:List ByteArray)(k:Nat):Array Value:=#[.string (L.getD k ⟨#[]⟩)]
theorem jre(A:Nat→Prop)(bx:Nat)(a:AT)(hLn:(jaF a.pt).length≤1000000):jlH Tryz.prog 130 #[.pointer (some ⟨bx,0,none⟩)] (jaF a.pt).length (jlO (jaF a.pt)) (fun W=>Blk W bx (.cells #[ptrV a.root] 110)∧AtIs A a W):=by
 intro l C Cx hC hCx hS W hY h0;have hT:=jnD A l C Cx hC (jaF a.pt) hLn (fun j W' hj hc=>hY j W' hj hc) a 0 W (fun j x hx=>by rw[Nat.zero_add];exact hx) (fun j W' h=>(hS j W' h).2) h0;have q0:=(hS 0 W h0).1.cell (i:=0) (v:=ptrV a.root) (by rfl);have HT:=Hd hT;clear hT hY hC hCx hS h0;unfold ptrV at q0
 obtain⟨r,hr⟩:∃ r,r=a.root:=⟨_,rfl⟩
 rw[←hr]at q0 HT;have HR:=Hd hr;clear hr;refine callsIn_of_wp Tryz.func130 rfl trivial ?_ rfl;simp only[Tryz.ntmps130,List.size_toArray,List.length_cons,List.length_nil,Nat.reduceAdd,Nat.reduceSub,Array.replicate_succ,Array.replicate_zero,List.push_toArray,List.append_toArray,List.nil_append,List.cons_append];gi_wp2_with fail
 refine⟨trivial,rfl,HT.o.mono ?_⟩
 rintro e w5 (⟨rfl,C5⟩ |⟨rfl,q',hq1,hq2,C6⟩)
 ·have HC5:=Hd C5
  clear C5;gi_wp2_with fail
  refine bodyPost_end (results_none rfl _ _ _) rfl ?_
  exact⟨⟨_,rfl⟩,.inl (by have:=HC5.o;rw[Nat.zero_add]at this;exact this)⟩
 ·have HC6:=Hd C6
  clear C6;gi_wp2_with fail
  refine bodyPost_end (results_none rfl _ _ _) rfl ?_
  exact⟨⟨_,rfl⟩,.inr ⟨q',hq2,hq1,HC6.o⟩⟩
theorem jsu(w:World)(k:Nat):Calls Tryz.prog 80 #[ptrV k] w fun e w'=>e=.returned (.func (.func 130) #[] #[.pointer (some ⟨w.heap.size,0,none⟩)])∧Blk w' w.heap.size (.cells #[ptrV k] 110)∧Ext w w':=by
 unfold ptrV;go_enter Tryz.func80,Tryz.ntmps80;go_wp2_with fail
 go_ret
 exact⟨rfl,Blk.new w _,(ExtR w).alloc _⟩
def memB(acc:List ByteArray)(x:ByteArray):Bool:=(acc.map (·.data.toList)).contains x.data.toList
theorem jfL(acc:List ByteArray)(x:ByteArray):memB acc x=true↔x∈acc:=by
 unfold memB;rw[List.contains_iff_mem,List.mem_map]
 exact⟨fun ⟨y,hy,e⟩=>by rw[←show y=x from ByteArray.ext (Array.ext' e)];exact hy,fun h=>⟨x,h,rfl⟩⟩
def addF(acc:List ByteArray)(x:ByteArray):List ByteArray:=if memB acc x=true then acc else acc++[x]
def ja9(l:List ByteArray):List ByteArray:=l.foldl addF []
theorem jnT(acc:List ByteArray)(x y:ByteArray):y∈addF acc x↔y∈acc∨y=x:=by
 unfold addF;split
 ·rename_i h;exact⟨.inl,fun h'=>h'.elim id (fun e=>e ▸ (jfL _ _).1 h)⟩
 ·simp
theorem jbC(l:List ByteArray)(y:ByteArray):y∈ja9 l↔y∈l:=by
 unfold ja9
 suffices ∀ acc,y∈l.foldl addF acc↔y∈acc∨y∈l by simpa using this []
 induction l with
 | nil=>intro acc;simp
 | cons x r ih=>intro acc;rw[List.foldl_cons,ih,jnT,List.mem_cons];exact or_assoc
theorem jga(l:List ByteArray)(x:ByteArray):ja9 (l++[x])=addF (ja9 l) x:=by
 unfold ja9;rw[List.foldl_append];rfl
theorem jg1(l:List ByteArray):(ja9 l).length≤l.length:=by
 unfold ja9
 suffices ∀ acc,(l.foldl addF acc).length≤acc.length+l.length by simpa using this []
 induction l with
 | nil=>intro acc;simp
 | cons x r ih =>
  intro acc;rw[List.foldl_cons,List.length_cons];have h1:=ih (addF acc x);have h2:(addF acc x).length≤acc.length+1:=by unfold addF;split <;> simp
  omega
theorem jc8{K:Type}[DecidableEq K](k:K)(v:Value)(n:Nat)(k':K):∀ (l:List (Ent K)),jbh (jbP l k v n) k'=if k'=k then some v else jbh l k'
 | []=>by
  by_cases h:k'=k
  ·subst h;simp[jbP,jbh]
  ·simp[jbP,jbh,h]
 | x :: r=>by
  have ih:=jc8 k v n k' r;unfold jbP
  by_cases hk:k=x.1
  ·rw[if_pos hk]
   by_cases h:k'=k
   ·subst h;simp[jbh]
   ·have h2:¬ k'=x.1:=fun e=>h (e.trans hk.symm)
    simp[jbh,h,h2]
  ·rw[if_neg hk]
   by_cases h:k'=x.1
   ·have h2:¬ k'=k:=fun e=>hk (e.symm.trans h)
    rw[if_neg h2];simp[jbh,h]
   ·have e1:∀ l,jbh (x :: l) k'=jbh l k':=fun l=>by simp[jbh,h]
    rw[e1,e1,ih]
def cntB(l:List ByteArray)(x:ByteArray):Nat:=(l.map (·.data.toList)).count x.data.toList
def cntV(n:Nat):Option Value:=if n=0 then none else some (.int .i64 (n:Int))
theorem Tryz.uMapSI:Tryz.prog.underlying 107=some (.map 9 3):=by kernel_rfl
noncomputable abbrev Tryz.ES:jbs Tryz.prog 9 (List UInt8):=jrz Tryz.uStr
theorem Tryz.zeroI(w:World):(zeroValue 3).run Tryz.prog w=.ok (.int .i64 0) w:=by kernel_rfl
structure NodS(w:World)(g m:Nat)(A:Nat→Prop)(bx:Nat)(a:AT)(L:List ByteArray)(k:Nat)(W:World):Prop where
 ext:Ext w W
 var:∃ v n,Blk W g (.cells #[v] 34)∧W.ownsRow 0 9 1 v n ((ja9 (L.take k)).map Value.string)∧n≤k∧∀ b,v.ownBlock=some b→m+2≤b
 tab:∃ es ck,Blk W (g+1) (.map (Tryz.ES.arr es) ck)∧∀ x:ByteArray,jbh es x.data.toList=cntV (cntB (L.take k) x)
 mv:Blk W (g+2) (.cells #[.map (some (g+1))] 107)
 box:Blk W bx (.cells #[ptrV a.root] 110)
 at':AtIs A a W
theorem NodS.st{w:World}{g m:Nat}{A:Nat→Prop}{bx:Nat}{a:AT}{L:List ByteArray}{k:Nat}{W W':World}(h:NodS w g m A bx a L k W)(e:Ext W W'):NodS w g m A bx a L k W':=
 let ⟨v,n,h1,h2,h3,h4⟩:=h.var
 let ⟨es,ck,h5,h6⟩:=h.tab
 ⟨h.ext.trans e,⟨v,n,h1.keeps e (fun h=>h),jbx h2 e,h3,h4⟩,⟨es,ck,h5.keeps e (fun h=>h),h6⟩,h.mv.keeps e (fun h=>h),h.box.keeps e (fun h=>h),AtIs.keeps e (fun _ _ h=>h) a h.at'⟩
theorem NodS.put{w:World}{g m:Nat}{A:Nat→Prop}{bx:Nat}{a:AT}{L:List ByteArray}{k:Nat}{W:World}(h:NodS w g m A bx a L k W){r:Nat}(hr:w.heap.size≤r)(h1:g+2 < r)(h2:r < m+2)(h3:bx≠r)(h4:∀ x,A x→x≠r)(o:Obj):NodS w g m A bx a L k (W.putObj r o):=
 let ⟨v,n,h5,h6,h7,h8⟩:=h.var
 let ⟨es,ck,h9,h10⟩:=h.tab
 ⟨h.ext.putObj (.inr hr) _,⟨v,n,h5.put_other (by omega) _,ja7 h6 (jag.onePut W r o) (fun b hb e=>by have:=h8 b hb;omega),h7,h8⟩,⟨es,ck,h9.put_other (by omega) _,h10⟩,h.mv.put_other (by omega) _,h.box.put_other h3 _,
  AtIs.keeps (jag.onePut W r o) (fun x hx e=>h4 x hx e) a h.at'⟩
end
section
open Go Go.RowKit
def jcQ(l:List Pair):Nat→Nat
 | 0=>0
 | n+1=>jcQ l n+(cutL n l).length
def hN(L:List UInt8)(n:Nat):Nat:=match L with | []=>0 | a :: _=>if a.toNat < n then 1 else 0
theorem jp8(p:Pair)(n:Nat):hN p.l (n+1)=hN p.l n+(if jdR n p=true then 1 else 0):=by
 have hpb:jdR n p=match p.l with | []=>false | a :: _=>a.toNat == n:=rfl
 rw[hpb];cases p.l with
 | nil=>rfl
 | cons a r =>
  simp only[hN,beq_iff_eq]
  by_cases h1:a.toNat=n
  ·rw[if_pos (by omega),if_neg (by omega),if_pos h1]
  ·by_cases h3:a.toNat < n
   ·rw[if_pos (by omega),if_pos h3,if_neg h1]
   ·rw[if_neg (by omega),if_neg h3,if_neg h1]
theorem jrt(L:List UInt8)(n:Nat):hN L n≤1:=by
 cases L with
 | nil=>exact Nat.zero_le _
 | cons a r=>simp only[hN];split <;> omega
theorem jep(p:Pair)(l:List Pair):∀ n,jcQ (p :: l) n=jcQ l n+hN p.l n
 | 0=>by
  have:hN p.l 0=0:=by cases p.l <;> simp[hN]
  rw[this];rfl
 | n+1=>by
  have h:(cutL n (p :: l)).length=(cutL n l).length+(if jdR n p=true then 1 else 0):=by
   unfold cutL;rw[List.filter_cons];split <;> simp
  unfold jcQ;rw[jep p l n,h,jp8];omega
theorem jeE:∀ (l:List Pair) (n:Nat),jcQ l n≤l.length
 | [],n=>by
  have:∀ n,jcQ [] n=0:=fun n=>by induction n with
   | zero=>rfl
   | succ n ih=>unfold jcQ;rw[ih];rfl
  rw[this];exact Nat.zero_le _
 | p :: l,n=>by
  rw[jep,List.length_cons]
  have:=jeE l n
  have:=jrt p.l n
  omega
theorem jdq:∀ (a b:List PT),jaM (a++b)=jaM a++jaM b
 | [],b=>by simp[jaM]
 | x :: a,b=>by simp only[List.cons_append,jaM,jdq a b,List.append_assoc]
theorem jgg(T:PT):(jaM (jbW T)).length≤(jaF T).length:=by
 unfold jbW;split <;> simp[jaM]
theorem jrA(B:List Pair→PT)(F:Nat)(l:List Pair)(hB:∀ i,(cutL i l).length≠0→(jaF (B (jax 1 (cutL i l)))).length≤F * (cutL i l).length):∀ n,(jaM (ksK B l n)).length≤F * jcQ l n
 | 0=>by simp[ksK,jaM,jcQ]
 | n+1=>by
  rw[jfJ,jdq,List.length_append];unfold jcQ;rw[Nat.mul_add]
  have:=jrA B F l hB n
  by_cases h0:(cutL n l).length=0
  ·rw[if_pos h0];simp[jaM];omega
  ·rw[if_neg h0]
   have h1:=hB n h0;have h2:=jgg (B (jax 1 (cutL n l)));omega
theorem jjy:∀ (f:Nat) (l:List Pair),l≠[]→(jaF (jad (f+1) l)).length≤(f+1) * l.length
 | f,l,hl=>by
  have hlen:1≤l.length:=List.length_pos_iff.2 hl;show (jaF (.mk (jaH (jay (jad f) l)) (jaE (jad f) l))).length≤_;unfold jaF;rw[List.length_cons];have key:(jaM (jaE (jad f) l)).length≤f * l.length:=by
   unfold jaE;split
   ·simp[jaM]
   ·split
    ·cases f with
     | zero =>
      have h:=jgg (jad 0 (jax (comK l) l));have h0:jbW (jad 0 (jax (comK l) l))=[]:=rfl;rw[h0];simp[jaM]
     | succ f =>
      have h:=jgg (jad (f+1) (jax (comK l) l));have ih:=jjy f (jax (comK l) l) (fun e=>by have:=jaP (comK l) l;rw[e]at this;simp at this;omega);rw[jaP]at ih;omega
    ·cases f with
     | zero =>
      have:∀ n,ksK (jad 0) l n=[]:=fun n=>by
       induction n with
       | zero=>rfl
       | succ n ih =>
        rw[jfJ,ih];split
        ·rfl
        ·rfl
      have h16:=this 16;unfold ksK at h16;rw[h16];simp[jaM]
     | succ f =>
      have h:=jrA (jad (f+1)) (f+1) l (fun i hi=>by
       have ih:=jjy f (jax 1 (cutL i l)) (fun e=>by have:=jaP 1 (cutL i l);rw[e]at this;simp at this;omega)
       rwa [jaP]at ih) 16
      have h2:=Nat.mul_le_mul_left (f+1) (jeE l 16);have h3:ksK (jad (f+1)) l 16=(List.range 16).flatMap fun i=>if (cutL i l).length=0 then []else jbW (jad (f+1) (jax 1 (cutL i l))):=rfl
      rw[←h3];exact Nat.le_trans h h2
  have:(f+1) * l.length=f * l.length+l.length:=by rw[Nat.succ_mul]
  omega
theorem jkN{l:List Pair}(h:jpB l):(jaF (ja5 l)).length≤13 * l.length+1:=by
 by_cases h0:l=[]
 ·subst h0
  show (jaF (.mk (jaH (jay (jad 12) [])) (jaE (jad 12) []))).length≤_
  have:jaE (jad 12) []=[]:=rfl
  rw[this];simp[jaF,jaM]
 ·have h1:(jaF (ja5 l)).length≤13 * (ja3 l).length:=jjy 12 (ja3 l) (fun e=>h0 (by unfold ja3 at e;simpa using e))
  have h2:(ja3 l).length=l.length:=by unfold ja3;rw[List.length_map]
  rw[h2]at h1;omega
end
section
open Go Go.RowKit
attribute [local go_sem] Oper.semAt_some
theorem Tryz.makeMapSI(W:World):(Instr.makeMap 107 none).run Tryz.prog W=.ok (.map (some W.heap.size)) (W.alloc (.map #[] 0)):=by kernel_rfl
theorem Tryz.enterAll1:∀ args w,(callFunc 130 args).run Tryz.prog w=.ok (.enter 130 args) w:=fun _ _=>by kernel_rfl
theorem jkq(w:World)(v:Value)(l:List Pair)(hc:jbO w)(hv:RdP w v l)(h:ja6 l=0):Calls Tryz.prog 26 #[v] w fun e w'=>∃ u n,e=.returned (.tuple #[u,.int .i64 0])∧SRow w w' u n (ja9 (jaF (ja5 l))):=by
 have hm:=jbS h
 obtain⟨a,c,hsl⟩:=hv.sl
 subst hsl;have HV:=Hd hv;have HM:=Hd hm;have HC:=Hd hc;have H:=Hd h;have HL:=Hd hm.len
 obtain⟨T,hT⟩:∃ T,T=ja5 l:=⟨_,rfl⟩
 rw[←hT];have HTR:=Hd hT;clear hv hm hc h hT;rw[←callsIn_wide (n:=0)];refine callsIn_of_wp_marks Tryz.func26 rfl trivial ?_ rfl;simp only[Tryz.ntmps26,List.size_toArray,List.length_cons,List.length_nil,Nat.reduceAdd,Nat.reduceSub,Array.replicate_succ,Array.replicate_zero,List.push_toArray,List.append_toArray,List.nil_append,List.cons_append];gi_wp2_with fail
 refine⟨trivial,rfl,CallsIn.mono (callsIn_wide.2 (jht w _ l HV.o (by have:=HL.o;omega) (fun p hp=>by have:=HM.o.size p hp;omega))) ?_⟩
 rintro e w1 ⟨rfl,hE⟩;rw[H.o];have HE:=Hd hE;have hw1:=hE.size;clear hE;have hmm:(Instr.makeMap 107 none).run Tryz.prog (w1.alloc (.cells #[.slice none 0 0] 34))=.ok (.map (some (w1.heap.size+1))) ((w1.alloc (.cells #[.slice none 0 0] 34)).alloc (.map #[] 0)):=by
  rw[←World.size_alloc w1 (.cells #[.slice none 0 0] 34)];exact Tryz.makeMapSI _
 gi_wp2_with fail
 obtain⟨W6,hW6⟩:∃ W6,W6=((w1.alloc (.cells #[.slice none 0 0] 34)).alloc (.map #[] 0)).alloc (.cells #[.map (some (w1.heap.size+1))] 107):=⟨_,rfl⟩
 rw[←hW6];have hs6:W6.heap.size=w1.heap.size+3:=by rw[hW6];simp
 have E6:Ext w1 W6:=by rw[hW6];exact (((ExtR w1).alloc _).alloc _).alloc _
 have B5:Blk W6 w1.heap.size (.cells #[.slice none 0 0] 34):=by rw[hW6];exact ((Blk.new w1 _).alloc _).alloc _
 have BM:Blk W6 (w1.heap.size+1) (.map #[] 0):=by
  rw[hW6];have:=(Blk.new (w1.alloc (.cells #[.slice none 0 0] 34)) (.map #[] 0)).alloc (.cells #[.map (some (w1.heap.size+1))] 107);rwa [World.size_alloc]at this
 have B6:Blk W6 (w1.heap.size+2) (.cells #[.map (some (w1.heap.size+1))] 107):=by
  rw[hW6];have:=Blk.new ((w1.alloc (.cells #[.slice none 0 0] 34)).alloc (.map #[] 0)) (.cells #[.map (some (w1.heap.size+1))] 107);rwa [World.size_alloc,World.size_alloc]at this
 clear hW6 hmm
 refine⟨trivial,rfl,CallsIn.mono (callsIn_wide.2 (jpn W6 _ l ((HV.o.ext HE.o).ext E6) (by have:=HL.o;omega) (fun p hp=>by have:=HM.o.size p hp;omega))) ?_⟩
 rintro e w7 ⟨u,rfl,hr⟩;have HR:=Hd hr.rd;have hX7:Ext W6 w7:=hr.ext;clear hr
 obtain⟨a2,c2,hu⟩:=HR.o.sl
 subst hu;have HX7:=Hd hX7;have HB5:=Hd (B5.keeps hX7 (fun h=>h));have HBM:=Hd (BM.keeps hX7 (fun h=>h));have HB6:=Hd (B6.keeps hX7 (fun h=>h));have HE7:=Hd ((HE.o.trans E6).trans hX7);have hs7:=hX7.size;clear B5 BM B6 E6 hX7;gi_wp2_with fail
 refine⟨trivial,rfl,CallsIn.mono (callsIn_wide.2 (jhs 12 (ja3 l) (jdu HM.o) (by unfold ja3;rw[List.length_map];have:=HL.o;omega) w7 _ (HC.o.ext HE7.o) HR.o)) ?_⟩
 rintro e w8 ⟨k,rfl,hk,hE⟩;have hk:=jbt.mono (A':=fun x=>w7.heap.size≤x∧x < w8.heap.size) (fun x h1 h2=>⟨h1,h2⟩) _ _ hk
 obtain⟨at0,ha1,ha2,ha3⟩:=jrf _ _ hk
 have hs8:=hE.size;have HB5':=Hd (HB5.o.keeps hE (fun h=>h));have HBM':=Hd (HBM.o.keeps hE (fun h=>h));have HB6':=Hd (HB6.o.keeps hE (fun h=>h));have HE8:=Hd (HE7.o.trans hE);have HA3:=Hd ha3;have HA2:=Hd ha2;rw[←ha1];clear hk ha1 ha2 ha3 hE HB5 HBM HB6 HE7 HX7 HR HE;gi_wp2_with fail
 refine⟨trivial,rfl,CallsIn.mono (callsIn_wide.2 (jsu w8 at0.root)) ?_⟩
 rintro e w9 ⟨rfl,hbx,hE⟩;have hpt:at0.pt=T:=HA2.o.trans HTR.o.symm;have hlen:(jaF at0.pt).length≤1000000:=by
  rw[hpt,HTR.o];have:=jkN HM.o;have:=HL.o;omega
 have hl9:=hbx.lt
 obtain⟨A,hA⟩:∃ A:Nat→Prop,A=fun x=>w7.heap.size≤x∧x < w8.heap.size:=⟨_,rfl⟩
 have S0:NodS w w1.heap.size w9.heap.size A w8.heap.size at0 (jaF at0.pt) 0 w9:=
  ⟨HE8.o.trans hE,⟨_,0,HB5'.o.keeps hE (fun h=>h),by simpa [ja9]using World.ownsRow_nil _ _ _ _,Nat.le_refl _,fun b hb=>by cases hb⟩,⟨[],0,HBM'.o.keeps hE (fun h=>h),fun x=>by simp[jbh,cntB,cntV]⟩,HB6'.o.keeps hE (fun h=>h),hbx,by rw[hA];exact AtIs.keeps hE (fun _ _ h=>h) _ HA3.o⟩
 have HS0:=Hd S0;have hAlo:∀ x,A x→w1.heap.size+2 < x∧x < w9.heap.size:=fun x hx=>by rw[hA]at hx;omega
 have hbx9:w1.heap.size+2 < w8.heap.size:=by omega
 obtain⟨L,hLd⟩:∃ L,L=jaF at0.pt:=⟨_,rfl⟩
 have hit:=jre A w8.heap.size at0 hlen;rw[←hLd]at hit hlen HS0;have HIT:=Hd hit;have HLD:=Hd hLd;have HALO:=Hd hAlo;have HPT0:=Hd hpt;clear S0 hE hbx hA HE8 HB5' HBM' HB6' HA3 HA2 hpt hLd hit hAlo;unfold ptrV;gi_wp2_with fail
 refine jdl (N:=L.length) (gf:=130) (lb:=#[.pointer (some ⟨w8.heap.size,0,none⟩)]) rfl Tryz.enterAll1 HIT.o
  (fun k=>rfl) (NodS w w1.heap.size w9.heap.size A w8.heap.size at0 L) (fun _ _ _=>False) (fun k W W' h e=>h.st e) (fun _ _ _ _ h _=>h) (fun k W h=>⟨h.box,h.at'⟩)
  (fun k W o h=>h.put (by omega) (by omega) (by omega) (by omega) (fun x hx=>by have:=HALO.o x hx;omega) _)
  (fun k W o h=>h.put (by omega) (by omega) (by omega) (by omega) (fun x hx=>by have:=HALO.o x hx;omega) _) (fun _ _ _ _ h=>h)
  HS0.o (fun k=>{ tmps:=#[.slice a l.length c,undef,.slice none 0 0,.int .i64 0,.int .i64 0,.pointer (some ⟨w1.heap.size,0,none⟩),.pointer (some ⟨w1.heap.size+1+1,0,none⟩),.string (L.getD k ⟨#[]⟩),.slice a l.length c,.int .i64 0,.int .i64 0,.bool false,undef,.map (some (w1.heap.size+1)),.slice a l.length c,.slice a2 (ja3 l).length c2,.pointer (some ⟨at0.root,0,none⟩),.func (.func 130) #[] #[.pointer (some ⟨w8.heap.size,0,none⟩)],.string (L.getD k ⟨#[]⟩),undef,undef,undef,undef,undef,undef,undef,undef,undef,undef,undef,undef,undef],defers:=[] })
  ?hassign ?hbody ?hdone ?hstop
 case hassign =>
  intro l2 j W K hK;unfold jlO;rw[jsy];simp only[List.set_cons_zero,List.set_cons_succ];gi_wp2;exact hK
 case hbody =>
  intro l2 k W hk h hlt
  obtain⟨v,n,h1,h2,h3,h4⟩:=h.var
  obtain⟨ad,cp,rfl⟩:=ja1 h2
  obtain⟨es,ck,h5,h6⟩:=h.tab
  obtain⟨x,hx⟩:∃ x,x=L.getD k ⟨#[]⟩:=⟨_,rfl⟩
  rw[←hx];have hLx:L.take (k+1)=L.take k++[x]:=by
   rw[List.take_succ_eq_append_getElem hk,hx,List.getD_eq_getElem?_getD,List.getElem?_eq_getElem hk];rfl
  obtain⟨cn,hcn⟩:∃ cn,cn=cntB (L.take k) x:=⟨_,rfl⟩
  have hcl:cn≤1000000:=by
   rw[hcn];unfold cntB;refine Nat.le_trans List.count_le_length ?_;rw[List.length_map,List.length_take];omega
  have e6:=h6 x;rw[←hcn]at e6;have hlk:(Instr.lookup 107 (.map (some (w1.heap.size+1))) (.string x) false).run Tryz.prog W=.ok (.int .i64 (cn:Int)) W:=by
   have:=jdh Tryz.ES Tryz.uMapSI h5 (Tryz.zeroI W) x.data.toList false
   rw[e6]at this;unfold cntV at this
   by_cases h0:cn=0
   ·rw[if_pos h0]at this;rw[h0];exact this
   ·rw[if_neg h0]at this;exact this
  obtain⟨es2,hes2⟩:∃ es2,es2=jbP es x.data.toList (.int .i64 ((cn:Int)+1)) ck:=⟨_,rfl⟩
  obtain⟨ck2,hck2⟩:∃ ck2,ck2=(if (jbh es x.data.toList).isSome then ck else ck+1):=⟨_,rfl⟩
  obtain⟨W2,hW2⟩:∃ W2,W2=W.putObj (w1.heap.size+1) (.map (Tryz.ES.arr es2) ck2):=⟨_,rfl⟩
  have hmu:(Instr.mapUpdate 107 (.map (some (w1.heap.size+1))) (.string x) (.int .i64 ((cn:Int)+1))).run Tryz.prog W=.ok () W2:=by
   have:=jdv Tryz.ES Tryz.uMapSI h5 x.data.toList (.int .i64 ((cn:Int)+1))
   rw[←hes2, ←hck2, ←hW2]at this;exact this
  have B2:Blk W2 (w1.heap.size+1) (.map (Tryz.ES.arr es2) ck2):=by rw[hW2];exact h5.put_same _
  have e7:∀ y:ByteArray,jbh es2 y.data.toList=cntV (cntB (L.take (k+1)) y):=fun y=>by
   rw[hes2,jc8,h6 y,hLx];have hc:cntB (L.take k++[x]) y=cntB (L.take k) y+(if x.data.toList=y.data.toList then 1 else 0):=by
    unfold cntB;rw[List.map_append,List.count_append,List.map_cons,List.map_nil,List.count_singleton]
    simp
   rw[hc]
   by_cases hxy:y.data.toList=x.data.toList
   ·have hyx:y=x:=ByteArray.ext (Array.ext' hxy)
    subst hyx;rw[if_pos rfl,if_pos rfl, ←hcn];unfold cntV;rw[if_neg (by omega)];simp
   ·rw[if_neg hxy,if_neg (fun e=>hxy e.symm)];rfl
  have hlk2:(Instr.lookup 107 (.map (some (w1.heap.size+1))) (.string x) false).run Tryz.prog W2=.ok (.int .i64 ((cn:Int)+1)) W2:=by
   have:=jdh Tryz.ES Tryz.uMapSI B2 (Tryz.zeroI W2) x.data.toList false
   rw[hes2,jc8,if_pos rfl]at this;exact this
  have K2:jag (fun b=>b=w1.heap.size+1) W W2:=by rw[hW2];exact jag.onePut _ _ _
  have q6:W.cell? ⟨w1.heap.size+1+1,0,none⟩=some (.map (some (w1.heap.size+1))):=h.mv.cell (i:=0) (by rfl);have M2:=h.mv.keeps K2 (by omega);have q62:W2.cell? ⟨w1.heap.size+1+1,0,none⟩=some (.map (some (w1.heap.size+1))):=M2.cell (i:=0) (by rfl);have V2:=h1.keeps K2 (by omega);have O2:=ja7 h2 K2 (fun b hb e=>by have:=h4 b hb;omega);have X2:=h.box.keeps K2 (by omega);have A2:=AtIs.keeps K2 (fun y hy e=>by have:=HALO.o y hy;omega) _ h.at';have E2:=h.ext.trans' K2 (fun y hy e=>by omega);have hV2:=V2.cell (i:=0) (v:=.slice ad n cp) (by rfl);have hV2f:W2.frozen? ⟨w1.heap.size,0,none⟩=false:=V2.frozen;have HMEM:=Hd (show memB (ja9 (L.take k)) x=true↔cn≠0 from by
   rw[jfL,jbC,hcn];unfold cntB;rw[←Nat.pos_iff_ne_zero,List.count_pos_iff,List.mem_map]
   exact⟨fun hm=>⟨x,hm,rfl⟩,fun ⟨y,hy,e⟩=>by rw[←show y=x from ByteArray.ext (Array.ext' e)];exact hy⟩)
  have HFS:=Hd (show ja9 (L.take (k+1))=addF (ja9 (L.take k)) x by rw[hLx,jga]);have HTAB:=Hd (show ∃ es ck,Blk W2 (w1.heap.size+1) (.map (Tryz.ES.arr es) ck)∧∀ y:ByteArray,jbh es y.data.toList=cntV (cntB (L.take (k+1)) y)from⟨es2,ck2,B2,e7⟩);have HK2:=Hd K2;have HM2:=Hd M2;have HV2:=Hd V2;have HO2:=Hd O2;have HX2:=Hd X2;have HA2:=Hd A2;have HE2:=Hd E2;have H4:=Hd h4;clear h h1 h2 h4 h5 h6 hx hLx hcn e6 hes2 hck2 hW2 B2 e7 K2 M2 V2 O2 X2 A2 E2 HS0
  obtain⟨i0,hi,hz0,hz1,hz2⟩:=info_parts Tryz.infoStr
  by_cases hc0:cn=0
  ·subst hc0
   have hnm:memB (ja9 (L.take k)) x=false:=by
    cases hm:memB (ja9 (L.take k)) x with
    | false=>rfl
    | true=>exact absurd rfl (HMEM.o.1 hm)
   have HNM:=Hd hnm;have hlk':(Instr.lookup 107 (.map (some (w1.heap.size+1))) (.string x) false).run Tryz.prog W=.ok (.int .i64 0) W:=hlk;have hmu':(Instr.mapUpdate 107 (.map (some (w1.heap.size+1))) (.string x) (.int .i64 1)).run Tryz.prog W=.ok () W2:=hmu;have hlk2':(Instr.lookup 107 (.map (some (w1.heap.size+1))) (.string x) false).run Tryz.prog W2=.ok (.int .i64 1) W2:=hlk2;clear hnm hlk hmu hlk2;gi_wp2_with (gi_at_builtin;refine jb5 _ rfl (.tmp 27) (.tmp 29) 34 rfl 9 i0 _ 1 16 Tryz.uStrs hi hz0 hz1 hz2 rfl (by decide) (.slice ad n cp) n _ rfl (jbx HO2.o ((ExtR W2).alloc _)) ⟨W2.heap.size,0,none⟩ 1 1 [.string x] rfl rfl (jbg (Blk.new W2 _)) (by simp[Value.oneCell']) (by unfold maxLen;omega) (by omega) ?_;intro v' w6 r1 r2 r3;obtain⟨ad',cp',rfl⟩:=ja1 r1;have hV6:=(HV2.o.alloc _).keeps r2 (fun e=>by have:=H4.o _ e;omega);have q56:w6.cell? ⟨w1.heap.size,0,none⟩=some (.slice ad n cp):=hV6.cell (i:=0) (by rfl);have f56:w6.frozen? ⟨w1.heap.size,0,none⟩=false:=hV6.frozen)
   have hadd:ja9 (L.take (k+1))=ja9 (L.take k)++[x]:=by rw[HFS.o];unfold addF;rw[if_neg (by rw[HNM.o];simp)]
   have r1':w6.ownsRow 0 9 1 (.slice ad' (n+1) cp') (n+1) ((ja9 (L.take (k+1))).map Value.string):=by rw[hadd,List.map_append];exact r1
   have K6:jag (fun b=>(Value.slice ad n cp).ownBlock=some b) W2 w6:=((jag.refl _ W2).alloc _).trans r2;have hv':∀ b,(Value.slice ad' (n+1) cp').ownBlock=some b→w9.heap.size+2≤b:=fun b hb=>by
    rcases r3 with r3 | r3
    ·exact H4.o b (r3 ▸ hb)
    ·have h9:=r3 b hb;have:=HK2.o.size;rw[World.size_alloc]at h9;omega
   have K7:jag (fun b=>b=w1.heap.size) w6 (w6.setCell ⟨w1.heap.size,0,none⟩ (.slice ad' (n+1) cp')):=jag.oneSet w6 ⟨w1.heap.size,0,none⟩ _;have nO:∀ b,b < w9.heap.size+2→¬(Value.slice ad n cp).ownBlock=some b:=fun b hb e=>by have:=H4.o b e;omega
   refine⟨((HK2.o.mono (fun y _ e=>?_)).trans (K6.mono (fun y _ e=>?_))).trans (K7.mono (fun y _ e=>?_)),?_⟩
   ·have e:y=_:=e;show y≠_∧y≠_;omega
   ·have:=H4.o y e;show y≠_∧y≠_;omega
   ·have e:y=_:=e;show y≠_∧y≠_;omega
   ·obtain⟨es3,ck3,hT1,hT2⟩:=HTAB.o
    exact⟨(HE2.o.trans' K6 (fun y hy e=>by have:=H4.o y e;omega)).trans' K7 (fun y hy e=>by have e:y=_:=e;omega),
     ⟨_,n+1,hV6.set_same (i:=0) _,ja7 r1' K7 (fun b hb e=>by have:=hv' b hb;omega),by omega,hv'⟩,
     ⟨es3,ck3,(hT1.keeps K6 (nO _ (by omega))).keeps K7 (by omega),hT2⟩,(HM2.o.keeps K6 (nO _ (by omega))).keeps K7 (by omega),(HX2.o.keeps K6 (nO _ (by omega))).keeps K7 (by omega),
     AtIs.keeps K7 (fun y hy e=>by have:=HALO.o y hy;omega) _ (AtIs.keeps K6 (fun y hy=>nO y (by have:=HALO.o y hy;omega)) _ HA2.o)⟩
  ·have hc1:¬((cn:Int)+1=1):=by omega
   have hc2:(((cn:Int)+1) == 1)=false:=by simp;omega
   have hm:=HMEM.o.2 hc0;have HNM:=Hd hm;clear hm;gi_wp2_with fail
   have hadd:ja9 (L.take (k+1))=ja9 (L.take k):=by rw[HFS.o];unfold addF;rw[if_pos HNM.o]
   refine⟨HK2.o.mono (fun y _ e=>?_),?_⟩
   ·have e:y=_:=e;show y≠_∧y≠_;omega
   ·exact⟨HE2.o,⟨_,n,HV2.o,by rw[hadd];exact HO2.o,by omega,H4.o⟩,HTAB.o,HM2.o,HX2.o,HA2.o⟩
 case hdone =>
  intro W h hd
  obtain⟨v,n,h1,h2,h3,h4⟩:=h.var
  obtain⟨ad,cp,rfl⟩:=ja1 h2
  have q5:W.cell? ⟨w1.heap.size,0,none⟩=some (.slice ad n cp):=h1.cell (i:=0) (by rfl);rw[List.take_length,HLD.o]at h2;have H2:=Hd h2;have H4:=Hd h4;have HX:=Hd h.ext;have HD:=Hd hd;have HPT:=Hd (show at0.pt=T from HPT0.o);clear h h1 h2 h4 hd HS0;gi_wp2_with fail
  refine⟨by simp,.inl ⟨_,_,rfl,run_takeDeferred HD.o,?_⟩⟩
  refine⟨_,results_tmp2 rfl _ _ _,?_⟩
  have hK:=jag.onePut W w9.heap.size (.deferred none)
  refine⟨.slice ad n cp,n,rfl,⟨_,_,rfl⟩,by rw[←HPT.o];exact ja7 H2.o hK (fun b hb e=>by have:=H4.o b hb;omega),HX.o.putObj (.inr (by omega)) _,fun b hb=>by have:=H4.o b hb;omega⟩
 case hstop=>intro c k W _ _ h;exact h.elim
end
section
open Go Go.RowKit
theorem jjx(x:ByteArray)(r:List ByteArray):(ja9 (x :: r))[0]?=some x:=by
 unfold ja9;rw[List.foldl_cons];have h:∀ (r acc:List ByteArray),acc[0]?=some x→(r.foldl addF acc)[0]?=some x:=by
  intro r;induction r with
  | nil=>intro acc h;exact h
  | cons y r ih =>
   intro acc h;rw[List.foldl_cons];refine ih _ ?_;unfold addF;split
   ·exact h
   ·rw[List.getElem?_append_left (List.getElem?_eq_some_iff.1 h).1];exact h
 exact h r _ (by simp[addF,memB])
theorem jg2(T:PT):(ja9 (jaF T))[0]?=some T.text:=by
 obtain⟨t,ks⟩:=T
 unfold jaF;exact jjx t _
theorem jbL{t:ByteArray}:∀ {ks:List PT},t∈jaM ks↔∃ T∈ks,t∈jaF T
 | []=>by simp[jaM]
 | T :: ks=>by
  unfold jaM;rw[List.mem_append,jbL (ks:=ks)];constructor
  ·rintro (h |⟨T',h1,h2⟩)
   ·exact⟨T,List.mem_cons_self,h⟩
   ·exact⟨T',List.mem_cons_of_mem _ h1,h2⟩
  ·rintro⟨T',h1,h2⟩
   rcases List.mem_cons.1 h1 with rfl | h1
   ·exact .inl h2
   ·exact .inr ⟨T',h1,h2⟩
theorem jst{P:Program}{f:FuncId}{args:Array Value}{w:World}{R R':Value→World→Prop}
  (h:Calls P f args w fun | .returned v,w'=>R v w' | _,_=>False) (h':Calls P f args w fun | .returned v,w'=>R' v w' | _,_=>False) (hi:P.inits.idxOf? f=none) :
  ∃ v w',R v w'∧R' v w':=by
 obtain⟨n,v,w1,e1,r1⟩:=h.done hi
 obtain⟨m,v',w2,e2,r2⟩:=h'.done hi
 have a:=runN_ended e1 m;have b:=runN_ended e2 n;rw[Nat.add_comm,a]at b;injection b with ho hw;injection ho with hv;subst hv hw
 exact⟨_,_,r1,r2⟩
theorem jnU{P:Program}{f:FuncId}{args:Array Value}{w:World}{a b:Value}{R R':World→Prop}
  (h:Calls P f args w fun e w'=>e=.returned a∧R w') (h':Calls P f args w fun e w'=>e=.returned b∧R' w') (hi:P.inits.idxOf? f=none):a=b:=by
 obtain⟨v,w',h1,h2⟩:=jst (R:=fun v _=>v=a) (R':=fun v _=>v=b)
  (h.mono fun e w' hh=>by obtain⟨rfl,_⟩:=hh;rfl) (h'.mono fun e w' hh=>by obtain⟨rfl,_⟩:=hh;rfl) hi
 exact h1.symm.trans h2
theorem jmY{n m:jac}(h:n.V=m.V):n=m:=by
 obtain⟨k,p,v,rs⟩:=n
 obtain⟨k',p',v',rs'⟩:=m
 unfold jac.V jac.cells at h;injection h with h;have h:=congrArg Array.toList h;simp only[List.toList_toArray,List.cons.injEq,Value.int.injEq,Value.string.injEq]at h
 obtain⟨⟨_,h1⟩,h2,h3,h4⟩:=h
 have h5:rs=rs':=by
  have:∀ a b:List ByteArray,a.map Value.string=b.map Value.string→a=b:=fun a=>by
   induction a with
   | nil=>intro b hb;cases b with | nil=>rfl | cons x y=>cases hb
   | cons x r ih =>
    intro b hb;cases b with
    | nil=>cases hb
    | cons y t =>
     simp only[List.map_cons,List.cons.injEq,Value.string.injEq]at hb;rw[hb.1,ih t hb.2]
  exact this _ _ h4
 have h1:k=k':=by omega
 subst h1 h2 h3 h5;rfl
theorem jmX(w:World){f g:Nat}{n m:jac}(hn:jbj (InlD f) n)(hm:jbj (InlD g) m)(h:jaH n=jaH m):n=m:=by
 have h1:=jg4 (inlP f) w n hn;have h2:=jg4 (inlP g) w m hm;rw[h]at h1
 have:=jnU h1 h2 (by kernel_rfl)
 injection this with this
 have:=congrArg Array.toList this
 simp only[List.toList_toArray,List.cons.injEq]at this;exact jmY this.1
theorem jhe{T:PT}(h:T.text.size < 32):refB T.text=T.text:=by unfold refB;rw[if_pos h]
theorem jhQ{T:PT}(h:¬ T.text.size < 32):refB T.text=jam (shaB T.text):=by unfold refB;rw[if_neg h]
theorem jld{f:Nat}{T:PT}{n:jac}(h:jdI f T n)(hs:T.text.size < 32):jaF T=[T.text]:=by
 have hk:=h.small hs
 obtain⟨x,ks⟩:=T
 have hk:ks=[]:=hk;subst hk;unfold jaF jaM;rfl
theorem jfQ(T:PT):T.text∈jaF T:=by cases T;unfold jaF;exact List.mem_cons_self
theorem jeW{l:List Pair}(h:jaG 0 l):l.length≤1:=by
 rcases Nat.lt_or_ge l.length 2 with h2 | h2
 ·omega
 ·obtain⟨a,ha⟩:∃ a,l[0]?=some a:=⟨_,List.getElem?_eq_getElem (by omega)⟩
  obtain⟨b,hb⟩:∃ b,l[1]?=some b:=⟨_,List.getElem?_eq_getElem (by omega)⟩
  have hlt:=jb3 h.rise (by omega) ha hb
  have:=(h.size b (List.mem_of_getElem? hb)).1
  rw[show b.l=[]from List.eq_nil_of_length_eq_zero (by show b.1.size=0;omega)]at hlt;exact absurd hlt (jbc _)
theorem jcx{a b:ByteArray}(h:a.data.toList=b.data.toList):a=b:=by
 obtain⟨⟨a⟩⟩:=a
 obtain⟨⟨b⟩⟩:=b
 simp only at h;subst h;rfl
def jcv(r:ByteArray):Option ByteArray:=(cutN r).bind (jfx r)
def jaY(n:jac):List ByteArray:=n.refs.filterMap jcv
theorem jeK:jcv ⟨#[]⟩=none:=by
 unfold jcv cutN;rw[dif_neg (by decide)];rfl
theorem jlg{h:ByteArray}(hs:h.size=32):jcv (jam h)=some h:=by
 obtain⟨r,h1,h2⟩:=jcI h hs
 unfold jcv;rw[h1];exact h2
theorem jgc{I:ByteArray→jac→Prop}(HI:InlP I){r:ByteArray}{m:jac}(h:I r m):jcv r=none:=by
 obtain⟨q,h1,h2⟩:=HI.nohash r m h
 unfold jcv;rw[h1];exact h2
theorem jiy{f:Nat}{T:PT}{n:jac}(h:jdI f T n):(jcv (refB T.text)).toList=(jbW T).map fun k=>shaB k.text:=by
 by_cases hs:T.text.size < 32
 ·rw[jgc (inlP (f+1)) (h.may.2 hs)]
  unfold jbW;rw[if_pos hs];rfl
 ·rw[jhQ hs,jlg (jbK _)]
  unfold jbW;rw[if_neg hs];rfl
theorem jdb(k:Nat):(jat k).filterMap jcv=[]:=by
 unfold jat;rw[List.filterMap_eq_nil_iff];intro r hr;rw[List.eq_of_mem_replicate hr,jeK]
theorem jf8{α:Type}(g:α→ByteArray)(k:α→List PT):∀ L:List α,(∀ i∈L,(jcv (g i)).toList=(k i).map fun k=>shaB k.text)→(L.map g).filterMap jcv=(L.flatMap k).map fun k=>shaB k.text
 | [],_=>rfl
 | x :: L,h=>by
  rw[List.map_cons,List.flatMap_cons,List.map_append, ←jf8 g k L fun i hi=>h i (List.mem_cons_of_mem _ hi), ←h x List.mem_cons_self,List.filterMap_cons];cases jcv (g x) <;> rfl
theorem jdN(f:Nat)(l:List Pair)(h:jaG f l):jaY (jay (jad f) l)=(jaE (jad f) l).map fun k=>shaB k.text:=by
 unfold jaY
 by_cases h0:l.length=0
 ·have e1:jay (jad f) l=jav:=by unfold jay;rw[if_pos h0]
  have e2:jaE (jad f) l=[]:=by unfold jaE;rw[if_pos (by omega)]
  rw[e1,e2];exact jdb 16
 by_cases h1:l.length=1
 ·have e1:jay (jad f) l=⟨1,(l.getD 0 pd).1,(l.getD 0 pd).2,jat 16⟩:=by unfold jay;rw[if_neg h0,if_pos h1]
  have e2:jaE (jad f) l=[]:=by unfold jaE;rw[if_pos (by omega)]
  rw[e1,e2];exact jdb 16
 have h2:2≤l.length:=by omega
 cases f with
 | zero=>have:=jeW h;omega
 | succ f =>
  by_cases hk:0 < comK l
  ·have hcom:=jbF h h2
   have hok:jaG f (jax (comK l) l):=(jcA (comK l) h (fun p hp q hq=>(hcom p hp).1.trans (hcom q hq).1.symm) (fun p hp=>(hcom p hp).2)).mono (by omega);have hne:jax (comK l) l≠[]:=fun e=>by have:=jaP (comK l) l;rw[e]at this;simp at this;omega
   have hst:=(good f _ hok).2.1 hne;have e1:jay (jad (f+1)) l=⟨2,(l.getD 0 pd).1.extract 0 (comK l),⟨#[]⟩,refB (jad (f+1) (jax (comK l) l)).text :: jat 15⟩:=by unfold jay;rw[if_neg h0,if_neg h1,if_pos hk]
   have e2:jaE (jad (f+1)) l=jbW (jad (f+1) (jax (comK l) l)):=by unfold jaE;rw[if_neg (by omega),if_pos hk]
   rw[e1,e2, ←jiy hst];show (refB (jad (f+1) (jax (comK l) l)).text :: jat 15).filterMap jcv=_;rw[List.filterMap_cons,jdb];cases jcv (refB (jad (f+1) (jax (comK l) l)).text) <;> rfl
  ·have e1:(jay (jad (f+1)) l).refs=(List.range 16).map fun i=>if (cutL i l).length=0 then ⟨#[]⟩else refB (jad (f+1) (jax 1 (cutL i l))).text:=by unfold jay;rw[if_neg h0,if_neg h1,if_neg hk]
   have e2:jaE (jad (f+1)) l=(List.range 16).flatMap fun i=>if (cutL i l).length=0 then []else jbW (jad (f+1) (jax 1 (cutL i l))):=by unfold jaE;rw[if_neg (by omega),if_neg hk]
   rw[e1,e2];refine jf8 _ _ _ fun i hi=>?_
   by_cases hc:(cutL i l).length=0
   ·rw[if_pos hc,if_pos hc,jeK];rfl
   ·rw[if_neg hc,if_neg hc]
    exact jiy ((good f _ (jei i h)).2.1 (fun e=>by have:=jaP 1 (cutL i l);rw[e]at this;simp at this;omega))
theorem jig{f:Nat}{l:List Pair}(h:jaG f l){K:PT}(hK:K∈jaE (jad f) l):∃ g m,f=g+1∧K=jad (g+1) m∧jaG g m∧32≤K.text.size:=by
 have held:∀ {T:PT},K∈jbW T→K=T∧32≤K.text.size:=fun {T} h=>by
  unfold jbW at h;split at h
  ·cases h
  ·rw[List.mem_singleton]at h;subst h;exact⟨rfl,by omega⟩
 unfold jaE at hK
 by_cases h1:l.length≤1
 ·rw[if_pos h1]at hK;cases hK
 rw[if_neg h1]at hK;cases f with
 | zero=>have:=jeW h;omega
 | succ f =>
  by_cases hk:0 < comK l
  ·rw[if_pos hk]at hK
   have hcom:=jbF h (by omega);have hok:jaG f (jax (comK l) l):=(jcA (comK l) h (fun p hp q hq=>(hcom p hp).1.trans (hcom q hq).1.symm) (fun p hp=>(hcom p hp).2)).mono (by omega)
   obtain⟨e,hs⟩:=held hK
   exact⟨f,_,rfl,e,hok,hs⟩
  ·rw[if_neg hk]at hK
   obtain⟨i,_,hK⟩:=List.mem_flatMap.1 hK
   split at hK
   ·cases hK
   ·obtain⟨e,hs⟩:=held hK
    exact⟨f,_,rfl,e,jei i h,hs⟩
def jbN(t:ByteArray)(n:jac):Prop:=t=jaH n∧∃ g,jbj (InlD g) n
structure jlG(L B:List ByteArray):Prop where
 node:∀ t∈L,∃ n,jbN t n∧∀ h∈jaY n,∃ t'∈L,h=shaB t'
 told:∀ t∈B,32≤t.size∧∃ t'∈L,∃ n,jbN t' n∧shaB t∈jaY n
theorem jrl:∀ (f:Nat) (l:List Pair),jaG f l→jlG (jaF (jad (f+1) l)) (jaM (jaE (jad f) l)):=by
 intro f;induction f with
 | zero =>
  intro l h;have e2:jaE (jad 0) l=[]:=by have:=jeW h;unfold jaE;rw[if_pos (by omega)]
  have eT:jaF (jad (0+1) l)=[jaH (jay (jad 0) l)]:=by
   show jaF (.mk (jaH (jay (jad 0) l)) (jaE (jad 0) l))=_;rw[jaF,e2];simp[jaM]
  have hh:=jdN 0 l h;rw[e2]at hh;rw[eT,e2]
  refine⟨fun t ht=>?_,fun t ht=>by simp[jaM]at ht⟩
  rw[List.mem_singleton]at ht
  exact⟨_,⟨ht,0,(good 0 l h).1⟩,fun x hx=>by rw[hh]at hx;cases hx⟩
 | succ f ih =>
  intro l h;have eT:jaF (jad (f+1+1) l)=jaH (jay (jad (f+1)) l) :: jaM (jaE (jad (f+1)) l):=by
   show jaF (.mk (jaH (jay (jad (f+1)) l)) (jaE (jad (f+1)) l))=_;rw[jaF]
  have hh:=jdN (f+1) l h;have hroot:jbN (jaH (jay (jad (f+1)) l)) (jay (jad (f+1)) l):=⟨rfl,f+1,(good (f+1) l h).1⟩;have hsub:∀ {K:PT},K∈jaE (jad (f+1)) l→∀ t∈jaF K,t∈jaF (jad (f+1+1) l):=fun {K} hK t ht=>by
   rw[eT];exact List.mem_cons_of_mem _ (jbL.2 ⟨K,hK,ht⟩)
  have hkid:∀ {K:PT},K∈jaE (jad (f+1)) l→∃ m,K=jad (f+1) m∧jaG f m∧32≤K.text.size:=fun {K} hK=>by
   obtain⟨g,m,e,h1,h2,h3⟩:=jig h hK
   obtain rfl:f=g:=by omega
   exact⟨m,h1,h2,h3⟩
  constructor
  ·intro t ht
   rw[eT]at ht;rcases List.mem_cons.1 ht with rfl | ht
   ·refine⟨_,hroot,fun x hx=>?_⟩
    rw[hh]at hx
    obtain⟨K,hK,rfl⟩:=List.mem_map.1 hx
    exact⟨_,hsub hK _ (jfQ K),rfl⟩
   ·obtain⟨K,hK,ht⟩:=jbL.1 ht
    obtain⟨m,rfl,hm,_⟩:=hkid hK
    obtain⟨n,h1,h2⟩:=(ih m hm).node t ht
    exact⟨n,h1,fun x hx=>by obtain⟨t',ht',e⟩:=h2 x hx;exact⟨t',hsub hK _ ht',e⟩⟩
  ·intro t ht
   obtain⟨K,hK,ht⟩:=jbL.1 ht
   obtain⟨m,rfl,hm,h32⟩:=hkid hK
   have eK:jaF (jad (f+1) m)=jaH (jay (jad f) m) :: jaM (jaE (jad f) m):=by
    show jaF (.mk (jaH (jay (jad f) m)) (jaE (jad f) m))=_;rw[jaF]
   rw[eK]at ht;rcases List.mem_cons.1 ht with rfl | ht
   ·refine⟨h32,_,?_,_,hroot,?_⟩
    ·rw[eT];exact List.mem_cons_self
    ·rw[hh];exact List.mem_map.2 ⟨_,hK,rfl⟩
   ·obtain⟨h1,t',ht',n,h2,h3⟩:=(ih m hm).told t ht
    exact⟨h1,t',hsub hK _ ht',n,h2,h3⟩
theorem jfs(l:List ByteArray):(ja9 l).Nodup:=by
 unfold ja9
 have:∀ (l acc:List ByteArray),acc.Nodup→(l.foldl addF acc).Nodup:=fun l=>by
  induction l with
  | nil=>exact fun _ h=>h
  | cons x r ih =>
   intro acc h;rw[List.foldl_cons];refine ih _ ?_;unfold addF;split
   ·exact h
   ·rename_i hn
    have hm:x ∉ acc:=fun hx=>hn ((jfL acc x).2 hx);rw[List.nodup_append]
    exact⟨h,by simp,fun a ha b hb e=>by simp at hb;subst hb;subst e;exact hm ha⟩
 exact this l [] (by simp)
structure jrd(L:List ByteArray)(top:ByteArray):Prop where
 head:L[0]?=some top
 nodup:L.Nodup
 node:∀ t∈L,∃ n,jbN t n∧∀ h∈jaY n,∃ t'∈L,h=shaB t'
 told:∀ (i:Nat) t,L[i+1]?=some t→32≤t.size∧∃ t'∈L,∃ n,jbN t' n∧shaB t∈jaY n
theorem jo4{l:List Pair}(h:ja6 l=0):jrd (ja9 (jaF (ja5 l))) (ja5 l).text:=by
 have hc:=jrl 12 (ja3 l) (jdu (jbS h));have eT:jaF (ja5 l)=(ja5 l).text :: jaM (jaE (jad 12) (ja3 l)):=by
  show jaF (.mk (jaH (jay (jad 12) (ja3 l))) (jaE (jad 12) (ja3 l)))=_;rw[jaF];rfl
 have hc:jlG (jaF (ja5 l)) (jaM (jaE (jad 12) (ja3 l))):=hc;have hnd:=jfs (jaF (ja5 l))
 refine⟨jg2 _,hnd,fun t ht=>?_,fun i t ht=>?_⟩
 ·obtain⟨n,h1,h2⟩:=hc.node t ((jbC _ _).1 ht)
  exact⟨n,h1,fun x hx=>by obtain⟨t',ht',e⟩:=h2 x hx;exact⟨t',(jbC _ _).2 ht',e⟩⟩
 ·have hm:=(jbC _ _).1 (List.mem_of_getElem? ht)
  have hne:t≠(ja5 l).text:=fun e=>by
   have h0:=jg2 (ja5 l)
   obtain⟨h1,e1⟩:=List.getElem?_eq_some_iff.1 ht
   obtain⟨h2,e2⟩:=List.getElem?_eq_some_iff.1 h0
   exact List.pairwise_iff_getElem.1 hnd 0 (i+1) h2 h1 (by omega) (e2.trans (e.symm.trans e1.symm))
  rw[eT]at hm;rcases List.mem_cons.1 hm with e | hm
  ·exact absurd e hne
  ·obtain⟨h1,t',ht',n,h2⟩:=hc.told t hm
   exact⟨h1,t',(jbC _ _).2 ht',n,h2⟩
theorem jdd(w:World){t:ByteArray}{n m:jac}(h:jbN t n)(k:jbN t m):n=m:=by
 obtain⟨h1,f,h2⟩:=h
 obtain⟨k1,g,k2⟩:=k
 exact jmX w h2 k2 (h1.symm.trans k1)
end
end Go.Proofs.YtcpnjmcipainpaaGreatDoor
