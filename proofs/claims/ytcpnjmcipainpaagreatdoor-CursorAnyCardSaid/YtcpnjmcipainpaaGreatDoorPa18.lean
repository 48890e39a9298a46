/- Parts of the proof, one behind the other: CanonJ, CanonK, CanonL, CanonM, CanonN, CanonO, TextsA, GrowA, CanonPb, FewB, SmallA, PreB, CurA, RefPl. Each is under no condition but those that it states. -/
import Derived.Test.YtcpnjmcipainpaaGreatDoorPa17
import Derived.Test.YtcpnjmcipainpaaGreatDoorPa9
import Derived.Test.YtcpnjmcipainpaaGreatDoorPa4
namespace Go.Proofs.YtcpnjmcipainpaaGreatDoor
set_option linter.unusedSimpArgs false
set_option linter.unusedVariables false
set_option maxRecDepth 100000
set_option maxHeartbeats 16000000
section
open Go Go.RowKit
def ksK(B:List Pair→PT)(l:List Pair)(k:Nat):List PT:=(List.range k).flatMap fun i=>if (cutL i l).length=0 then []else jbV (B (jax 1 (cutL i l)))
theorem jeV(B:List Pair→PT)(l:List Pair)(k:Nat):ksK B l (k+1)=ksK B l k++(if (cutL k l).length=0 then []else jbV (B (jax 1 (cutL k l)))):=by
 unfold ksK;rw[List.range_succ,List.flatMap_append];simp
def jpX(w:World)(bn:Nat)(B:List Pair→PT)(l:List Pair)(rs:List ByteArray)(i:Value)(wr:World):Prop:=∃ k:Nat,k≤16∧i=.int .i64 k∧∃ u bs,jcA w wr w.heap.size bn ⟨#[]⟩ (ksK B l k) u bs∧bs.length≤k∧Blk wr bn (.cells (brN rs k).cells.toArray 144)
theorem jdD{P:Program}{o:Oper}{a:Act}{w:World}{K:Act→World→Prop}{Q:Exit→Act→World→Prop}{f:FuncId}{args:Array Value}(hv:(execOp a.eval o).run P w=.ok (.enter f args) w)(h:Calls P f args w (fun e w2=>∃ v,e=.returned v∧K (a.put o.dst v) w2)):o.wp P a w K Q:=by
 unfold Oper.wp;rw[hv];exact h.mono fun e w2 ⟨v,he,hk⟩=>by subst he;exact hk
theorem Tryz.enterCut:∀ args w,(callFunc 127 args).run Tryz.prog w=.ok (.enter 127 args) w:=fun _ _=>by kernel_rfl
theorem Tryz.enterWithout:∀ args w,(callFunc 126 args).run Tryz.prog w=.ok (.enter 126 args) w:=fun _ _=>by kernel_rfl
theorem Tryz.enterHold:∀ args w,(callFunc 125 args).run Tryz.prog w=.ok (.enter 125 args) w:=fun _ _=>by kernel_rfl
theorem jho(f:Nat)(l:List Pair)(h2:2≤l.length)(hln:l.length≤1000)(hok:ja3 (f+1) l)(hk:¬ 0 < comK l)(HB:∀ i,(cutL i l).length≠0→je1 (jax 1 (cutL i l)) (jad (f+1) (jax 1 (cutL i l)))):je1 l (jad (f+1+1) l):=by
 intro w v hc hv
 obtain⟨a,ha⟩:∃ a,l[0]?=some a:=⟨_,List.getElem?_eq_getElem (by omega)⟩
 obtain⟨z,hz⟩:∃ z,l[l.length - 1]?=some z:=⟨_,List.getElem?_eq_getElem (by omega)⟩
 have ga:l.getD 0 pd=a:=by rw[List.getD_eq_getElem?_getD,ha];rfl
 have gz:l.getD (l.length - 1) pd=z:=by rw[List.getD_eq_getElem?_getD,hz];rfl
 obtain⟨sa1,sa2,sa3,sa4,sa5⟩:=hok.size a (List.mem_of_getElem? ha)
 obtain⟨sz1,sz2,sz3,sz4,sz5⟩:=hok.size z (List.mem_of_getElem? hz)
 have hgood:=(good (f+1) l hok).1;have hrd:=hv;rcases hv with⟨_,_,_,h0⟩ |⟨b,o,c,rfl,hb,hcl,hcell⟩
 ·rw[h0]at h2;simp at h2
 obtain⟨q1,q1v⟩:=hcell 0 a ha
 rw[Nat.zero_mul,Nat.add_zero]at q1 q1v
 obtain⟨q2,_⟩:=hcell (l.length - 1) z hz
 obtain⟨kk,hkk⟩:∃ kk,kk=comK l:=⟨_,rfl⟩
 have hkc:kk=jcc a.1 z.1:=by rw[hkk];unfold comK;rw[ga,gz]
 obtain⟨x,y⟩:=a
 obtain⟨xb,yb⟩:=z
 simp only at sa1 sa2 sa3 sa4 sa5 sz1 sz2 sz3 sz4 sz5 q1 q1v q2 hkc
 obtain⟨rs,hrs⟩:∃ rs,rs=(List.range 16).map fun i=>if (cutL i l).length=0 then (⟨#[]⟩:ByteArray)else refB (jad (f+1) (jax 1 (cutL i l))).text:=⟨_,rfl⟩
 obtain⟨val,hval⟩:∃ val,val=(if x.size=0 then y else (⟨#[]⟩:ByteArray)):=⟨_,rfl⟩
 have hn:jaJ (jad (f+1)) l=⟨3,⟨#[]⟩,val,rs⟩:=by unfold jaJ;rw[if_neg (by omega),if_neg (by omega),if_neg hk,ga,hrs,hval]
 rw[hn]at hgood;have ht:jad (f+1+1) l=.mk (jaK ⟨3,⟨#[]⟩,val,rs⟩) (ksK (jad (f+1)) l 16):=by
  show PT.mk (jaK (jaJ _ l)) (jaB _ l)=_;rw[hn];unfold jaB;rw[if_neg (by omega),if_neg hk];rfl
 obtain⟨T,hT⟩:∃ T,T=jad (f+1+1) l:=⟨_,rfl⟩
 rw[←hT]at ht ⊢;have hrl:rs.length=16:=by rw[hrs];simp
 have hri:∀ i,i < 16→rs[i]?=some (if (cutL i l).length=0 then (⟨#[]⟩:ByteArray)else refB (jad (f+1) (jax 1 (cutL i l))).text):=fun i hi=>by
  rw[hrs,List.getElem?_map,List.getElem?_range hi];rfl
 have hkid:∀ i,(cutL i l).length≠0→joQ (jad (f+1) (jax 1 (cutL i l))):=fun i hi =>
  (((good f _ (jdR i hok)).2.1 (fun e=>by have:=jaC 1 (cutL i l);rw[e]at this;simp at this;omega)).kid)
 have hsz:∀ p∈l,p.1.size≤1000000:=fun p hp=>by have:=(hok.size p hp).2.1;omega
 have hcs:∀ i,∀ p∈cutL i l,1≤p.1.size∧p.1.size≤1000000:=fun i p hp=>by
  obtain⟨hm,a',r',e',_⟩:=jbU hp
  exact⟨by show 1≤p.1.data.toList.length;rw[show p.1.data.toList=a' :: r' from e'];simp,hsz p hm⟩
 have hcn:∀ i,(cutL i l).length≤1000:=fun i=>Nat.le_trans (List.length_filter_le _ _) hln;have c0:((l.length:Int) == 0)=false:=by simp;exact fun e=>by rw[e]at h2;simp at h2
 have c1:¬(l.length:Int)=0:=by omega
 have c2:((l.length:Int) == 1)=false:=by simp;omega
 have c3:¬(l.length:Int)=1:=by omega
 have c4:(0:Int)≤(l.length:Int) - 1:=by omega
 have c5:(l.length:Int) - 1 < (l.length:Int):=by omega
 have c6:((l.length:Int) - 1).toNat=l.length - 1:=by omega
 have c7:(0:Int) < (l.length:Int):=by omega
 have d7:0 < l.length:=by omega
 rw[←hkk]at hk;have d0:¬ 0 < kk:=hk;have e0:¬(0:Int) < (kk:Int):=by omega
 have HT:=Hd ht;have Q1:=Hd q1;have Q1V:=Hd q1v;have Q2:=Hd q2;have HKK:=Hd hkc;have HG:=Hd hgood;have HRD:=Hd hrd;have HSZ:=Hd hsz;have HCS:=Hd hcs;have HCN:=Hd hcn;have HKID:=Hd hkid;have HRI:=Hd hri;have HRL:=Hd hrl;have HVAL:=Hd hval;have HBB:=Hd HB;have HC:=Hd hc;clear hc ha hz ga gz hok hgood hrd hcell q1 q1v q2 hkk hkc hsz hcs hcn hkid hri hrl hval hrs hn ht hT HB sa3 sz3
 obtain⟨W1,hW1⟩:∃ W1,W1=w.alloc (.cells #[.string ⟨#[]⟩,.slice none 0 0] 159):=⟨_,rfl⟩
 go_enter Tryz.func78,Tryz.ntmps78;go_wp2_with (refine jak Tryz.allocNode rfl rfl ?_;intro W3 hB3 hE3;refine jaf (vs:=jar.cells) rfl rfl rfl rfl hB3 rfl Tryz.szNode (jac.one _) ?_;intro W4 hB4 hE4;simp only[World.size_alloc]at hB4 hE4)
 have hE34:Ext W1 W4:=by
  rw[←hW1]at hE3;exact hE3.trans' hE4 (fun x hx e=>by have e:x=w.heap.size+1:=e;rw[hW1,World.size_alloc]at hx;omega)
 have hh:=jny w W1 W4 (w.heap.size+1) hW1 hE34 (by rw[hW1,World.size_alloc]) hB4.lt;have HH0:=Hd hh;have HB4:=Hd hB4;have HX:=Hd hh.row.ext;clear hE3 hE4 hB3 hW1 hB4 hE34 hh;refine jas [0,1,2,3,4,5,6,7,8,9,10,11,12,13] Ext ExtR ExtT (by kernel_rfl) (by kernel_rfl) (by kernel_rfl) ?_;iterate 3 (refine jai _ rfl (by kernel_rfl) rfl rfl (fun K hK=>?_);go_big_quiet_op;refine hK _ ?_;clear hK K)
 refine jan ⟨b,o,none⟩ _ rfl (by kernel_rfl) rfl rfl (fun w1 h1=>jaa Tryz.uStr rfl (jab (jab (by exact Q1.o) (HX.o.trans (jav _))) h1)) ?_;simp only[Act.put,sA,sB,sC];iterate 6 (refine jai _ rfl (by kernel_rfl) rfl rfl (fun K hK=>?_);go_big_quiet_op;refine hK _ ?_;clear hK K)
 refine jan ⟨b,o+(l.length - 1) * 2,none⟩ _ rfl (by kernel_rfl) rfl rfl (fun w1 h1=>jaa Tryz.uStr rfl (jab (jab (by exact Q2.o) (HX.o.trans (jav _))) h1)) ?_;simp only[Act.put,sA,sB,sC];refine jaN _ 124 #[.string x,.string xb] (.int .i64 (kk:Nat)) rfl (by kernel_rfl) rfl (fun w1=>jaw Tryz.enterCommon (by kernel_rfl)) (fun w1 h1=>by rw[HKK.o];exact (jgB w1 x xb (by omega) (by omega)).mono (fun e w2 ⟨h1,n,h2⟩=>⟨h1,by rw[h2];exact (ExtR w1).drewN n⟩)) ?_;simp only[Act.put,sA,sB,sC];iterate 2 (refine jai _ rfl (by kernel_rfl) rfl rfl (fun K hK=>?_);go_big_quiet_op;refine hK _ ?_;clear hK K)
 refine jaU (by kernel_rfl) (fun w5 he=>?_);have hX5:=(jav W4).trans he;have HH5:=Hd (HH0.o.ext hX5);have HB5:=Hd (HB4.o.keeps hX5 (fun h=>h));have HX:=Hd (HX.o.trans hX5);clear he hX5 HH0 HB4;have q0:=HB5.o.cell (i:=0) (v:=.int .i64 0) (by rfl);have f0:w5.frozen? ⟨w.heap.size+1,0,none⟩=false:=HB5.o.frozen;have K6:=jae.oneSet w5 ⟨w.heap.size+1,0,none⟩ (.int .i64 3);have HH6:=Hd (HH5.o.other K6);have HB6:Hid (Blk (w5.setCell ⟨w.heap.size+1,0,none⟩ (.int .i64 3)) (w.heap.size+1) (.cells (brN rs 0).cells.toArray 144)):=Hd (HB5.o.set_same (i:=0) (.int .i64 3));clear K6 HB5 HH5 HX;go_wp2_with fail
 go_loopw [11] (fun i wr=>jpX w (w.heap.size+1) (jad (f+1)) l rs i wr) (fun i _=>16 - (intOf i).toNat)
 case atStart=>exact⟨0,by omega,rfl,_,[],HH6.o,by simp,HB6.o⟩
 case round =>
  obtain⟨k,hk16,rfl,u,bs,hH,hbs,hB⟩:=hrel
  obtain⟨au,cu,hu⟩:=hH.row.sl
  subst hu;have HH:=Hd hH;have HB:=Hd hB;have HX:=Hd hH.row.ext;clear hH hB
  by_cases hlt:k < 16
  ·have b1:(k:Int) < 16:=by omega
   have hwb:=HH.o.ml;have QI:=Hd (show (wr.alloc (.cells #[.int .i64 (k:Int)] 3)).cell? ⟨wr.heap.size,0,none⟩=some (.int .i64 (k:Int))from(Blk.new wr _).cell (by rfl));have hno:=jpz HH.o.row;have hwp:w.heap.size < wr.heap.size:=HH.o.blk.lt;have NF:=Hd (show ¬(wr.heap.size=w.heap.size∨wr.heap.size=w.heap.size+1∨(Value.slice au bs.length cu).ownBlock=some wr.heap.size)from fun h=>by
    rcases h with h | h | h
    ·omega
    ·omega
    ·exact hno h)
   clear hno;go_wp2_with fail
   refine jbR [0,1,2,3,7,4,5,6,8,9] [4,5,6,9] Ext (jae (fun x=>x=w.heap.size∨x=w.heap.size+1∨(Value.slice au bs.length cu).ownBlock=some x)) ExtR ExtT (fun x y z h k=>jae.trans h k) (fun x y h=>h.mono (fun _ _ h=>h.elim)) (by kernel_rfl) (by kernel_rfl) (by kernel_rfl) ?_;refine jb3 ⟨wr.heap.size,0,none⟩ _ rfl (by kernel_rfl) rfl rfl (fun w2 h2=>jaa Tryz.uInt rfl (jaY (by exact QI.o) h2 (by exact NF.o))) ?_;simp only[Act.put,sA,sB,sC];iterate 4 (refine ja5 _ rfl (by kernel_rfl) rfl rfl (fun K hK=>?_);go_big_quiet_op;refine hK _ ?_;clear hK K)
   refine jbz _ rfl (by kernel_rfl) rfl (fun w1 he K hK=>?_);have hX1:=(((ExtR wr).alloc (.cells #[.int .i64 (k:Int)] 3)).trans (jav _)).trans he;have hI1:=jab (jab QI.o (jav _)) he;refine jdD (jaw Tryz.enterCut (by kernel_rfl)) ((jql w1 _ wr.heap.size k l (HRD.o.ext (HX.o.trans hX1)) (by omega) HSZ.o (by omega) hI1).mono ?_);rintro e w2 ⟨v2,n2,rfl,hr2⟩;have HR2:=Hd hr2.rd;have HX2:=Hd (hX1.trans hr2.ext)
   refine⟨_,rfl,hK _ _ (hr2.ext.mono (fun _ _ h=>h.elim)) ?_⟩
   obtain⟨a2,c2,hv2⟩:=hr2.rd.sl
   subst hv2;clear hK K he hX1 hI1 hr2;simp only[Act.put,sA,sB,sC];refine jbz _ rfl (by kernel_rfl) rfl (fun w3 he K hK=>?_);refine jdD (jaw Tryz.enterWithout (by kernel_rfl)) ((jig w3 _ 1 (cutL k l) (HR2.o.ext he) (by have:=HCN.o k;omega) (HCS.o k)).mono ?_);rintro e w4 ⟨v4,rfl,hr4⟩;have HR4:=Hd hr4.rd;have HX4:=Hd ((HX2.o.trans he).trans hr4.ext)
   refine⟨_,rfl,hK _ _ (hr4.ext.mono (fun _ _ h=>h.elim)) ?_⟩
   obtain⟨a4,c4',hv4⟩:=hr4.rd.sl
   subst hv4;clear hK K he hr4 HR2 HX2;simp only[Act.put,sA,sB,sC];refine jbz _ rfl (by kernel_rfl) rfl (fun w5' he K hK=>?_);have HX5:=Hd (HX4.o.trans he);have HR5:=Hd (HR4.o.ext he);have HH5:=Hd (HH.o.ext HX5.o);have hC5:=HC.o.ext (HX.o.trans HX5.o)
   obtain⟨rk,hrk⟩:∃ rk,rk=(if (cutL k l).length=0 then (⟨#[]⟩:ByteArray)else refB (jad (f+1) (jax 1 (cutL k l))).text):=⟨_,rfl⟩
   refine jdD (f:=125) (args:=#[ptrV w.heap.size,.slice a4 (jax 1 (cutL k l)).length c4']) (jaw Tryz.enterHold (by kernel_rfl)) ((show Calls _ _ _ _ (fun e w'=>∃ u' bs',e=.returned (.string rk)∧jcA w w' w.heap.size (w.heap.size+1) ⟨#[]⟩ (ksK (jad (f+1)) l (k+1)) u' bs'∧bs'.length≤bs.length+1∧Ext w w'∧jae (fun x=>x=w.heap.size∨(Value.slice au bs.length cu).ownBlock=some x) w5' w')from ?hold).mono ?_)
   case hold =>
    rw[jeV]
    by_cases hc0:(cutL k l).length=0
    ·rw[hrk,if_pos hc0,if_pos hc0,List.append_nil,jaC,hc0]
     refine (jnB w5' w.heap.size a4 c4').mono ?_;rintro e w6 ⟨rfl,rfl⟩
     exact⟨_,bs,rfl,HH5.o,by omega,HH5.o.row.ext,jae.refl _ _⟩
    ·rw[hrk,if_neg hc0,if_neg hc0]
     exact joF hC5 HH5.o (by omega) _ (jax 1 (cutL k l)) HR5.o (fun e=>hc0 (by have:=jaC 1 (cutL k l);rw[e]at this;simpa using this.symm)) (by rw[jaC];have:=HCN.o k;omega) _ (HKID.o k hc0) (HBB.o k hc0 w5' _ hC5 HR5.o)
   rintro e w6 ⟨u6,bs6,rfl,h6,hb6,hE6,hk6⟩
   refine⟨_,rfl,hK _ _ (hk6.mono (fun x _ h=>h.elim .inl (fun h=>.inr (.inr h)))) ?_⟩
   have hB6:=(HB.o.keeps HX5.o (fun h=>h)).keeps hk6 (fun h=>by
    rcases h with h | h
    ·omega
    ·exact HH.o.mb h)
   have HB6:=Hd hB6;have HH6:=Hd h6;have HRK:=Hd ((HRI.o k hlt).trans (by rw[←hrk]));clear hK K he h6 hE6 hk6 hB6 hC5 hrk HR4 HR5 HH5;simp only[Act.put,sA,sB,sC]
   (refine ja5 _ rfl (by kernel_rfl) rfl rfl (fun K hK=>?_);go_big_quiet_op;refine hK _ ?_;clear hK K)
   refine jbz _ rfl (by kernel_rfl) rfl (fun w7 he K hK=>?_);have hB7:=HB6.o.keeps he (fun h=>h)
   obtain⟨old,q7⟩:∃ v,w7.cell? ⟨w.heap.size+1,3+k,none⟩=some v:=⟨_,hB7.cellL (List.getElem?_eq_getElem (by rw[jac.cells_len _ (jio HRL.o hk16)];omega))⟩
   have f7:w7.frozen? ⟨w.heap.size+1,3+k,none⟩=false:=hB7.frozen;have hB8:=hB7.set_same (i:=3+k) (.string rk);rw[show (brN rs k).cells.toArray.setIfInBounds (3+k) (.string rk)=((brN rs k).cells.set (3+k) (.string rk)).toArray by simp,jip HRL.o hlt rk HRK.o]at hB8;have HB8:=Hd hB8;have K8:=jae.oneSet w7 ⟨w.heap.size+1,3+k,none⟩ (.string rk);have HH8:=Hd ((HH6.o.ext he).other K8);have HD8:=Hd (K8.mono (G:=fun x=>x=w.heap.size∨x=w.heap.size+1∨(Value.slice au bs.length cu).ownBlock=some x) (fun x _ e=>.inr (.inl e)));clear he hB7 hB8 K8 HB6 HH6;go_simp;refine hK _ _ HD8.o ?_;clear hK K q7 f7;refine jed (by kernel_rfl) (fun w9 he=>?_);have HH9:=Hd (HH8.o.ext he);have HB9:=Hd (HB8.o.keeps he (fun h=>h));clear he HH8 HB8 HD8;go_wp2_with fail
   go_roundw
   case rel=>exact⟨k+1,by omega,by go_num,u6,bs6,HH9.o,by omega,HB9.o⟩
   case measure=>simp[intOf];omega
  ·have hk16':k=16:=by omega
   subst hk16';have e16:brN rs 16=⟨3,⟨#[]⟩,⟨#[]⟩,rs⟩:=by unfold brN jau;rw[List.take_of_length_le (by have:=HRL.o;omega)];simp
   have hB:=HB.o;rw[e16]at hB;have q1:=jab Q1.o HX.o
   by_cases hx0:x.size=0
   ·have hxe:=jbS hx0
    have hv:val=y:=by rw[HVAL.o,if_pos hx0]
    have q1v:=jab Q1V.o HX.o;subst hxe;have q2:wr.cell? ⟨w.heap.size+1,2,none⟩=some (.string ⟨#[]⟩):=hB.cellL (by rfl);have f2:wr.frozen? ⟨w.heap.size+1,2,none⟩=false:=hB.frozen;have hB2:=hB.set_same (i:=2) (.string y);rw[show (jac.cells ⟨3,⟨#[]⟩,⟨#[]⟩,rs⟩).toArray.setIfInBounds 2 (.string y)=(jac.cells ⟨3,⟨#[]⟩,y,rs⟩).toArray by simp[jac.cells]]at hB2;have HB11:=Hd (show Blk (wr.setCell ⟨w.heap.size+1,2,none⟩ (.string y)) (w.heap.size+1) (.cells (jac.cells ⟨3,⟨#[]⟩,val,rs⟩).toArray 144)from by rw[hv];exact hB2);have HH:=Hd (HH.o.other (jae.oneSet wr ⟨w.heap.size+1,2,none⟩ (.string y)));have HV:=Hd hv;clear hB hB2 e16 hv;go_wp2_with (refine jah 144 (.tmp 4) rfl rfl _ _ rfl (jap _ _ ⟨3,⟨#[]⟩,val,rs⟩ HRL.o HB11.o) ?_)
    refine (jhT (inlP _) _ ⟨3,⟨#[]⟩,val,rs⟩ HG.o).mono ?_;rintro e w9 ⟨rfl,hE⟩;have h9:=HH.o.ext hE;have q0:w9.cell? ⟨w.heap.size,0,none⟩=some (.string ⟨#[]⟩):=h9.blk.cell (i:=0) (by rfl);have f0:w9.frozen? ⟨w.heap.size,0,none⟩=false:=h9.blk.frozen;have H9:=Hd (h9.setText (jaK ⟨3,⟨#[]⟩,val,rs⟩))
    obtain⟨tx,htx⟩:∃ tx,tx=jaK ⟨3,⟨#[]⟩,val,rs⟩:=⟨_,rfl⟩
    rw[←htx]at H9 ⊢;have HTX:=Hd htx;clear h9 hE htx;go_wp2_with fail
    go_ret
    exact⟨w.heap.size,rfl,by rw[HT.o, ←HTX.o];exact H9.o.part,H9.o.row.ext⟩
   ·have hne:=jaO (s:=x) (by omega)
    have hv:val=⟨#[]⟩:=by rw[HVAL.o,if_neg hx0]
    rw[←hv]at hB;have HB11:=Hd (show Blk wr (w.heap.size+1) (.cells (jac.cells ⟨3,⟨#[]⟩,val,rs⟩).toArray 144)from by rw[hv]at hB ⊢;exact hB);have HV:=Hd hv;clear hB e16 hv;go_wp2_with (refine jah 144 (.tmp 4) rfl rfl _ _ rfl (jap _ _ ⟨3,⟨#[]⟩,val,rs⟩ HRL.o HB11.o) ?_)
    refine (jhT (inlP _) _ ⟨3,⟨#[]⟩,val,rs⟩ HG.o).mono ?_;rintro e w9 ⟨rfl,hE⟩;have h9:=HH.o.ext hE;have q0:w9.cell? ⟨w.heap.size,0,none⟩=some (.string ⟨#[]⟩):=h9.blk.cell (i:=0) (by rfl);have f0:w9.frozen? ⟨w.heap.size,0,none⟩=false:=h9.blk.frozen;have H9:=Hd (h9.setText (jaK ⟨3,⟨#[]⟩,val,rs⟩))
    obtain⟨tx,htx⟩:∃ tx,tx=jaK ⟨3,⟨#[]⟩,val,rs⟩:=⟨_,rfl⟩
    rw[←htx]at H9 ⊢;have HTX:=Hd htx;clear h9 hE htx;go_wp2_with fail
    go_ret
    exact⟨w.heap.size,rfl,by rw[HT.o, ←HTX.o];exact H9.o.part,H9.o.row.ext⟩
theorem jiq:∀ (f:Nat) (l:List Pair),ja3 f l→l.length≤1000→je1 l (jad (f+1) l)
 | f,l,hok,hln=>by
  by_cases h0:l.length=0
  ·exact jjW f l h0
  by_cases h1:l.length=1
  ·exact jld f l h1 hok
  have h2:2≤l.length:=by omega
  cases f with
  | zero =>
   exfalso
   obtain⟨a,ha⟩:∃ a,l[0]?=some a:=⟨_,List.getElem?_eq_getElem (by omega)⟩
   obtain⟨b,hb⟩:∃ b,l[1]?=some b:=⟨_,List.getElem?_eq_getElem (by omega)⟩
   have hlt:=jb4 hok.rise (by omega) ha hb
   have:=(hok.size b (List.mem_of_getElem? hb)).1
   rw[show b.l=[]from List.eq_nil_of_length_eq_zero (by show b.1.size=0;omega)]at hlt;exact jaQ _ hlt
  | succ f =>
   by_cases hk:0 < comK l
   ·exact jlc f l h2 hln hok hk (jiq f _ ((jcv (comK l) hok (fun p hp q hq=>((jbZ hok h2 p hp).1).trans (jbZ hok h2 q hq).1.symm) (fun p hp=>(jbZ hok h2 p hp).2)).mono (by omega)) (by rw[jaC];exact hln))
   ·exact jho f l h2 hln hok hk (fun i _=>jiq f _ (jdR i hok) (by rw[jaC];exact Nat.le_trans (List.length_filter_le _ _) hln))
theorem jl3(b:UInt8):(b >>> 4).toNat=b.toNat / 16:=by
 have:∀ c:Fin 256,(UInt8.ofNat c.1 >>> 4).toNat=c.1 / 16:=by decide
 have h:=this ⟨b.toNat,b.toNat_lt⟩;simpa using h
theorem jl4(b:UInt8):(b &&& 15).toNat=b.toNat % 16:=by
 have:∀ c:Fin 256,(UInt8.ofNat c.1 &&& 15).toNat=c.1 % 16:=by decide
 have h:=this ⟨b.toNat,b.toNat_lt⟩;simpa using h
theorem jgN:∀ (a b:List UInt8),Lt a b→Lt (jcg a) (jcg b)
 | a,[],h=>absurd h (jaQ _)
 | [],y :: b,_=>rfl
 | x :: a,y :: b,h=>by
  show Lt ((x >>> 4) ::(x &&& 15) :: jcg a) ((y >>> 4) ::(y &&& 15) :: jcg b);have hx:=jl3 x;have hy:=jl3 y;have lx:=jl4 x;have ly:=jl4 y;rcases ja0.1 h with h |⟨he,h2⟩
  ·have h:=UInt8.lt_iff_toNat_lt.1 h
   by_cases hh:x.toNat / 16 < y.toNat / 16
   ·exact ja0.2 (.inl (UInt8.lt_iff_toNat_lt.2 (by omega)))
   ·refine ja0.2 (.inr ⟨UInt8.toNat_inj.1 (by omega),ja0.2 (.inl (UInt8.lt_iff_toNat_lt.2 (by omega)))⟩)
  ·subst he;exact ja0.2 (.inr ⟨rfl,ja0.2 (.inr ⟨rfl,jgN a b h2⟩)⟩)
theorem jew(s:ByteArray):jbc (jaL s)=true:=by
 unfold jbc jaL;rw[List.all_eq_true];intro x hx;have hx:x∈jcg s.data.toList:=hx;unfold jcg at hx
 obtain⟨b,_,hb⟩:=List.mem_flatMap.1 hx
 have h1:=jl3 b;have h2:=jl4 b;have h3:=b.toNat_lt;have h15:(15:UInt8).toNat=15:=rfl;refine decide_eq_true (UInt8.le_iff_toNat_le.2 ?_);rcases List.mem_cons.1 hb with rfl | hb
 ·omega
 ·rw[List.mem_singleton.1 hb];omega
theorem jb5(s:ByteArray):(jaL s).size=2 * s.size:=by
 show (jcg s.data.toList).length=2 * s.data.toList.length;unfold jcg;induction s.data.toList with
 | nil=>rfl
 | cons x r ih=>rw[List.flatMap_cons,List.length_append,ih,List.length_cons,List.length_cons,List.length_cons,List.length_nil];omega
structure joS(l:List Pair):Prop where
 size:∀ p∈l,0 < p.1.size∧p.1.size≤6∧0 < p.2.size∧p.2.size≤80
 rise:l.Pairwise fun p q=>Lt p.l q.l
 len:l.length≤40
theorem jcX:∀ (a b c:List UInt8),Lt a b→Lt b c→Lt a c
 | a,b,[],_,h=>absurd h (jaQ _)
 | a,[],z :: c,h,_=>absurd h (jaQ _)
 | [],y :: b,z :: c,_,_=>rfl
 | x :: a,y :: b,z :: c,h1,h2=>by
  rcases ja0.1 h1 with h |⟨rfl,h⟩
  ·rcases ja0.1 h2 with h' |⟨rfl,h'⟩
   ·exact ja0.2 (.inl (UInt8.lt_trans h h'))
   ·exact ja0.2 (.inl h)
  ·rcases ja0.1 h2 with h' |⟨rfl,h'⟩
   ·exact ja0.2 (.inl h')
   ·exact ja0.2 (.inr ⟨rfl,jcX a b c h h'⟩)
theorem jbT{l:List Pair}(h:jbp l=0):joS l:=by
 unfold jbp at h;split at h
 ·cases h
 rename_i hb
 split at h
 ·cases h
 rename_i hl
 have hbad:∀ i,i < l.length→badN l i=false:=fun i hi=>by
  cases hbi:badN l i with
  | false=>rfl
  | true=>exact absurd (List.any_eq_true.2 ⟨i,List.mem_range.2 hi,hbi⟩) hb
 refine⟨fun p hp=>?_,?_,by omega⟩
 ·obtain⟨i,hi⟩:=List.getElem?_of_mem hp
  have h1:=hbad i (List.getElem?_eq_some_iff.1 hi).1;have hg:l.getD i (⟨#[]⟩,⟨#[]⟩)=p:=by rw[List.getD_eq_getElem?_getD,hi];rfl
  unfold badN at h1;rw[hg]at h1;simp only[Bool.or_eq_false_iff,Bool.not_eq_false']at h1;have h2:=h1.1.1;have h3:=h1.1.2;unfold jeI at h2;unfold jdC at h3;simp only[decide_eq_true_eq]at h2 h3
  exact⟨h2.1,h2.2,h3.1,h3.2⟩
 ·have step:∀ i,i+1 < l.length→Lt (l.getD i pd).l (l.getD (i+1) pd).l:=fun i hi=>by
   have h1:=hbad (i+1) hi;unfold badN at h1;simp only[Bool.or_eq_false_iff,Bool.and_eq_false_iff,Bool.not_eq_false']at h1;rcases h1.2 with h2 | h2
   ·simp at h2
   ·rw[Nat.add_sub_cancel]at h2
    have:Op.bytesLess (l.getD i pd).1.toList (l.getD (i+1) pd).1.toList=true:=h2
    rw[ByteArray.toList_eq,ByteArray.toList_eq]at this;exact this
  rw[List.pairwise_iff_getElem];intro i j hi hj hij;have e:∀ k (hk:k < l.length),l.getD k pd=l[k]:=fun k hk=>by rw[List.getD_eq_getElem?_getD,List.getElem?_eq_getElem hk];rfl
  have key:∀ d,∀ i,i+d+1 < l.length→Lt (l.getD i pd).l (l.getD (i+d+1) pd).l:=by
   intro d;induction d with
   | zero=>exact fun i hi=>step i hi
   | succ d ih=>exact fun i hi=>jcX _ _ _ (ih i (by omega)) (step (i+d+1) hi)
  have:=key (j - i - 1) i (by omega)
  rw[show i+(j - i - 1)+1=j by omega,e i hi,e j hj]at this;exact this
theorem jeB{l:List Pair}(h:joS l):ja3 12 (jaV l):=by
 refine⟨fun p hp=>?_,?_⟩
 ·obtain⟨q,hq,rfl⟩:=List.mem_map.1 hp
  obtain⟨h1,h2,h3,h4⟩:=h.size q hq
  have hs:=jb5 q.1
  exact⟨by show (jaL q.1).size≤_;omega,by show (jaL q.1).size≤_;omega,jew _,h3,h4⟩
 ·unfold jaV
  rw[List.pairwise_map];exact h.rise.imp fun {p q} h=>jgN _ _ h
def ja2(l:List Pair):PT:=jad 13 (jaV l)
end
section
open Go Go.RowKit
attribute [local go_sem] Oper.semAt_some
inductive AT where
 | mk (b:Nat) (text:ByteArray) (v:Value) (kids:List AT)
def AT.root:AT→Nat | .mk b _ _ _=>b
mutual
def AtIs(A:Nat→Prop):AT→World→Prop
 | .mk b t v ks,W=>A b∧Blk W b (.cells #[.string t,v] 159)∧RdQ A W v (ks.map AT.root)∧jc4 A ks W
def jc4(A:Nat→Prop):List AT→World→Prop
 | [],_=>True
 | k :: ks,W=>AtIs A k W∧jc4 A ks W
end
mutual
def AT.pt:AT→PT
 | .mk _ t _ ks=>.mk t (AT.pts ks)
def AT.pts:List AT→List PT
 | []=>[]
 | k :: ks=>AT.pt k :: AT.pts ks
end
mutual
def jaD:PT→List ByteArray
 | .mk t ks=>t :: jaF ks
def jaF:List PT→List ByteArray
 | []=>[]
 | k :: ks=>jaD k++jaF ks
end
mutual
theorem jqj{A:Nat→Prop}{W:World}:∀ (T:PT) (b:Nat),jbk A T b W→∃ a:AT,a.root=b∧a.pt=T∧AtIs A a W
 | .mk t ks,b,h=>by
  unfold jbk at h
  obtain⟨h1,v,bs,h2,h3,h4⟩:=h
  obtain⟨al,e1,e2,e3⟩:=jox ks bs h4
  exact⟨.mk b t v al,rfl,by unfold AT.pt;rw[e2],by unfold AtIs;exact⟨h1,h2,by rw[e1];exact h3,e3⟩⟩
theorem jox{A:Nat→Prop}{W:World}:∀ (ks:List PT) (bs:List Nat),jaE A ks bs W→∃ al:List AT,al.map AT.root=bs∧AT.pts al=ks∧jc4 A al W
 | [],bs,h=>by
  unfold jaE at h;subst h
  exact⟨[],rfl,by unfold AT.pts;rfl,by unfold jc4;trivial⟩
 | x :: ks,bs,h=>by
  unfold jaE at h
  obtain⟨b,r,rfl,h2,h3⟩:=h
  obtain⟨a,e1,e2,e3⟩:=jqj x b h2
  obtain⟨al,e4,e5,e6⟩:=jox ks r h3
  exact⟨a :: al,by rw[List.map_cons,e1,e4],by unfold AT.pts;rw[e2,e5],by unfold jc4;exact⟨e3,e6⟩⟩
end
mutual
theorem AtIs.keeps{A:Nat→Prop}{F:BSet}{W W':World}(k:jae F W W')(hF:∀ x,A x→¬ F x):∀ (a:AT),AtIs A a W→AtIs A a W'
 | .mk b t v ks,h=>by
  unfold AtIs at *
  obtain⟨h1,h2,h3,h4⟩:=h
  exact⟨h1,h2.keeps k (hF b h1),h3.keeps k hF,jc4.keeps k hF ks h4⟩
theorem jc4.keeps{A:Nat→Prop}{F:BSet}{W W':World}(k:jae F W W')(hF:∀ x,A x→¬ F x):∀ (ks:List AT),jc4 A ks W→jc4 A ks W'
 | [],_=>by unfold jc4;trivial
 | x :: ks,h=>by
  unfold jc4 at *
  exact⟨AtIs.keeps k hF x h.1,jc4.keeps k hF ks h.2⟩
end
theorem jc4.get{A:Nat→Prop}{W:World}:∀ (ks:List AT) (j:Nat) (a:AT),jc4 A ks W→ks[j]?=some a→AtIs A a W
 | [],j,a,_,h=>by simp at h
 | x :: ks,0,a,h,hj=>by simp at hj;subst hj;unfold jc4 at h;exact h.1
 | x :: ks,j+1,a,h,hj=>by unfold jc4 at h;exact jc4.get ks j a h.2 (by simpa using hj)
theorem jhE:∀ (ks:List AT) (j:Nat) (a:AT),ks[j]?=some a→jaF (AT.pts (ks.take (j+1)))=jaF (AT.pts (ks.take j))++jaD a.pt
 | [],j,a,h=>by simp at h
 | x :: ks,0,a,h=>by
  simp at h;subst h;simp[AT.pts,jaF]
 | x :: ks,j+1,a,h=>by
  have:=jhE ks j a (by simpa using h)
  simp only[List.take_succ_cons,AT.pts,jaF,this,List.append_assoc]
theorem ji7:∀ (ks:List AT) (j:Nat),∃ r,jaF (AT.pts ks)=jaF (AT.pts (ks.take j))++r
 | ks,0=>⟨jaF (AT.pts ks),by simp[AT.pts,jaF]⟩
 | [],j+1=>⟨[],by simp[AT.pts,jaF]⟩
 | x :: ks,j+1=>by
  obtain⟨r,h⟩:=ji7 ks j
  exact⟨r,by simp only[List.take_succ_cons,AT.pts,jaF,h,List.append_assoc]⟩
def jcP(L m:List ByteArray)(p:Nat):Prop:=∀ j x,m[j]?=some x→L[p+j]?=some x
theorem jcP.left{L m n:List ByteArray}{p:Nat}(h:jcP L (m++n) p):jcP L m p:=fun j x hx=>h j x (by rw[List.getElem?_append_left (List.getElem?_eq_some_iff.1 hx).1];exact hx)
theorem jcP.right{L m n:List ByteArray}{p:Nat}(h:jcP L (m++n) p):jcP L n (p+m.length):=fun j x hx=>by
 have:=h (m.length+j) x (by rw[List.getElem?_append_right (by omega),Nat.add_sub_cancel_left];exact hx)
 rw[Nat.add_assoc];exact this
theorem jcP.le{L m:List ByteArray}{p:Nat}(h:jcP L m p)(hm:m≠[]):p+m.length≤L.length:=by
 have hl:0 < m.length:=List.length_pos_iff.2 hm
 have:=h (m.length - 1) _ (List.getElem?_eq_getElem (by omega))
 have:=(List.getElem?_eq_some_iff.1 this).1
 omega
theorem jnr(T:PT):1≤(jaD T).length:=by cases T;unfold jaD;simp
theorem ji5:∀ (ks:List AT),ks.length≤(jaF (AT.pts ks)).length
 | []=>by simp
 | x :: ks=>by
  have:=ji5 ks
  have:=jnr x.pt
  simp only[AT.pts,jaF,List.length_append,List.length_cons];omega
def jgu(C Cx:Nat→World→Prop)(n N:Nat)(e:Ending)(W':World):Prop:=(e=.returned (.bool true)∧C n W')∨(e=.returned (.bool false)∧∃ q,0 < q∧q≤N∧Cx q W')
def jo1(C:Nat→World→Prop)(p:Nat)(ks:List AT)(v:Value)(wr:World):Prop:=∃ j:Nat,j≤ks.length∧v=.int .i64 j∧C (p+1+(jaF (AT.pts (ks.take j))).length) wr
theorem jmJ(A:Nat→Prop)(l:Nat)(C Cx:Nat→World→Prop)(hC:∀ k,St (C k))(L:List ByteArray)(hLn:L.length≤1000000)
  (hY:∀ j W',j < L.length→C j W'→jiP Tryz.prog l #[.string (L.getD j ⟨#[]⟩)] W' (C (j+1)) (Cx (j+1)))
  (b:Nat) (t:ByteArray) (v:Value) (ks:List AT)
  (IHk:∀ a∈ks,∀ (p:Nat) (W:World),jcP L (jaD a.pt) p→(∀ j W',C j W'→AtIs A a W')→C p W →
   CallsIn Fence.wide 0 Tryz.prog 131 #[ptrV a.root,.func (.yield l) #[] #[]] W (jgu C Cx (p+(jaD a.pt).length) L.length))
  (p:Nat) (W:World) (hL:jcP L (jaD (AT.mk b t v ks).pt) p) (hS:∀ j W',C j W'→AtIs A (.mk b t v ks) W') (h0:C p W) :
   CallsIn Fence.wide 0 Tryz.prog 131 #[ptrV b,.func (.yield l) #[] #[]] W (jgu C Cx (p+(jaD (AT.mk b t v ks).pt).length) L.length):=by
  have e1:jaD (AT.pt (.mk b t v ks))=t :: jaF (AT.pts ks):=by unfold AT.pt jaD;rfl
  rw[e1]at hL ⊢;have hp:p < L.length:=by have:=hL 0 t rfl;exact (List.getElem?_eq_some_iff.1 this).1
  have hg:L.getD p ⟨#[]⟩=t:=by rw[List.getD_eq_getElem?_getD];have:=hL 0 t rfl;rw[Nat.add_zero]at this;rw[this];rfl
  have hS':∀ j W',C j W'→Blk W' b (.cells #[.string t,v] 159)∧RdQ A W' v (ks.map AT.root)∧jc4 A ks W':=fun j W' h=>by
   have:=hS j W' h;unfold AtIs at this;exact this.2
  obtain⟨fn,tm,asg,bd,hyr,hrd⟩:=hY p W hp h0
  rw[hg]at hyr;have q0:=(hS' p W h0).1.cell (i:=0) (v:=.string t) (by rfl)
  obtain⟨av,cv,hv⟩:=(hS' p W h0).2.1.sl
  rw[List.length_map]at hv;subst hv;have hkl:ks.length≤1000000:=by
   have h1:=ji5 ks;have h2:=hL.le (by simp);simp only[List.length_cons]at h2;omega
  have HRD:=Hd hrd;have HS:=Hd hS';have HY:=Hd hY;have HC:=Hd hC;have HIK:=Hd IHk;have HL:=Hd hL;clear hS' hS hrd hg h0 e1 hL hY hC IHk;unfold ptrV;refine callsIn_of_wp Tryz.func131 rfl trivial ?_ rfl;simp only[Tryz.ntmps131,List.size_toArray,List.length_cons,List.length_nil,Nat.reduceAdd,Nat.reduceSub,Array.replicate_succ,Array.replicate_zero,List.push_toArray,List.append_toArray,List.nil_append,List.cons_append];gi_wp2_with fail
  refine⟨rfl,HRD.o.mono ?_⟩
  rintro e w5 (⟨rfl,C5⟩ |⟨rfl,C5⟩)
  ·have q1:=(HS.o _ _ C5).1.cell (i:=1) (v:=.slice av ks.length cv) (by rfl)
   have HC5:=Hd C5;clear C5 q0 hyr;gi_wp2_with fail
   gi_loopw [19] (fun v wr=>jo1 C p ks v wr) (fun v _=>ks.length - (intOf v).toNat)
   case atStart=>exact⟨0,by omega,rfl,by simpa [AT.pts,jaF]using HC5.o⟩
   case round =>
    obtain⟨j,hj,rfl,hCj⟩:=hrel
    by_cases hlt:j < ks.length
    ·obtain⟨hb1,hq1,ha1⟩:=HS.o _ _ hCj
     obtain⟨a,ha⟩:∃ a,ks[j]?=some a:=⟨_,List.getElem?_eq_getElem hlt⟩
     have hmem:a∈ks:=List.mem_of_getElem? ha;have hft:=jhE ks j a ha
     obtain⟨rest,hpre⟩:=ji7 ks (j+1)
     have hbeg:jcP L (jaD a.pt) (p+1+(jaF (AT.pts (ks.take j))).length):=by
      have h1:jcP L ([t]++(jaF (AT.pts (ks.take j))++(jaD a.pt++rest))) p:=by
       have:=HL.o
       rw[hpre,hft,List.append_assoc]at this;exact this
      exact (h1.right.right).left
     rcases hq1 with⟨_,h0⟩ |⟨g,c,hh,_,_,_,_,hcell⟩
     ·rw[List.map_eq_nil_iff]at h0;rw[h0]at hlt;cases hlt
     obtain⟨rfl,hx1,hx2⟩:=Value.slice.inj hh
     clear hx1 hx2;have qj:wr.cell? ⟨g,j,none⟩=some (ptrV a.root):=hcell j a.root (by rw[List.getElem?_map,ha];rfl)
     obtain⟨ar,har⟩:∃ ar,ar=a.root:=⟨_,rfl⟩
     rw[←har]at qj;have b1:(j:Int) < (ks.length:Int):=by omega
     have ih:=HIK.o a hmem _ wr hbeg (fun j' W' h=>jc4.get ks j a (HS.o j' W' h).2.2 ha) hCj;rw[←har]at ih;have IH:=Hd ih;have HFT:=Hd hft;unfold ptrV at qj;clear hb1 ha1 hcell hh hpre hbeg ih hft hCj ha har q1 hmem HC5;gi_wp2_with fail
     refine⟨trivial,rfl,IH.o.mono ?_⟩
     rintro e w6 (⟨rfl,C6⟩ |⟨rfl,q',hq1,hq2,C6⟩)
     ·have HC6:=Hd C6
      clear C6;gi_wp2_with fail
      go_roundw
      case rel=>exact⟨j+1,by omega,by go_num,by rw[HFT.o,List.length_append, ←Nat.add_assoc];exact HC6.o⟩
      case measure=>simp[intOf];omega
     ·have HC6:=Hd C6
      clear C6;gi_wp2_with fail
      go_ret;exact .inr ⟨rfl,q',hq1,hq2,HC6.o⟩
    ·have hjk:j=ks.length:=by omega
     subst hjk;rw[List.take_length]at hCj;have HC6:=Hd hCj;clear hCj;gi_wp2_with fail
     go_ret;exact .inl ⟨rfl,by rw[show p+((jaF (AT.pts ks)).length+1)=p+1+(jaF (AT.pts ks)).length by omega];exact HC6.o⟩
  ·have HC5:=Hd C5
   clear C5 q0 hyr;gi_wp2_with fail
   go_ret;exact .inr ⟨rfl,p+1,by omega,by omega,HC5.o⟩
theorem jmH(A:Nat→Prop)(l:Nat)(C Cx:Nat→World→Prop)(hC:∀ k,St (C k))(L:List ByteArray)(hLn:L.length≤1000000)
  (hY:∀ j W',j < L.length→C j W'→jiP Tryz.prog l #[.string (L.getD j ⟨#[]⟩)] W' (C (j+1)) (Cx (j+1))) :
  ∀ (a:AT) (p:Nat) (W:World),jcP L (jaD a.pt) p→(∀ j W',C j W'→AtIs A a W')→C p W →
   CallsIn Fence.wide 0 Tryz.prog 131 #[ptrV a.root,.func (.yield l) #[] #[]] W (jgu C Cx (p+(jaD a.pt).length) L.length)
 | .mk b t v ks,p,W,hL,hS,h0=>jmJ A l C Cx hC L hLn hY b t v ks (fun a ha=>jmH A l C Cx hC L hLn hY a) p W hL hS h0
termination_by a=>SizeOf.sizeOf a
decreasing_by
 have:=List.sizeOf_lt_of_mem ha
 simp
 omega
def jk0(L:List ByteArray)(k:Nat):Array Value:=#[.string (L.getD k ⟨#[]⟩)]
theorem jqg(A:Nat→Prop)(bx:Nat)(a:AT)(hLn:(jaD a.pt).length≤1000000):jkP Tryz.prog 130 #[.pointer (some ⟨bx,0,none⟩)] (jaD a.pt).length (jk0 (jaD a.pt)) (fun W=>Blk W bx (.cells #[ptrV a.root] 110)∧AtIs A a W):=by
 intro l C Cx hC hCx hS W hY h0;have hT:=jmH A l C Cx hC (jaD a.pt) hLn (fun j W' hj hc=>hY j W' hj hc) a 0 W (fun j x hx=>by rw[Nat.zero_add];exact hx) (fun j W' h=>(hS j W' h).2) h0;have q0:=(hS 0 W h0).1.cell (i:=0) (v:=ptrV a.root) (by rfl);have HT:=Hd hT;clear hT hY hC hCx hS h0;unfold ptrV at q0
 obtain⟨r,hr⟩:∃ r,r=a.root:=⟨_,rfl⟩
 rw[←hr]at q0 HT;have HR:=Hd hr;clear hr;refine callsIn_of_wp Tryz.func130 rfl trivial ?_ rfl;simp only[Tryz.ntmps130,List.size_toArray,List.length_cons,List.length_nil,Nat.reduceAdd,Nat.reduceSub,Array.replicate_succ,Array.replicate_zero,List.push_toArray,List.append_toArray,List.nil_append,List.cons_append];gi_wp2_with fail
 refine⟨trivial,rfl,HT.o.mono ?_⟩
 rintro e w5 (⟨rfl,C5⟩ |⟨rfl,q',hq1,hq2,C6⟩)
 ·have HC5:=Hd C5
  clear C5;gi_wp2_with fail
  refine bodyPost_end (results_none rfl _ _ _) rfl ?_
  exact⟨⟨_,rfl⟩,.inl (by have:=HC5.o;rw[Nat.zero_add]at this;exact this)⟩
 ·have HC6:=Hd C6
  clear C6;gi_wp2_with fail
  refine bodyPost_end (results_none rfl _ _ _) rfl ?_
  exact⟨⟨_,rfl⟩,.inr ⟨q',hq2,hq1,HC6.o⟩⟩
theorem jrl(w:World)(k:Nat):Calls Tryz.prog 80 #[ptrV k] w fun e w'=>e=.returned (.func (.func 130) #[] #[.pointer (some ⟨w.heap.size,0,none⟩)])∧Blk w' w.heap.size (.cells #[ptrV k] 110)∧Ext w w':=by
 unfold ptrV;go_enter Tryz.func80,Tryz.ntmps80;go_wp2_with fail
 go_ret
 exact⟨rfl,Blk.new w _,(ExtR w).alloc _⟩
def memB(acc:List ByteArray)(x:ByteArray):Bool:=(acc.map (·.data.toList)).contains x.data.toList
theorem jec(acc:List ByteArray)(x:ByteArray):memB acc x=true↔x∈acc:=by
 unfold memB;rw[List.contains_iff_mem,List.mem_map]
 exact⟨fun ⟨y,hy,e⟩=>by rw[←show y=x from ByteArray.ext (Array.ext' e)];exact hy,fun h=>⟨x,h,rfl⟩⟩
def addF(acc:List ByteArray)(x:ByteArray):List ByteArray:=if memB acc x=true then acc else acc++[x]
def jaW(l:List ByteArray):List ByteArray:=l.foldl addF []
theorem jmX(acc:List ByteArray)(x y:ByteArray):y∈addF acc x↔y∈acc∨y=x:=by
 unfold addF;split
 ·rename_i h;exact⟨.inl,fun h'=>h'.elim id (fun e=>e ▸ (jec _ _).1 h)⟩
 ·simp
theorem jbi(l:List ByteArray)(y:ByteArray):y∈jaW l↔y∈l:=by
 unfold jaW
 suffices ∀ acc,y∈l.foldl addF acc↔y∈acc∨y∈l by simpa using this []
 induction l with
 | nil=>intro acc;simp
 | cons x r ih=>intro acc;rw[List.foldl_cons,ih,jmX,List.mem_cons];exact or_assoc
theorem jfp(l:List ByteArray)(x:ByteArray):jaW (l++[x])=addF (jaW l) x:=by
 unfold jaW;rw[List.foldl_append];rfl
theorem jgd(l:List ByteArray):(jaW l).length≤l.length:=by
 unfold jaW
 suffices ∀ acc,(l.foldl addF acc).length≤acc.length+l.length by simpa using this []
 induction l with
 | nil=>intro acc;simp
 | cons x r ih =>
  intro acc;rw[List.foldl_cons,List.length_cons];have h1:=ih (addF acc x);have h2:(addF acc x).length≤acc.length+1:=by unfold addF;split <;> simp
  omega
theorem jcT{K:Type}[DecidableEq K](k:K)(v:Value)(n:Nat)(k':K):∀ (l:List (Ent K)),jaZ (jbC l k v n) k'=if k'=k then some v else jaZ l k'
 | []=>by
  by_cases h:k'=k
  ·subst h;simp[jbC,jaZ]
  ·simp[jbC,jaZ,h]
 | x :: r=>by
  have ih:=jcT k v n k' r;unfold jbC
  by_cases hk:k=x.1
  ·rw[if_pos hk]
   by_cases h:k'=k
   ·subst h;simp[jaZ]
   ·have h2:¬ k'=x.1:=fun e=>h (e.trans hk.symm)
    simp[jaZ,h,h2]
  ·rw[if_neg hk]
   by_cases h:k'=x.1
   ·have h2:¬ k'=k:=fun e=>hk (e.symm.trans h)
    rw[if_neg h2];simp[jaZ,h]
   ·have e1:∀ l,jaZ (x :: l) k'=jaZ l k':=fun l=>by simp[jaZ,h]
    rw[e1,e1,ih]
def cntB(l:List ByteArray)(x:ByteArray):Nat:=(l.map (·.data.toList)).count x.data.toList
def cntV(n:Nat):Option Value:=if n=0 then none else some (.int .i64 (n:Int))
theorem Tryz.uMapSI:Tryz.prog.underlying 107=some (.map 9 3):=by kernel_rfl
noncomputable abbrev Tryz.ES:jbj Tryz.prog 9 (List UInt8):=jqy Tryz.uStr
theorem Tryz.zeroI(w:World):(zeroValue 3).run Tryz.prog w=.ok (.int .i64 0) w:=by kernel_rfl
structure NodS(w:World)(g m:Nat)(A:Nat→Prop)(bx:Nat)(a:AT)(L:List ByteArray)(k:Nat)(W:World):Prop where
 ext:Ext w W
 var:∃ v n,Blk W g (.cells #[v] 34)∧W.ownsRow 0 9 1 v n ((jaW (L.take k)).map Value.string)∧n≤k∧∀ b,v.ownBlock=some b→m+2≤b
 tab:∃ es ck,Blk W (g+1) (.map (Tryz.ES.arr es) ck)∧∀ x:ByteArray,jaZ es x.data.toList=cntV (cntB (L.take k) x)
 mv:Blk W (g+2) (.cells #[.map (some (g+1))] 107)
 box:Blk W bx (.cells #[ptrV a.root] 110)
 at':AtIs A a W
theorem NodS.st{w:World}{g m:Nat}{A:Nat→Prop}{bx:Nat}{a:AT}{L:List ByteArray}{k:Nat}{W W':World}(h:NodS w g m A bx a L k W)(e:Ext W W'):NodS w g m A bx a L k W':=
 let ⟨v,n,h1,h2,h3,h4⟩:=h.var
 let ⟨es,ck,h5,h6⟩:=h.tab
 ⟨h.ext.trans e,⟨v,n,h1.keeps e (fun h=>h),ja7 h2 e,h3,h4⟩,⟨es,ck,h5.keeps e (fun h=>h),h6⟩,h.mv.keeps e (fun h=>h),h.box.keeps e (fun h=>h),AtIs.keeps e (fun _ _ h=>h) a h.at'⟩
theorem NodS.put{w:World}{g m:Nat}{A:Nat→Prop}{bx:Nat}{a:AT}{L:List ByteArray}{k:Nat}{W:World}(h:NodS w g m A bx a L k W){r:Nat}(hr:w.heap.size≤r)(h1:g+2 < r)(h2:r < m+2)(h3:bx≠r)(h4:∀ x,A x→x≠r)(o:Obj):NodS w g m A bx a L k (W.putObj r o):=
 let ⟨v,n,h5,h6,h7,h8⟩:=h.var
 let ⟨es,ck,h9,h10⟩:=h.tab
 ⟨h.ext.putObj (.inr hr) _,⟨v,n,h5.put_other (by omega) _,jaG h6 (jae.onePut W r o) (fun b hb e=>by have:=h8 b hb;omega),h7,h8⟩,⟨es,ck,h9.put_other (by omega) _,h10⟩,h.mv.put_other (by omega) _,h.box.put_other h3 _,
  AtIs.keeps (jae.onePut W r o) (fun x hx e=>h4 x hx e) a h.at'⟩
end
section
open Go Go.RowKit
def jci(l:List Pair):Nat→Nat
 | 0=>0
 | n+1=>jci l n+(cutL n l).length
def hN(L:List UInt8)(n:Nat):Nat:=match L with | []=>0 | a :: _=>if a.toNat < n then 1 else 0
theorem jpk(p:Pair)(n:Nat):hN p.l (n+1)=hN p.l n+(if jex n p=true then 1 else 0):=by
 have hpb:jex n p=match p.l with | []=>false | a :: _=>a.toNat == n:=rfl
 rw[hpb];cases p.l with
 | nil=>rfl
 | cons a r =>
  simp only[hN,beq_iff_eq]
  by_cases h1:a.toNat=n
  ·rw[if_pos (by omega),if_neg (by omega),if_pos h1]
  ·by_cases h3:a.toNat < n
   ·rw[if_pos (by omega),if_pos h3,if_neg h1]
   ·rw[if_neg (by omega),if_neg h3,if_neg h1]
theorem jqt(L:List UInt8)(n:Nat):hN L n≤1:=by
 cases L with
 | nil=>exact Nat.zero_le _
 | cons a r=>simp only[hN];split <;> omega
theorem jdW(p:Pair)(l:List Pair):∀ n,jci (p :: l) n=jci l n+hN p.l n
 | 0=>by
  have:hN p.l 0=0:=by cases p.l <;> simp[hN]
  rw[this];rfl
 | n+1=>by
  have h:(cutL n (p :: l)).length=(cutL n l).length+(if jex n p=true then 1 else 0):=by
   unfold cutL;rw[List.filter_cons];split <;> simp
  unfold jci;rw[jdW p l n,h,jpk];omega
theorem jdp:∀ (l:List Pair) (n:Nat),jci l n≤l.length
 | [],n=>by
  have:∀ n,jci [] n=0:=fun n=>by induction n with
   | zero=>rfl
   | succ n ih=>unfold jci;rw[ih];rfl
  rw[this];exact Nat.zero_le _
 | p :: l,n=>by
  rw[jdW,List.length_cons]
  have:=jdp l n
  have:=jqt p.l n
  omega
theorem jc7:∀ (a b:List PT),jaF (a++b)=jaF a++jaF b
 | [],b=>by simp[jaF]
 | x :: a,b=>by simp only[List.cons_append,jaF,jc7 a b,List.append_assoc]
theorem jfw(T:PT):(jaF (jbV T)).length≤(jaD T).length:=by
 unfold jbV;split <;> simp[jaF]
theorem jqz(B:List Pair→PT)(F:Nat)(l:List Pair)(hB:∀ i,(cutL i l).length≠0→(jaD (B (jax 1 (cutL i l)))).length≤F * (cutL i l).length):∀ n,(jaF (ksK B l n)).length≤F * jci l n
 | 0=>by simp[ksK,jaF,jci]
 | n+1=>by
  rw[jeV,jc7,List.length_append];unfold jci;rw[Nat.mul_add]
  have:=jqz B F l hB n
  by_cases h0:(cutL n l).length=0
  ·rw[if_pos h0];simp[jaF];omega
  ·rw[if_neg h0]
   have h1:=hB n h0;have h2:=jfw (B (jax 1 (cutL n l)));omega
theorem jiw:∀ (f:Nat) (l:List Pair),l≠[]→(jaD (jad (f+1) l)).length≤(f+1) * l.length
 | f,l,hl=>by
  have hlen:1≤l.length:=List.length_pos_iff.2 hl;show (jaD (.mk (jaK (jaJ (jad f) l)) (jaB (jad f) l))).length≤_;unfold jaD;rw[List.length_cons];have key:(jaF (jaB (jad f) l)).length≤f * l.length:=by
   unfold jaB;split
   ·simp[jaF]
   ·split
    ·cases f with
     | zero =>
      have h:=jfw (jad 0 (jax (comK l) l));have h0:jbV (jad 0 (jax (comK l) l))=[]:=rfl;rw[h0];simp[jaF]
     | succ f =>
      have h:=jfw (jad (f+1) (jax (comK l) l));have ih:=jiw f (jax (comK l) l) (fun e=>by have:=jaC (comK l) l;rw[e]at this;simp at this;omega);rw[jaC]at ih;omega
    ·cases f with
     | zero =>
      have:∀ n,ksK (jad 0) l n=[]:=fun n=>by
       induction n with
       | zero=>rfl
       | succ n ih =>
        rw[jeV,ih];split
        ·rfl
        ·rfl
      have h16:=this 16;unfold ksK at h16;rw[h16];simp[jaF]
     | succ f =>
      have h:=jqz (jad (f+1)) (f+1) l (fun i hi=>by
       have ih:=jiw f (jax 1 (cutL i l)) (fun e=>by have:=jaC 1 (cutL i l);rw[e]at this;simp at this;omega)
       rwa [jaC]at ih) 16
      have h2:=Nat.mul_le_mul_left (f+1) (jdp l 16);have h3:ksK (jad (f+1)) l 16=(List.range 16).flatMap fun i=>if (cutL i l).length=0 then []else jbV (jad (f+1) (jax 1 (cutL i l))):=rfl
      rw[←h3];exact Nat.le_trans h h2
  have:(f+1) * l.length=f * l.length+l.length:=by rw[Nat.succ_mul]
  omega
theorem jjI{l:List Pair}(h:joS l):(jaD (ja2 l)).length≤13 * l.length+1:=by
 by_cases h0:l=[]
 ·subst h0
  show (jaD (.mk (jaK (jaJ (jad 12) [])) (jaB (jad 12) []))).length≤_
  have:jaB (jad 12) []=[]:=rfl
  rw[this];simp[jaD,jaF]
 ·have h1:(jaD (ja2 l)).length≤13 * (jaV l).length:=jiw 12 (jaV l) (fun e=>h0 (by unfold jaV at e;simpa using e))
  have h2:(jaV l).length=l.length:=by unfold jaV;rw[List.length_map]
  rw[h2]at h1;omega
end
section
open Go Go.RowKit
attribute [local go_sem] Oper.semAt_some
theorem Tryz.makeMapSI(W:World):(Instr.makeMap 107 none).run Tryz.prog W=.ok (.map (some W.heap.size)) (W.alloc (.map #[] 0)):=by kernel_rfl
theorem Tryz.enterAll1:∀ args w,(callFunc 130 args).run Tryz.prog w=.ok (.enter 130 args) w:=fun _ _=>by kernel_rfl
theorem jnP(w:World)(v:Value)(l:List Pair)(hc:jch w)(hv:RdP w v l)(h:jbp l=0):Calls Tryz.prog 26 #[v] w fun e w'=>∃ u n,e=.returned (.tuple #[u,.int .i64 0])∧SRow w w' u n (jaW (jaD (ja2 l))):=by
 have hm:=jbT h
 obtain⟨a,c,hsl⟩:=hv.sl
 subst hsl;have HV:=Hd hv;have HM:=Hd hm;have HC:=Hd hc;have H:=Hd h;have HL:=Hd hm.len
 obtain⟨T,hT⟩:∃ T,T=ja2 l:=⟨_,rfl⟩
 rw[←hT];have HTR:=Hd hT;clear hv hm hc h hT;rw[←callsIn_wide (n:=0)];refine callsIn_of_wp_marks Tryz.func26 rfl trivial ?_ rfl;simp only[Tryz.ntmps26,List.size_toArray,List.length_cons,List.length_nil,Nat.reduceAdd,Nat.reduceSub,Array.replicate_succ,Array.replicate_zero,List.push_toArray,List.append_toArray,List.nil_append,List.cons_append];gi_wp2_with fail
 refine⟨trivial,rfl,CallsIn.mono (callsIn_wide.2 (jlk w _ l HV.o (by have:=HL.o;omega) (fun p hp=>by have:=HM.o.size p hp;omega))) ?_⟩
 rintro e w1 ⟨rfl,hE⟩;rw[H.o];have HE:=Hd hE;have hw1:=hE.size;clear hE;have hmm:(Instr.makeMap 107 none).run Tryz.prog (w1.alloc (.cells #[.slice none 0 0] 34))=.ok (.map (some (w1.heap.size+1))) ((w1.alloc (.cells #[.slice none 0 0] 34)).alloc (.map #[] 0)):=by
  rw[←World.size_alloc w1 (.cells #[.slice none 0 0] 34)];exact Tryz.makeMapSI _
 gi_wp2_with fail
 obtain⟨W6,hW6⟩:∃ W6,W6=((w1.alloc (.cells #[.slice none 0 0] 34)).alloc (.map #[] 0)).alloc (.cells #[.map (some (w1.heap.size+1))] 107):=⟨_,rfl⟩
 rw[←hW6];have hs6:W6.heap.size=w1.heap.size+3:=by rw[hW6];simp
 have E6:Ext w1 W6:=by rw[hW6];exact (((ExtR w1).alloc _).alloc _).alloc _
 have B5:Blk W6 w1.heap.size (.cells #[.slice none 0 0] 34):=by rw[hW6];exact ((Blk.new w1 _).alloc _).alloc _
 have BM:Blk W6 (w1.heap.size+1) (.map #[] 0):=by
  rw[hW6];have:=(Blk.new (w1.alloc (.cells #[.slice none 0 0] 34)) (.map #[] 0)).alloc (.cells #[.map (some (w1.heap.size+1))] 107);rwa [World.size_alloc]at this
 have B6:Blk W6 (w1.heap.size+2) (.cells #[.map (some (w1.heap.size+1))] 107):=by
  rw[hW6];have:=Blk.new ((w1.alloc (.cells #[.slice none 0 0] 34)).alloc (.map #[] 0)) (.cells #[.map (some (w1.heap.size+1))] 107);rwa [World.size_alloc,World.size_alloc]at this
 clear hW6 hmm
 refine⟨trivial,rfl,CallsIn.mono (callsIn_wide.2 (jqU W6 _ l ((HV.o.ext HE.o).ext E6) (by have:=HL.o;omega) (fun p hp=>by have:=HM.o.size p hp;omega))) ?_⟩
 rintro e w7 ⟨u,rfl,hr⟩;have HR:=Hd hr.rd;have hX7:Ext W6 w7:=hr.ext;clear hr
 obtain⟨a2,c2,hu⟩:=HR.o.sl
 subst hu;have HX7:=Hd hX7;have HB5:=Hd (B5.keeps hX7 (fun h=>h));have HBM:=Hd (BM.keeps hX7 (fun h=>h));have HB6:=Hd (B6.keeps hX7 (fun h=>h));have HE7:=Hd ((HE.o.trans E6).trans hX7);have hs7:=hX7.size;clear B5 BM B6 E6 hX7;gi_wp2_with fail
 refine⟨trivial,rfl,CallsIn.mono (callsIn_wide.2 (jiq 12 (jaV l) (jeB HM.o) (by unfold jaV;rw[List.length_map];have:=HL.o;omega) w7 _ (HC.o.ext HE7.o) HR.o)) ?_⟩
 rintro e w8 ⟨k,rfl,hk,hE⟩;have hk:=jbk.mono (A':=fun x=>w7.heap.size≤x∧x < w8.heap.size) (fun x h1 h2=>⟨h1,h2⟩) _ _ hk
 obtain⟨at0,ha1,ha2,ha3⟩:=jqj _ _ hk
 have hs8:=hE.size;have HB5':=Hd (HB5.o.keeps hE (fun h=>h));have HBM':=Hd (HBM.o.keeps hE (fun h=>h));have HB6':=Hd (HB6.o.keeps hE (fun h=>h));have HE8:=Hd (HE7.o.trans hE);have HA3:=Hd ha3;have HA2:=Hd ha2;rw[←ha1];clear hk ha1 ha2 ha3 hE HB5 HBM HB6 HE7 HX7 HR HE;gi_wp2_with fail
 refine⟨trivial,rfl,CallsIn.mono (callsIn_wide.2 (jrl w8 at0.root)) ?_⟩
 rintro e w9 ⟨rfl,hbx,hE⟩;have hpt:at0.pt=T:=HA2.o.trans HTR.o.symm;have hlen:(jaD at0.pt).length≤1000000:=by
  rw[hpt,HTR.o];have:=jjI HM.o;have:=HL.o;omega
 have hl9:=hbx.lt
 obtain⟨A,hA⟩:∃ A:Nat→Prop,A=fun x=>w7.heap.size≤x∧x < w8.heap.size:=⟨_,rfl⟩
 have S0:NodS w w1.heap.size w9.heap.size A w8.heap.size at0 (jaD at0.pt) 0 w9:=
  ⟨HE8.o.trans hE,⟨_,0,HB5'.o.keeps hE (fun h=>h),by simpa [jaW]using World.ownsRow_nil _ _ _ _,Nat.le_refl _,fun b hb=>by cases hb⟩,⟨[],0,HBM'.o.keeps hE (fun h=>h),fun x=>by simp[jaZ,cntB,cntV]⟩,HB6'.o.keeps hE (fun h=>h),hbx,by rw[hA];exact AtIs.keeps hE (fun _ _ h=>h) _ HA3.o⟩
 have HS0:=Hd S0;have hAlo:∀ x,A x→w1.heap.size+2 < x∧x < w9.heap.size:=fun x hx=>by rw[hA]at hx;omega
 have hbx9:w1.heap.size+2 < w8.heap.size:=by omega
 obtain⟨L,hLd⟩:∃ L,L=jaD at0.pt:=⟨_,rfl⟩
 have hit:=jqg A w8.heap.size at0 hlen;rw[←hLd]at hit hlen HS0;have HIT:=Hd hit;have HLD:=Hd hLd;have HALO:=Hd hAlo;have HPT0:=Hd hpt;clear S0 hE hbx hA HE8 HB5' HBM' HB6' HA3 HA2 hpt hLd hit hAlo;unfold ptrV;gi_wp2_with fail
 refine jcF (N:=L.length) (gf:=130) (lb:=#[.pointer (some ⟨w8.heap.size,0,none⟩)]) rfl Tryz.enterAll1 HIT.o
  (fun k=>rfl) (NodS w w1.heap.size w9.heap.size A w8.heap.size at0 L) (fun _ _ _=>False) (fun k W W' h e=>h.st e) (fun _ _ _ _ h _=>h) (fun k W h=>⟨h.box,h.at'⟩)
  (fun k W o h=>h.put (by omega) (by omega) (by omega) (by omega) (fun x hx=>by have:=HALO.o x hx;omega) _)
  (fun k W o h=>h.put (by omega) (by omega) (by omega) (by omega) (fun x hx=>by have:=HALO.o x hx;omega) _) (fun _ _ _ _ h=>h)
  HS0.o (fun k=>{ tmps:=#[.slice a l.length c,undef,.slice none 0 0,.int .i64 0,.int .i64 0,.pointer (some ⟨w1.heap.size,0,none⟩),.pointer (some ⟨w1.heap.size+1+1,0,none⟩),.string (L.getD k ⟨#[]⟩),.slice a l.length c,.int .i64 0,.int .i64 0,.bool false,undef,.map (some (w1.heap.size+1)),.slice a l.length c,.slice a2 (jaV l).length c2,.pointer (some ⟨at0.root,0,none⟩),.func (.func 130) #[] #[.pointer (some ⟨w8.heap.size,0,none⟩)],.string (L.getD k ⟨#[]⟩),undef,undef,undef,undef,undef,undef,undef,undef,undef,undef,undef,undef,undef],defers:=[] })
  ?hassign ?hbody ?hdone ?hstop
 case hassign =>
  intro l2 j W K hK;unfold jk0;rw[jrq];simp only[List.set_cons_zero,List.set_cons_succ];gi_wp2;exact hK
 case hbody =>
  intro l2 k W hk h hlt
  obtain⟨v,n,h1,h2,h3,h4⟩:=h.var
  obtain⟨ad,cp,rfl⟩:=jaH h2
  obtain⟨es,ck,h5,h6⟩:=h.tab
  obtain⟨x,hx⟩:∃ x,x=L.getD k ⟨#[]⟩:=⟨_,rfl⟩
  rw[←hx];have hLx:L.take (k+1)=L.take k++[x]:=by
   rw[List.take_succ_eq_append_getElem hk,hx,List.getD_eq_getElem?_getD,List.getElem?_eq_getElem hk];rfl
  obtain⟨cn,hcn⟩:∃ cn,cn=cntB (L.take k) x:=⟨_,rfl⟩
  have hcl:cn≤1000000:=by
   rw[hcn];unfold cntB;refine Nat.le_trans List.count_le_length ?_;rw[List.length_map,List.length_take];omega
  have e6:=h6 x;rw[←hcn]at e6;have hlk:(Instr.lookup 107 (.map (some (w1.heap.size+1))) (.string x) false).run Tryz.prog W=.ok (.int .i64 (cn:Int)) W:=by
   have:=jc1 Tryz.ES Tryz.uMapSI h5 (Tryz.zeroI W) x.data.toList false
   rw[e6]at this;unfold cntV at this
   by_cases h0:cn=0
   ·rw[if_pos h0]at this;rw[h0];exact this
   ·rw[if_neg h0]at this;exact this
  obtain⟨es2,hes2⟩:∃ es2,es2=jbC es x.data.toList (.int .i64 ((cn:Int)+1)) ck:=⟨_,rfl⟩
  obtain⟨ck2,hck2⟩:∃ ck2,ck2=(if (jaZ es x.data.toList).isSome then ck else ck+1):=⟨_,rfl⟩
  obtain⟨W2,hW2⟩:∃ W2,W2=W.putObj (w1.heap.size+1) (.map (Tryz.ES.arr es2) ck2):=⟨_,rfl⟩
  have hmu:(Instr.mapUpdate 107 (.map (some (w1.heap.size+1))) (.string x) (.int .i64 ((cn:Int)+1))).run Tryz.prog W=.ok () W2:=by
   have:=jdc Tryz.ES Tryz.uMapSI h5 x.data.toList (.int .i64 ((cn:Int)+1))
   rw[←hes2, ←hck2, ←hW2]at this;exact this
  have B2:Blk W2 (w1.heap.size+1) (.map (Tryz.ES.arr es2) ck2):=by rw[hW2];exact h5.put_same _
  have e7:∀ y:ByteArray,jaZ es2 y.data.toList=cntV (cntB (L.take (k+1)) y):=fun y=>by
   rw[hes2,jcT,h6 y,hLx];have hc:cntB (L.take k++[x]) y=cntB (L.take k) y+(if x.data.toList=y.data.toList then 1 else 0):=by
    unfold cntB;rw[List.map_append,List.count_append,List.map_cons,List.map_nil,List.count_singleton]
    simp
   rw[hc]
   by_cases hxy:y.data.toList=x.data.toList
   ·have hyx:y=x:=ByteArray.ext (Array.ext' hxy)
    subst hyx;rw[if_pos rfl,if_pos rfl, ←hcn];unfold cntV;rw[if_neg (by omega)];simp
   ·rw[if_neg hxy,if_neg (fun e=>hxy e.symm)];rfl
  have hlk2:(Instr.lookup 107 (.map (some (w1.heap.size+1))) (.string x) false).run Tryz.prog W2=.ok (.int .i64 ((cn:Int)+1)) W2:=by
   have:=jc1 Tryz.ES Tryz.uMapSI B2 (Tryz.zeroI W2) x.data.toList false
   rw[hes2,jcT,if_pos rfl]at this;exact this
  have K2:jae (fun b=>b=w1.heap.size+1) W W2:=by rw[hW2];exact jae.onePut _ _ _
  have q6:W.cell? ⟨w1.heap.size+1+1,0,none⟩=some (.map (some (w1.heap.size+1))):=h.mv.cell (i:=0) (by rfl);have M2:=h.mv.keeps K2 (by omega);have q62:W2.cell? ⟨w1.heap.size+1+1,0,none⟩=some (.map (some (w1.heap.size+1))):=M2.cell (i:=0) (by rfl);have V2:=h1.keeps K2 (by omega);have O2:=jaG h2 K2 (fun b hb e=>by have:=h4 b hb;omega);have X2:=h.box.keeps K2 (by omega);have A2:=AtIs.keeps K2 (fun y hy e=>by have:=HALO.o y hy;omega) _ h.at';have E2:=h.ext.trans' K2 (fun y hy e=>by omega);have hV2:=V2.cell (i:=0) (v:=.slice ad n cp) (by rfl);have hV2f:W2.frozen? ⟨w1.heap.size,0,none⟩=false:=V2.frozen;have HMEM:=Hd (show memB (jaW (L.take k)) x=true↔cn≠0 from by
   rw[jec,jbi,hcn];unfold cntB;rw[←Nat.pos_iff_ne_zero,List.count_pos_iff,List.mem_map]
   exact⟨fun hm=>⟨x,hm,rfl⟩,fun ⟨y,hy,e⟩=>by rw[←show y=x from ByteArray.ext (Array.ext' e)];exact hy⟩)
  have HFS:=Hd (show jaW (L.take (k+1))=addF (jaW (L.take k)) x by rw[hLx,jfp]);have HTAB:=Hd (show ∃ es ck,Blk W2 (w1.heap.size+1) (.map (Tryz.ES.arr es) ck)∧∀ y:ByteArray,jaZ es y.data.toList=cntV (cntB (L.take (k+1)) y)from⟨es2,ck2,B2,e7⟩);have HK2:=Hd K2;have HM2:=Hd M2;have HV2:=Hd V2;have HO2:=Hd O2;have HX2:=Hd X2;have HA2:=Hd A2;have HE2:=Hd E2;have H4:=Hd h4;clear h h1 h2 h4 h5 h6 hx hLx hcn e6 hes2 hck2 hW2 B2 e7 K2 M2 V2 O2 X2 A2 E2 HS0
  obtain⟨i0,hi,hz0,hz1,hz2⟩:=info_parts Tryz.infoStr
  by_cases hc0:cn=0
  ·subst hc0
   have hnm:memB (jaW (L.take k)) x=false:=by
    cases hm:memB (jaW (L.take k)) x with
    | false=>rfl
    | true=>exact absurd rfl (HMEM.o.1 hm)
   have HNM:=Hd hnm;have hlk':(Instr.lookup 107 (.map (some (w1.heap.size+1))) (.string x) false).run Tryz.prog W=.ok (.int .i64 0) W:=hlk;have hmu':(Instr.mapUpdate 107 (.map (some (w1.heap.size+1))) (.string x) (.int .i64 1)).run Tryz.prog W=.ok () W2:=hmu;have hlk2':(Instr.lookup 107 (.map (some (w1.heap.size+1))) (.string x) false).run Tryz.prog W2=.ok (.int .i64 1) W2:=hlk2;clear hnm hlk hmu hlk2;gi_wp2_with (gi_at_builtin;refine jbd _ rfl (.tmp 27) (.tmp 29) 34 rfl 9 i0 _ 1 16 Tryz.uStrs hi hz0 hz1 hz2 rfl (by decide) (.slice ad n cp) n _ rfl (ja7 HO2.o ((ExtR W2).alloc _)) ⟨W2.heap.size,0,none⟩ 1 1 [.string x] rfl rfl (jbe (Blk.new W2 _)) (by simp[Value.oneCell']) (by unfold maxLen;omega) (by omega) ?_;intro v' w6 r1 r2 r3;obtain⟨ad',cp',rfl⟩:=jaH r1;have hV6:=(HV2.o.alloc _).keeps r2 (fun e=>by have:=H4.o _ e;omega);have q56:w6.cell? ⟨w1.heap.size,0,none⟩=some (.slice ad n cp):=hV6.cell (i:=0) (by rfl);have f56:w6.frozen? ⟨w1.heap.size,0,none⟩=false:=hV6.frozen)
   have hadd:jaW (L.take (k+1))=jaW (L.take k)++[x]:=by rw[HFS.o];unfold addF;rw[if_neg (by rw[HNM.o];simp)]
   have r1':w6.ownsRow 0 9 1 (.slice ad' (n+1) cp') (n+1) ((jaW (L.take (k+1))).map Value.string):=by rw[hadd,List.map_append];exact r1
   have K6:jae (fun b=>(Value.slice ad n cp).ownBlock=some b) W2 w6:=((jae.refl _ W2).alloc _).trans r2;have hv':∀ b,(Value.slice ad' (n+1) cp').ownBlock=some b→w9.heap.size+2≤b:=fun b hb=>by
    rcases r3 with r3 | r3
    ·exact H4.o b (r3 ▸ hb)
    ·have h9:=r3 b hb;have:=HK2.o.size;rw[World.size_alloc]at h9;omega
   have K7:jae (fun b=>b=w1.heap.size) w6 (w6.setCell ⟨w1.heap.size,0,none⟩ (.slice ad' (n+1) cp')):=jae.oneSet w6 ⟨w1.heap.size,0,none⟩ _;have nO:∀ b,b < w9.heap.size+2→¬(Value.slice ad n cp).ownBlock=some b:=fun b hb e=>by have:=H4.o b e;omega
   refine⟨((HK2.o.mono (fun y _ e=>?_)).trans (K6.mono (fun y _ e=>?_))).trans (K7.mono (fun y _ e=>?_)),?_⟩
   ·have e:y=_:=e;show y≠_∧y≠_;omega
   ·have:=H4.o y e;show y≠_∧y≠_;omega
   ·have e:y=_:=e;show y≠_∧y≠_;omega
   ·obtain⟨es3,ck3,hT1,hT2⟩:=HTAB.o
    exact⟨(HE2.o.trans' K6 (fun y hy e=>by have:=H4.o y e;omega)).trans' K7 (fun y hy e=>by have e:y=_:=e;omega),
     ⟨_,n+1,hV6.set_same (i:=0) _,jaG r1' K7 (fun b hb e=>by have:=hv' b hb;omega),by omega,hv'⟩,
     ⟨es3,ck3,(hT1.keeps K6 (nO _ (by omega))).keeps K7 (by omega),hT2⟩,(HM2.o.keeps K6 (nO _ (by omega))).keeps K7 (by omega),(HX2.o.keeps K6 (nO _ (by omega))).keeps K7 (by omega),
     AtIs.keeps K7 (fun y hy e=>by have:=HALO.o y hy;omega) _ (AtIs.keeps K6 (fun y hy=>nO y (by have:=HALO.o y hy;omega)) _ HA2.o)⟩
  ·have hc1:¬((cn:Int)+1=1):=by omega
   have hc2:(((cn:Int)+1) == 1)=false:=by simp;omega
   have hm:=HMEM.o.2 hc0;have HNM:=Hd hm;clear hm;gi_wp2_with fail
   have hadd:jaW (L.take (k+1))=jaW (L.take k):=by rw[HFS.o];unfold addF;rw[if_pos HNM.o]
   refine⟨HK2.o.mono (fun y _ e=>?_),?_⟩
   ·have e:y=_:=e;show y≠_∧y≠_;omega
   ·exact⟨HE2.o,⟨_,n,HV2.o,by rw[hadd];exact HO2.o,by omega,H4.o⟩,HTAB.o,HM2.o,HX2.o,HA2.o⟩
 case hdone =>
  intro W h hd
  obtain⟨v,n,h1,h2,h3,h4⟩:=h.var
  obtain⟨ad,cp,rfl⟩:=jaH h2
  have q5:W.cell? ⟨w1.heap.size,0,none⟩=some (.slice ad n cp):=h1.cell (i:=0) (by rfl);rw[List.take_length,HLD.o]at h2;have H2:=Hd h2;have H4:=Hd h4;have HX:=Hd h.ext;have HD:=Hd hd;have HPT:=Hd (show at0.pt=T from HPT0.o);clear h h1 h2 h4 hd HS0;gi_wp2_with fail
  refine⟨by simp,.inl ⟨_,_,rfl,run_takeDeferred HD.o,?_⟩⟩
  refine⟨_,results_tmp2 rfl _ _ _,?_⟩
  have hK:=jae.onePut W w9.heap.size (.deferred none)
  refine⟨.slice ad n cp,n,rfl,⟨_,_,rfl⟩,by rw[←HPT.o];exact jaG H2.o hK (fun b hb e=>by have:=H4.o b hb;omega),HX.o.putObj (.inr (by omega)) _,fun b hb=>by have:=H4.o b hb;omega⟩
 case hstop=>intro c k W _ _ h;exact h.elim
end
section
open Go Go.RowKit
theorem jiv(x:ByteArray)(r:List ByteArray):(jaW (x :: r))[0]?=some x:=by
 unfold jaW;rw[List.foldl_cons];have h:∀ (r acc:List ByteArray),acc[0]?=some x→(r.foldl addF acc)[0]?=some x:=by
  intro r;induction r with
  | nil=>intro acc h;exact h
  | cons y r ih =>
   intro acc h;rw[List.foldl_cons];refine ih _ ?_;unfold addF;split
   ·exact h
   ·rw[List.getElem?_append_left (List.getElem?_eq_some_iff.1 h).1];exact h
 exact h r _ (by simp[addF,memB])
theorem jge(T:PT):(jaW (jaD T))[0]?=some T.text:=by
 obtain⟨t,ks⟩:=T
 unfold jaD;exact jiv t _
theorem jbA{t:ByteArray}:∀ {ks:List PT},t∈jaF ks↔∃ T∈ks,t∈jaD T
 | []=>by simp[jaF]
 | T :: ks=>by
  unfold jaF;rw[List.mem_append,jbA (ks:=ks)];constructor
  ·rintro (h |⟨T',h1,h2⟩)
   ·exact⟨T,List.mem_cons_self,h⟩
   ·exact⟨T',List.mem_cons_of_mem _ h1,h2⟩
  ·rintro⟨T',h1,h2⟩
   rcases List.mem_cons.1 h1 with rfl | h1
   ·exact .inl h2
   ·exact .inr ⟨T',h1,h2⟩
theorem jrk{P:Program}{f:FuncId}{args:Array Value}{w:World}{R R':Value→World→Prop}
  (h:Calls P f args w fun | .returned v,w'=>R v w' | _,_=>False) (h':Calls P f args w fun | .returned v,w'=>R' v w' | _,_=>False) (hi:P.inits.idxOf? f=none) :
  ∃ v w',R v w'∧R' v w':=by
 obtain⟨n,v,w1,e1,r1⟩:=h.done hi
 obtain⟨m,v',w2,e2,r2⟩:=h'.done hi
 have a:=runN_ended e1 m;have b:=runN_ended e2 n;rw[Nat.add_comm,a]at b;injection b with ho hw;injection ho with hv;subst hv hw
 exact⟨_,_,r1,r2⟩
theorem jmZ{P:Program}{f:FuncId}{args:Array Value}{w:World}{a b:Value}{R R':World→Prop}
  (h:Calls P f args w fun e w'=>e=.returned a∧R w') (h':Calls P f args w fun e w'=>e=.returned b∧R' w') (hi:P.inits.idxOf? f=none):a=b:=by
 obtain⟨v,w',h1,h2⟩:=jrk (R:=fun v _=>v=a) (R':=fun v _=>v=b)
  (h.mono fun e w' hh=>by obtain⟨rfl,_⟩:=hh;rfl) (h'.mono fun e w' hh=>by obtain⟨rfl,_⟩:=hh;rfl) hi
 exact h1.symm.trans h2
theorem jl8{n m:jac}(h:n.V=m.V):n=m:=by
 obtain⟨k,p,v,rs⟩:=n
 obtain⟨k',p',v',rs'⟩:=m
 unfold jac.V jac.cells at h;injection h with h;have h:=congrArg Array.toList h;simp only[List.toList_toArray,List.cons.injEq,Value.int.injEq,Value.string.injEq]at h
 obtain⟨⟨_,h1⟩,h2,h3,h4⟩:=h
 have h5:rs=rs':=by
  have:∀ a b:List ByteArray,a.map Value.string=b.map Value.string→a=b:=fun a=>by
   induction a with
   | nil=>intro b hb;cases b with | nil=>rfl | cons x y=>cases hb
   | cons x r ih =>
    intro b hb;cases b with
    | nil=>cases hb
    | cons y t =>
     simp only[List.map_cons,List.cons.injEq,Value.string.injEq]at hb;rw[hb.1,ih t hb.2]
  exact this _ _ h4
 have h1:k=k':=by omega
 subst h1 h2 h3 h5;rfl
theorem jl7(w:World){f g:Nat}{n m:jac}(hn:jbl (InlD f) n)(hm:jbl (InlD g) m)(h:jaK n=jaK m):n=m:=by
 have h1:=jfq (inlP f) w n hn;have h2:=jfq (inlP g) w m hm;rw[h]at h1
 have:=jmZ h1 h2 (by kernel_rfl)
 injection this with this
 have:=congrArg Array.toList this
 simp only[List.toList_toArray,List.cons.injEq]at this;exact jl8 this.1
theorem jjr{T:PT}(h:¬ T.text.size < 32):refB T.text=jaq (shaB T.text):=by unfold refB;rw[if_neg h]
theorem jkf{f:Nat}{T:PT}{n:jac}(h:jdh f T n)(hs:T.text.size < 32):jaD T=[T.text]:=by
 have hk:=h.small hs
 obtain⟨x,ks⟩:=T
 have hk:ks=[]:=hk;subst hk;unfold jaD jaF;rfl
theorem jgY(T:PT):T.text∈jaD T:=by cases T;unfold jaD;exact List.mem_cons_self
theorem jdK{l:List Pair}(h:ja3 0 l):l.length≤1:=by
 rcases Nat.lt_or_ge l.length 2 with h2 | h2
 ·omega
 ·obtain⟨a,ha⟩:∃ a,l[0]?=some a:=⟨_,List.getElem?_eq_getElem (by omega)⟩
  obtain⟨b,hb⟩:∃ b,l[1]?=some b:=⟨_,List.getElem?_eq_getElem (by omega)⟩
  have hlt:=jb4 h.rise (by omega) ha hb
  have:=(h.size b (List.mem_of_getElem? hb)).1
  rw[show b.l=[]from List.eq_nil_of_length_eq_zero (by show b.1.size=0;omega)]at hlt;exact absurd hlt (jaQ _)
theorem jk8{a b:ByteArray}(h:a.data.toList=b.data.toList):a=b:=by
 obtain⟨⟨a⟩⟩:=a
 obtain⟨⟨b⟩⟩:=b
 simp only at h;subst h;rfl
def jco(r:ByteArray):Option ByteArray:=(cutN r).bind (jds r)
def jaI(n:jac):List ByteArray:=n.refs.filterMap jco
theorem jea:jco ⟨#[]⟩=none:=by
 unfold jco cutN;rw[dif_neg (by decide)];rfl
theorem jki{h:ByteArray}(hs:h.size=32):jco (jaq h)=some h:=by
 obtain⟨r,h1,h2⟩:=jdt h hs
 unfold jco;rw[h1];exact h2
theorem jfs{I:ByteArray→jac→Prop}(HI:InlP I){r:ByteArray}{m:jac}(h:I r m):jco r=none:=by
 obtain⟨q,h1,h2⟩:=HI.nohash r m h
 unfold jco;rw[h1];exact h2
theorem jhI{f:Nat}{T:PT}{n:jac}(h:jdh f T n):(jco (refB T.text)).toList=(jbV T).map fun k=>shaB k.text:=by
 by_cases hs:T.text.size < 32
 ·rw[jfs (inlP (f+1)) (h.may.2 hs)]
  unfold jbV;rw[if_pos hs];rfl
 ·rw[jjr hs,jki (jb7 _)]
  unfold jbV;rw[if_neg hs];rfl
theorem jcU(k:Nat):(jau k).filterMap jco=[]:=by
 unfold jau;rw[List.filterMap_eq_nil_iff];intro r hr;rw[List.eq_of_mem_replicate hr,jea]
theorem jfn{α:Type}(g:α→ByteArray)(k:α→List PT):∀ L:List α,(∀ i∈L,(jco (g i)).toList=(k i).map fun k=>shaB k.text)→(L.map g).filterMap jco=(L.flatMap k).map fun k=>shaB k.text
 | [],_=>rfl
 | x :: L,h=>by
  rw[List.map_cons,List.flatMap_cons,List.map_append, ←jfn g k L fun i hi=>h i (List.mem_cons_of_mem _ hi), ←h x List.mem_cons_self,List.filterMap_cons];cases jco (g x) <;> rfl
theorem jdu(f:Nat)(l:List Pair)(h:ja3 f l):jaI (jaJ (jad f) l)=(jaB (jad f) l).map fun k=>shaB k.text:=by
 unfold jaI
 by_cases h0:l.length=0
 ·have e1:jaJ (jad f) l=jar:=by unfold jaJ;rw[if_pos h0]
  have e2:jaB (jad f) l=[]:=by unfold jaB;rw[if_pos (by omega)]
  rw[e1,e2];exact jcU 16
 by_cases h1:l.length=1
 ·have e1:jaJ (jad f) l=⟨1,(l.getD 0 pd).1,(l.getD 0 pd).2,jau 16⟩:=by unfold jaJ;rw[if_neg h0,if_pos h1]
  have e2:jaB (jad f) l=[]:=by unfold jaB;rw[if_pos (by omega)]
  rw[e1,e2];exact jcU 16
 have h2:2≤l.length:=by omega
 cases f with
 | zero=>have:=jdK h;omega
 | succ f =>
  by_cases hk:0 < comK l
  ·have hcom:=jbZ h h2
   have hok:ja3 f (jax (comK l) l):=(jcv (comK l) h (fun p hp q hq=>(hcom p hp).1.trans (hcom q hq).1.symm) (fun p hp=>(hcom p hp).2)).mono (by omega);have hne:jax (comK l) l≠[]:=fun e=>by have:=jaC (comK l) l;rw[e]at this;simp at this;omega
   have hst:=(good f _ hok).2.1 hne;have e1:jaJ (jad (f+1)) l=⟨2,(l.getD 0 pd).1.extract 0 (comK l),⟨#[]⟩,refB (jad (f+1) (jax (comK l) l)).text :: jau 15⟩:=by unfold jaJ;rw[if_neg h0,if_neg h1,if_pos hk]
   have e2:jaB (jad (f+1)) l=jbV (jad (f+1) (jax (comK l) l)):=by unfold jaB;rw[if_neg (by omega),if_pos hk]
   rw[e1,e2, ←jhI hst];show (refB (jad (f+1) (jax (comK l) l)).text :: jau 15).filterMap jco=_;rw[List.filterMap_cons,jcU];cases jco (refB (jad (f+1) (jax (comK l) l)).text) <;> rfl
  ·have e1:(jaJ (jad (f+1)) l).refs=(List.range 16).map fun i=>if (cutL i l).length=0 then ⟨#[]⟩else refB (jad (f+1) (jax 1 (cutL i l))).text:=by unfold jaJ;rw[if_neg h0,if_neg h1,if_neg hk]
   have e2:jaB (jad (f+1)) l=(List.range 16).flatMap fun i=>if (cutL i l).length=0 then []else jbV (jad (f+1) (jax 1 (cutL i l))):=by unfold jaB;rw[if_neg (by omega),if_neg hk]
   rw[e1,e2];refine jfn _ _ _ fun i hi=>?_
   by_cases hc:(cutL i l).length=0
   ·rw[if_pos hc,if_pos hc,jea];rfl
   ·rw[if_neg hc,if_neg hc]
    exact jhI ((good f _ (jdR i h)).2.1 (fun e=>by have:=jaC 1 (cutL i l);rw[e]at this;simp at this;omega))
theorem jhh{f:Nat}{l:List Pair}(h:ja3 f l){K:PT}(hK:K∈jaB (jad f) l):∃ g m,f=g+1∧K=jad (g+1) m∧ja3 g m∧32≤K.text.size:=by
 have held:∀ {T:PT},K∈jbV T→K=T∧32≤K.text.size:=fun {T} h=>by
  unfold jbV at h;split at h
  ·cases h
  ·rw[List.mem_singleton]at h;subst h;exact⟨rfl,by omega⟩
 unfold jaB at hK
 by_cases h1:l.length≤1
 ·rw[if_pos h1]at hK;cases hK
 rw[if_neg h1]at hK;cases f with
 | zero=>have:=jdK h;omega
 | succ f =>
  by_cases hk:0 < comK l
  ·rw[if_pos hk]at hK
   have hcom:=jbZ h (by omega);have hok:ja3 f (jax (comK l) l):=(jcv (comK l) h (fun p hp q hq=>(hcom p hp).1.trans (hcom q hq).1.symm) (fun p hp=>(hcom p hp).2)).mono (by omega)
   obtain⟨e,hs⟩:=held hK
   exact⟨f,_,rfl,e,hok,hs⟩
  ·rw[if_neg hk]at hK
   obtain⟨i,_,hK⟩:=List.mem_flatMap.1 hK
   split at hK
   ·cases hK
   ·obtain⟨e,hs⟩:=held hK
    exact⟨f,_,rfl,e,jdR i h,hs⟩
def jbq(t:ByteArray)(n:jac):Prop:=t=jaK n∧∃ g,jbl (InlD g) n
structure jkN(L B:List ByteArray):Prop where
 node:∀ t∈L,∃ n,jbq t n∧∀ h∈jaI n,∃ t'∈L,h=shaB t'
 told:∀ t∈B,32≤t.size∧∃ t'∈L,∃ n,jbq t' n∧shaB t∈jaI n
theorem jqm:∀ (f:Nat) (l:List Pair),ja3 f l→jkN (jaD (jad (f+1) l)) (jaF (jaB (jad f) l)):=by
 intro f;induction f with
 | zero =>
  intro l h;have e2:jaB (jad 0) l=[]:=by have:=jdK h;unfold jaB;rw[if_pos (by omega)]
  have eT:jaD (jad (0+1) l)=[jaK (jaJ (jad 0) l)]:=by
   show jaD (.mk (jaK (jaJ (jad 0) l)) (jaB (jad 0) l))=_;rw[jaD,e2];simp[jaF]
  have hh:=jdu 0 l h;rw[e2]at hh;rw[eT,e2]
  refine⟨fun t ht=>?_,fun t ht=>by simp[jaF]at ht⟩
  rw[List.mem_singleton]at ht
  exact⟨_,⟨ht,0,(good 0 l h).1⟩,fun x hx=>by rw[hh]at hx;cases hx⟩
 | succ f ih =>
  intro l h;have eT:jaD (jad (f+1+1) l)=jaK (jaJ (jad (f+1)) l) :: jaF (jaB (jad (f+1)) l):=by
   show jaD (.mk (jaK (jaJ (jad (f+1)) l)) (jaB (jad (f+1)) l))=_;rw[jaD]
  have hh:=jdu (f+1) l h;have hroot:jbq (jaK (jaJ (jad (f+1)) l)) (jaJ (jad (f+1)) l):=⟨rfl,f+1,(good (f+1) l h).1⟩;have hsub:∀ {K:PT},K∈jaB (jad (f+1)) l→∀ t∈jaD K,t∈jaD (jad (f+1+1) l):=fun {K} hK t ht=>by
   rw[eT];exact List.mem_cons_of_mem _ (jbA.2 ⟨K,hK,ht⟩)
  have hkid:∀ {K:PT},K∈jaB (jad (f+1)) l→∃ m,K=jad (f+1) m∧ja3 f m∧32≤K.text.size:=fun {K} hK=>by
   obtain⟨g,m,e,h1,h2,h3⟩:=jhh h hK
   obtain rfl:f=g:=by omega
   exact⟨m,h1,h2,h3⟩
  constructor
  ·intro t ht
   rw[eT]at ht;rcases List.mem_cons.1 ht with rfl | ht
   ·refine⟨_,hroot,fun x hx=>?_⟩
    rw[hh]at hx
    obtain⟨K,hK,rfl⟩:=List.mem_map.1 hx
    exact⟨_,hsub hK _ (jgY K),rfl⟩
   ·obtain⟨K,hK,ht⟩:=jbA.1 ht
    obtain⟨m,rfl,hm,_⟩:=hkid hK
    obtain⟨n,h1,h2⟩:=(ih m hm).node t ht
    exact⟨n,h1,fun x hx=>by obtain⟨t',ht',e⟩:=h2 x hx;exact⟨t',hsub hK _ ht',e⟩⟩
  ·intro t ht
   obtain⟨K,hK,ht⟩:=jbA.1 ht
   obtain⟨m,rfl,hm,h32⟩:=hkid hK
   have eK:jaD (jad (f+1) m)=jaK (jaJ (jad f) m) :: jaF (jaB (jad f) m):=by
    show jaD (.mk (jaK (jaJ (jad f) m)) (jaB (jad f) m))=_;rw[jaD]
   rw[eK]at ht;rcases List.mem_cons.1 ht with rfl | ht
   ·refine⟨h32,_,?_,_,hroot,?_⟩
    ·rw[eT];exact List.mem_cons_self
    ·rw[hh];exact List.mem_map.2 ⟨_,hK,rfl⟩
   ·obtain⟨h1,t',ht',n,h2,h3⟩:=(ih m hm).told t ht
    exact⟨h1,t',hsub hK _ ht',n,h2,h3⟩
theorem jeH(l:List ByteArray):(jaW l).Nodup:=by
 unfold jaW
 have:∀ (l acc:List ByteArray),acc.Nodup→(l.foldl addF acc).Nodup:=fun l=>by
  induction l with
  | nil=>exact fun _ h=>h
  | cons x r ih =>
   intro acc h;rw[List.foldl_cons];refine ih _ ?_;unfold addF;split
   ·exact h
   ·rename_i hn
    have hm:x ∉ acc:=fun hx=>hn ((jec acc x).2 hx);rw[List.nodup_append]
    exact⟨h,by simp,fun a ha b hb e=>by simp at hb;subst hb;subst e;exact hm ha⟩
 exact this l [] (by simp)
structure jqf(L:List ByteArray)(top:ByteArray):Prop where
 head:L[0]?=some top
 nodup:L.Nodup
 node:∀ t∈L,∃ n,jbq t n∧∀ h∈jaI n,∃ t'∈L,h=shaB t'
 told:∀ (i:Nat) t,L[i+1]?=some t→32≤t.size∧∃ t'∈L,∃ n,jbq t' n∧shaB t∈jaI n
theorem jkF{l:List Pair}(h:jbp l=0):jqf (jaW (jaD (ja2 l))) (ja2 l).text:=by
 have hc:=jqm 12 (jaV l) (jeB (jbT h));have eT:jaD (ja2 l)=(ja2 l).text :: jaF (jaB (jad 12) (jaV l)):=by
  show jaD (.mk (jaK (jaJ (jad 12) (jaV l))) (jaB (jad 12) (jaV l)))=_;rw[jaD];rfl
 have hc:jkN (jaD (ja2 l)) (jaF (jaB (jad 12) (jaV l))):=hc;have hnd:=jeH (jaD (ja2 l))
 refine⟨jge _,hnd,fun t ht=>?_,fun i t ht=>?_⟩
 ·obtain⟨n,h1,h2⟩:=hc.node t ((jbi _ _).1 ht)
  exact⟨n,h1,fun x hx=>by obtain⟨t',ht',e⟩:=h2 x hx;exact⟨t',(jbi _ _).2 ht',e⟩⟩
 ·have hm:=(jbi _ _).1 (List.mem_of_getElem? ht)
  have hne:t≠(ja2 l).text:=fun e=>by
   have h0:=jge (ja2 l)
   obtain⟨h1,e1⟩:=List.getElem?_eq_some_iff.1 ht
   obtain⟨h2,e2⟩:=List.getElem?_eq_some_iff.1 h0
   exact List.pairwise_iff_getElem.1 hnd 0 (i+1) h2 h1 (by omega) (e2.trans (e.symm.trans e1.symm))
  rw[eT]at hm;rcases List.mem_cons.1 hm with e | hm
  ·exact absurd e hne
  ·obtain⟨h1,t',ht',n,h2⟩:=hc.told t hm
   exact⟨h1,t',(jbi _ _).2 ht',n,h2⟩
theorem jet(w:World){t:ByteArray}{n m:jac}(h:jbq t n)(k:jbq t m):n=m:=by
 obtain⟨h1,f,h2⟩:=h
 obtain⟨k1,g,k2⟩:=k
 exact jl7 w h2 k2 (h1.symm.trans k1)
def Inf(v t:ByteArray):Prop:=v.data.toList <:+: t.data.toList
theorem Inf.trans{a b c:ByteArray}(h:Inf a b)(k:Inf b c):Inf a c:=List.IsInfix.trans h k
theorem Inf.rfl'(a:ByteArray):Inf a a:=List.infix_refl _
theorem jdj(a b:ByteArray):Inf b (a++b):=⟨a.data.toList,[],by rw[ByteArray.data_append,Array.toList_append,List.append_nil]⟩
theorem jjg(v:ByteArray):Inf v (jaq v):=by
 unfold jaq;split
 ·exact Inf.rfl' v
 ·exact jdj _ _
theorem jlO{x:ByteArray}:∀ {l:List ByteArray},x∈l→Inf x (catB l)
 | y :: l,h=>by
  rcases List.mem_cons.1 h with rfl | h
  ·refine⟨[],(l.map (·.data.toList)).flatten,?_⟩
   show _=x.data.toList++(l.map (·.data.toList)).flatten
   simp
  ·obtain⟨s,t,e⟩:=jlO h
   have e:s++x.data.toList++t=(l.map (·.data.toList)).flatten:=e
   refine⟨y.data.toList++s,t,?_⟩
   show _=y.data.toList++(l.map (·.data.toList)).flatten;rw[←e];simp
theorem jeU{x:ByteArray}{l:List ByteArray}(h:x∈l):Inf x (jby l):=(jlO h).trans (jdj _ _)
theorem jdh.inf{f:Nat}{T:PT}{n:jac}(h:jdh f T n){v t:ByteArray}(ht:t∈jaD T)(hv:Inf v t):(∃ t∈jaF (jbV T),Inf v t)∨Inf v (refB T.text):=by
 by_cases hs:T.text.size < 32
 ·have hk:=h.small hs
  obtain⟨x,ks⟩:=T
  have hk:ks=[]:=hk;subst hk;unfold jaD jaF at ht;rw[List.mem_singleton]at ht;right;unfold refB;rw[if_pos hs, ←(show t=(PT.mk x []).text from ht)];exact hv
 ·left
  refine⟨t,?_,hv⟩
  unfold jbV;rw[if_neg hs,jbA]
  exact⟨T,List.mem_singleton.2 rfl,ht⟩
def partsN(l:List Pair):Nat→Nat
 | 0=>0
 | n+1=>partsN l n+(if (cutL n l).length=0 then 0 else 1)
theorem jev(l:List Pair)(n:Nat):∀ d,partsN l n≤partsN l (n+d)
 | 0=>Nat.le_refl _
 | d+1=>by have:=jev l n d;rw[show n+(d+1)=(n+d)+1 from rfl,partsN];omega
theorem jfD{l:List Pair}{i n:Nat}(h:(cutL i l).length≠0)(hi:i < n):1≤partsN l n:=by
 have:=jev l (i+1) (n - (i+1))
 rw[show i+1+(n - (i+1))=n by omega,partsN,if_neg h]at this;omega
theorem jef{l:List Pair}{i j n:Nat}(h:(cutL i l).length≠0)(hj:(cutL j l).length≠0)(hij:i < j)(hn:j < n):2≤partsN l n:=by
 have h1:=jfD h hij
 have:=jev l (j+1) (n - (j+1))
 rw[show j+1+(n - (j+1))=n by omega,partsN,if_neg hj]at this;omega
theorem jlR(B:List Pair→PT)(l:List Pair)(hB:∀ i,(cutL i l).length≠0→(jaD (B (jax 1 (cutL i l)))).length+2≤3 * (cutL i l).length):∀ n,(jaF (ksK B l n)).length+2 * partsN l n≤3 * jci l n
 | 0=>by simp[ksK,jaF,jci,partsN]
 | n+1=>by
  rw[jeV,jc7,List.length_append,jci,partsN]
  have:=jlR B l hB n
  by_cases h0:(cutL n l).length=0
  ·rw[if_pos h0,if_pos h0];simp[jaF];omega
  ·rw[if_neg h0,if_neg h0]
   have h1:=hB n h0;have h2:=jfw (B (jax 1 (cutL n l)));omega
theorem jhu{l:List Pair}(h:∃ p∈l,p.l=[])(n:Nat):jci l n+1≤l.length:=by
 obtain⟨p,hp,e⟩:=h
 induction l with
 | nil=>cases hp
 | cons q r ih =>
  rw[jdW,List.length_cons];rcases List.mem_cons.1 hp with rfl | hp
  ·have:=jdp r n
   rw[e]
   have:hN [] n=0:=rfl
   omega
  ·have:=ih hp
   have:=jqt q.l n
   omega
theorem jls{l:List Pair}{p:Pair}{x:UInt8}{r:List UInt8}(hp:p∈l)(hpx:p.l=x :: r):p∈cutL x.toNat l:=List.mem_filter.2 ⟨hp,by unfold jex;rw[show p.1.data.toList=x :: r from hpx];simp⟩
theorem jfd{l:List Pair}{p:Pair}{x:UInt8}{r:List UInt8}(hp:p∈l)(hpx:p.l=x :: r):(cutL x.toNat l).length≠0:=fun h0=>by
 have:=jls hp hpx
 rw[List.eq_nil_of_length_eq_zero h0]at this;cases this
theorem ji1{k:Nat}{l:List Pair}{p:Pair}(h:p∈l):∃ q∈jax k l,q.2=p.2:=⟨_,List.mem_map_of_mem h,rfl⟩
structure joN(T:PT)(l:List Pair):Prop where
 all:(jaD T).length+2≤3 * l.length
 two:2≤l.length→comK l=0→(jaD T).length+3≤3 * l.length
 inf:∀ p∈l,∃ t∈jaD T,Inf p.2 t
theorem jjd(f:Nat){l:List Pair}(h:l.length=1):joN (jad (f+1) l) l:=by
 obtain⟨p,rfl⟩:=List.length_eq_one_iff.1 h
 have e:jaD (jad (f+1) [p])=[jhN ⟨1,p.1,p.2,jau 16⟩]:=by
  show jaD (.mk (jaK (jaJ (jad f) [p])) (jaB (jad f) [p]))=_;have h1:jaJ (jad f) [p]=⟨1,p.1,p.2,jau 16⟩:=rfl;have h2:jaB (jad f) [p]=[]:=rfl;rw[h1,h2];rfl
 refine⟨by rw[e];simp,fun h2=>by simp at h2,fun q hq=>?_⟩
 rw[List.mem_singleton]at hq;subst hq;rw[e]
 refine⟨_,List.mem_singleton.2 rfl,(jjg q.2).trans ?_⟩
 unfold jhN;exact jeU (by simp)
theorem grow:∀ (f:Nat) (l:List Pair),ja3 f l→l≠[]→joN (jad (f+1) l) l:=by
 intro f;induction f with
 | zero =>
  intro l h hn;have h0:l.length≠0:=fun e=>hn (List.eq_nil_of_length_eq_zero e);have hl:l.length≤1:=by
   rcases Nat.lt_or_ge l.length 2 with h2 | h2
   ·omega
   ·obtain⟨a,ha⟩:∃ a,l[0]?=some a:=⟨_,List.getElem?_eq_getElem (by omega)⟩
    obtain⟨b,hb⟩:∃ b,l[1]?=some b:=⟨_,List.getElem?_eq_getElem (by omega)⟩
    have hlt:=jb4 h.rise (by omega) ha hb
    have:=(h.size b (List.mem_of_getElem? hb)).1
    rw[show b.l=[]from List.eq_nil_of_length_eq_zero (by show b.1.size=0;omega)]at hlt;exact absurd hlt (jaQ _)
  exact jjd 0 (by omega)
 | succ f ih =>
  intro l h hn;have h0:l.length≠0:=fun e=>hn (List.eq_nil_of_length_eq_zero e)
  by_cases h1:l.length=1
  ·exact jjd (f+1) h1
  have h2:2≤l.length:=by omega
  have hcom:=jbZ h h2;have eT:jaD (jad (f+1+1) l)=jaK (jaJ (jad (f+1)) l) :: jaF (jaB (jad (f+1)) l):=by
   show jaD (.mk (jaK (jaJ (jad (f+1)) l)) (jaB (jad (f+1)) l))=_;rw[jaD]
  by_cases hk:0 < comK l
  ·have hok:ja3 f (jax (comK l) l):=(jcv (comK l) h (fun p hp q hq=>(hcom p hp).1.trans (hcom q hq).1.symm) (fun p hp=>(hcom p hp).2)).mono (by omega)
   have hne:jax (comK l) l≠[]:=fun e=>by have:=jaC (comK l) l;rw[e]at this;simp at this;omega
   have hg:=ih _ hok hne
   obtain⟨_,i2,_⟩:=good f _ hok
   have hst:=i2 hne;have eB:jaB (jad (f+1)) l=jbV (jad (f+1) (jax (comK l) l)):=by
    unfold jaB;rw[if_neg (by omega),if_pos hk]
   have eN:jaJ (jad (f+1)) l=⟨2,(l.getD 0 pd).1.extract 0 (comK l),⟨#[]⟩,refB (jad (f+1) (jax (comK l) l)).text :: jau 15⟩:=by unfold jaJ;rw[if_neg h0,if_neg h1,if_pos hk]
   have hlen:=hg.two (by rw[jaC];omega) (je4 (by omega));rw[jaC]at hlen;have hh:=jfw (jad (f+1) (jax (comK l) l))
   refine⟨by rw[eT,eB,List.length_cons];omega,fun _ hz=>by omega,fun p hp=>?_⟩
   obtain⟨q,hq,e2⟩:=ji1 (k:=comK l) hp
   obtain⟨t,ht,hv⟩:=hg.inf q hq
   rw[e2]at hv;rw[eT,eB];rcases hst.inf ht hv with⟨t',ht',hv'⟩ | hv'
   ·exact⟨t',List.mem_cons_of_mem _ ht',hv'⟩
   ·refine⟨_,List.mem_cons_self,hv'.trans ?_⟩
    have:jaK (jaJ (jad (f+1)) l)=extB (jaJ (jad (f+1)) l):=by rw[eN];rfl
    rw[this,eN];unfold extB;exact jeU (by simp)
  ·have hkid:∀ i,(cutL i l).length≠0→jax 1 (cutL i l)≠[]:=fun i hi e=>by have:=jaC 1 (cutL i l);rw[e]at this;simp at this;omega
   have hg:∀ i,(cutL i l).length≠0→joN (jad (f+1) (jax 1 (cutL i l))) (jax 1 (cutL i l)):=fun i hi=>ih _ (jdR i h) (hkid i hi);have hst:∀ i,(cutL i l).length≠0→jdh f (jad (f+1) (jax 1 (cutL i l))) (jaJ (jad f) (jax 1 (cutL i l))):=fun i hi=>(good f _ (jdR i h)).2.1 (hkid i hi);have eB:jaB (jad (f+1)) l=ksK (jad (f+1)) l 16:=by
    unfold jaB;rw[if_neg (by omega),if_neg hk];rfl
   obtain⟨a,ha⟩:∃ a,l[0]?=some a:=⟨_,List.getElem?_eq_getElem (by omega)⟩
   obtain⟨b,hb⟩:∃ b,l[l.length - 1]?=some b:=⟨_,List.getElem?_eq_getElem (by omega)⟩
   have ga:l.getD 0 pd=a:=by rw[List.getD_eq_getElem?_getD,ha];rfl
   have gb:l.getD (l.length - 1) pd=b:=by rw[List.getD_eq_getElem?_getD,hb];rfl
   have ham:=List.mem_of_getElem? ha;have hbm:=List.mem_of_getElem? hb;have hlt:=jb4 h.rise (by omega) ha hb
   obtain⟨rs,hrs⟩:∃ rs,rs=(List.range 16).map fun i=>if (cutL i l).length=0 then (⟨#[]⟩:ByteArray)else refB (jad (f+1) (jax 1 (cutL i l))).text:=⟨_,rfl⟩
   have eN:jaJ (jad (f+1)) l=⟨3,⟨#[]⟩,if a.1.size=0 then a.2 else ⟨#[]⟩,rs⟩:=by unfold jaJ;rw[if_neg h0,if_neg h1,if_neg hk,ga,hrs]
   have hlen:(jaF (jaB (jad (f+1)) l)).length+4≤3 * l.length:=by
    rw[eB];have hks:=jlR (jad (f+1)) l (fun i hi=>by have:=(hg i hi).all;rwa [jaC]at this) 16;have hkc:jbb a.l b.l=0:=by have:comK l=jbb a.l b.l:=(by unfold comK jcc;rw[ga,gb]);omega
    cases hbl:b.l with
    | nil=>rw[hbl]at hlt;exact absurd hlt (jaQ _)
    | cons y t =>
     have hy:=jeJ (h.size b hbm).2.2.1 hbl;have cb:=jfd hbm hbl;cases hal:a.l with
     | nil =>
      have:=jhu ⟨a,ham,hal⟩ 16
      have:=jfD cb hy
      omega
     | cons x r =>
      have hx:=jeJ (h.size a ham).2.2.1 hal;have ca:=jfd ham hal;have hxy:x≠y:=by
       intro e;rw[hal,hbl,e]at hkc;simp[jbb]at hkc
      have hne:x.toNat≠y.toNat:=fun e=>hxy (UInt8.toNat_inj.1 e)
      have:=jdp l 16
      have:2≤partsN l 16:=by
       rcases Nat.lt_or_ge x.toNat y.toNat with e | e
       ·exact jef ca cb e hy
       ·exact jef cb ca (by omega) hx
      omega
   refine⟨by rw[eT,List.length_cons];omega,fun _ _=>by rw[eT,List.length_cons];omega,fun p hp=>?_⟩
   have hnb:jaK (jaJ (jad (f+1)) l)=jdn (jaJ (jad (f+1)) l):=by rw[eN];rfl
   have hbx:jbm (jaJ (jad (f+1)) l)=jbg rs (if a.1.size=0 then a.2 else ⟨#[]⟩):=by
    rw[jdE _ (by rw[eN,hrs];simp),eN]
   cases hpl:p.l with
   | nil =>
    have hpa:p=a:=by
     obtain⟨i,hi⟩:=List.getElem?_of_mem hp
     by_cases h00:i=0
     ·subst h00;rw[ha]at hi;exact (Option.some.inj hi).symm
     ·have:=jb4 h.rise (by omega) ha hi
      rw[hpl]at this;exact absurd this (jaQ _)
    subst hpa;have hz:p.1.size=0:=by show p.1.data.toList.length=0;rw[show p.1.data.toList=[]from hpl];rfl
    rw[eT]
    refine⟨_,List.mem_cons_self,(jjg p.2).trans ?_⟩
    rw[hnb];unfold jdn;rw[hbx,if_pos hz];refine jeU ?_;unfold jbg;simp
   | cons x r =>
    have hx:=jeJ (h.size p hp).2.2.1 hpl;have hc:=jfd hp hpl
    obtain⟨q,hq,e2⟩:=ji1 (k:=1) (jls hp hpl)
    obtain⟨t,ht,hv⟩:=(hg _ hc).inf q hq
    rw[e2]at hv;rw[eT,eB];rcases (hst _ hc).inf ht hv with⟨t',ht',hv'⟩ | hv'
    ·refine⟨t',List.mem_cons_of_mem _ ?_,hv'⟩
     obtain⟨T',hT',hm'⟩:=jbA.1 ht'
     refine jbA.2 ⟨T',?_,hm'⟩;unfold ksK;refine List.mem_flatMap.2 ⟨x.toNat,List.mem_range.2 hx,?_⟩;rw[if_neg hc];exact hT'
    ·refine⟨_,List.mem_cons_self,hv'.trans ?_⟩
     rw[hnb];unfold jdn;rw[hbx];refine jeU ?_;unfold jbg;refine List.mem_append.2 (.inl ?_);have hrm:refB (jad (f+1) (jax 1 (cutL x.toNat l))).text∈rs:=by
      rw[hrs];refine List.mem_map.2 ⟨x.toNat,List.mem_range.2 hx,?_⟩;rw[if_neg hc]
     refine List.mem_map.2 ⟨_,hrm,?_⟩;rw[if_neg (hst _ hc).may.1.pos]
theorem jkH{l:List Pair}(h:jbp l=0):(jaW (jaD (ja2 l))).length≤1+3 * l.length∧∀ p∈l,∃ t∈jaW (jaD (ja2 l)),Inf p.2 t:=by
 by_cases h0:l=[]
 ·subst h0
  refine⟨?_,by simp⟩
  have:=jgd (jaD (ja2 []))
  have h1:=jjI (jbT h);simp at h1 ⊢;omega
 ·have hr:=jeB (jbT h)
  have hne:jaV l≠[]:=fun e=>h0 (by unfold jaV at e;simpa using e);have hg:=grow 12 (jaV l) hr hne;have h2:(jaV l).length=l.length:=by unfold jaV;rw[List.length_map]
  have h3:=hg.all;rw[h2]at h3;have h4:=jgd (jaD (ja2 l));have h5:ja2 l=jad (12+1) (jaV l):=rfl;rw[←h5]at h3
  refine⟨by omega,fun p hp=>?_⟩
  obtain⟨t,ht,hv⟩:=hg.inf _ (List.mem_map_of_mem hp)
  exact⟨t,(jbi _ _).2 ht,hv⟩
theorem jl9(w:World)(v:Value)(l:List Pair)(hv:RdP w v l)(hn:l.length≤9223372036854775807)(hs:∀ p∈l,p.1.size≤9223372036854775807∧p.2.size≤9223372036854775807)(h:jbp l≠0):Calls Tryz.prog 26 #[v] w fun e w'=>e=.returned (.tuple #[.slice none 0 0,.int .i64 (jbp l)])∧Ext w w':=by
 have hck:=jlk w v l hv hn hs
 obtain⟨a,c,hsl⟩:=hv.sl
 subst hsl
 obtain⟨x,hx⟩:∃ x,x=jbp l:=⟨_,rfl⟩
 rw[←hx]at h hck ⊢;have hne:(x == 0)=false:=by simpa using h
 have HT:=Hd hck;clear hck hv hx hs;rw[←callsIn_wide (n:=0)];refine callsIn_of_wp_marks Tryz.func26 rfl trivial ?_ rfl;simp only[Tryz.ntmps26,List.size_toArray,List.length_cons,List.length_nil,Nat.reduceAdd,Nat.reduceSub,Array.replicate_succ,Array.replicate_zero,List.push_toArray,List.append_toArray,List.nil_append,List.cons_append];gi_wp2_with fail
 refine⟨trivial,rfl,CallsIn.mono (callsIn_wide.2 HT.o) ?_⟩
 rintro e w1 ⟨rfl,hE⟩;have HE:=Hd hE;clear hE;gi_wp2_with fail
 refine⟨_,results_tmp2 rfl _ _ _,?_⟩
 exact⟨rfl,HE.o⟩
def jdB(p:Pair):Bool:=decide (p.1.size≤20) && decide (p.2.size≤100)
def fewB(l:List Pair):Bool:=l.all jdB && decide (l.length≤45)
def jq5(w:World)(l:List Pair)(i:Value)(wr:World):Prop:=∃ k:Nat,k≤l.length∧k≤46∧i=.int .i64 k∧Ext w wr∧(l.take k).all jdB=true
theorem jm0{l:List Pair}{k:Nat}{p:Pair}(h:l[k]?=some p):(l.take (k+1)).all jdB=((l.take k).all jdB && jdB p):=by
 rw[List.take_add_one,h,List.all_append];simp
theorem jk1{l:List Pair}{k:Nat}{p:Pair}(h:l[k]?=some p)(hb:jdB p=false):fewB l=false:=by
 unfold fewB
 have:l.all jdB=false:=by
  rw[Bool.eq_false_iff];intro h2
  have:=List.all_eq_true.1 h2 p (List.mem_of_getElem? h)
  rw[hb]at this;cases this
 rw[this];rfl
theorem jqp(w:World)(v:Value)(l:List Pair)(hv:RdP w v l)(hn:l.length≤9223372036854775807)(hs:∀ p∈l,p.1.size≤9223372036854775807∧p.2.size≤9223372036854775807) :
  Calls Tryz.prog 25 #[v] w fun e w'=>e=.returned (.bool (fewB l))∧Ext w w':=by
 have HV:=Hd hv;have HS:=Hd hs
 obtain⟨a,c,hsl⟩:=hv.sl
 subst hsl;clear hv hs
 obtain⟨R,hR⟩:∃ R,R=fewB l:=⟨_,rfl⟩
 rw[←hR];have HR:=Hd hR;clear hR;go_enter Tryz.func25,Tryz.ntmps25;go_wp2_with fail
 go_loopw [3] (fun i wr=>jq5 w l i wr) (fun i _=>l.length - (intOf i).toNat)
 case atStart=>exact⟨0,by omega,by omega,rfl,ExtR w,rfl⟩
 case round =>
  obtain⟨k,hk,hk6,rfl,hE,hall⟩:=hrel
  have HE:=Hd hE;have HALL:=Hd hall;clear hE hall
  by_cases hlt:k < l.length
  ·have b1:(k:Int) < (l.length:Int):=by omega
   by_cases h45:k≤45
   ·have b2:(k:Int)≤45:=by omega
    obtain⟨p,hp⟩:∃ p,l[k]?=some p:=⟨_,List.getElem?_eq_getElem hlt⟩
    rcases HV.o with⟨_,_,_,h0⟩ |⟨b,o,c1,hh,hb,hc,hcell⟩
    ·rw[h0]at hlt;cases hlt
    cases hh
    obtain⟨q1,q2⟩:=hcell k p hp
    have q1:=jab q1 HE.o;have q2:=jab q2 HE.o;have hsp:=HS.o p (List.mem_of_getElem? hp);have HP:=Hd hp
    obtain⟨x,y⟩:=p
    simp only at q1 q2 hsp;clear hcell hb hc hp
    by_cases hx:20 < x.size
    ·have b3:(20:Int) < (x.size:Int):=by omega
     have HF:=Hd (show R=false by rw[HR.o];exact jk1 HP.o (by unfold jdB;simp;omega));clear hx;go_wp2_with fail
     go_ret
     exact⟨by rw[HF.o];rfl,HE.o⟩
    ·have b3:¬(20:Int) < (x.size:Int):=by omega
     by_cases hy:100 < y.size
     ·have b4:(100:Int) < (y.size:Int):=by omega
      have HF:=Hd (show R=false by rw[HR.o];exact jk1 HP.o (by unfold jdB;simp;omega));clear hx hy;go_wp2_with fail
      go_ret
      exact⟨by rw[HF.o];rfl,HE.o⟩
     ·have b4:¬(100:Int) < (y.size:Int):=by omega
      have HG:=Hd (show (l.take (k+1)).all jdB=true by rw[jm0 HP.o,HALL.o];unfold jdB;simp;omega);clear hx hy;go_wp2_with fail
      go_roundw
      case rel=>exact⟨k+1,by omega,by omega,by go_num,HE.o,HG.o⟩
      case measure=>simp[intOf];omega
   ·have b2:¬(k:Int)≤45:=by omega
    have b3:¬(l.length:Int)≤45:=by omega
    have HF:=Hd (show R=false by rw[HR.o];unfold fewB;simp;omega);clear h45;go_wp2_with fail
    go_ret
    exact⟨by rw[HF.o];rfl,HE.o⟩
  ·have hkl:k=l.length:=by omega
   have b1:¬(k:Int) < (l.length:Int):=by omega
   have hall:=HALL.o;rw[hkl,List.take_length]at hall
   by_cases h45:l.length≤45
   ·have b2:(l.length:Int)≤45:=by omega
    have HF:=Hd (show R=true by rw[HR.o];unfold fewB;rw[hall];simp;omega);clear hkl hall h45;go_wp2_with fail
    go_ret
    exact⟨by rw[HF.o];rfl,HE.o⟩
   ·have b2:¬(l.length:Int)≤45:=by omega
    have HF:=Hd (show R=false by rw[HR.o];unfold fewB;simp;omega);clear hkl hall h45;go_wp2_with fail
    go_ret
    exact⟨by rw[HF.o];rfl,HE.o⟩
def jou(l:List Pair):Prop:=∀ p∈l,p.1.size≤9223372036854775807∧p.2.size≤9223372036854775807
theorem jbK(a b:ByteArray):ja9 a b=true↔Lt a.data.toList b.data.toList:=by
 unfold ja9;rw[ByteArray.toList_eq,ByteArray.toList_eq]
end
section
open Go Go.RowKit
attribute [local go_sem] Oper.semAt_some
def preB(p s:ByteArray):Bool:=p.data.toList.isPrefixOf s.data.toList
theorem jjF:∀ (p s:List UInt8),p.isPrefixOf s=(decide (p.length≤s.length) && (s.take p.length == p))
 | [],s=>by simp
 | x :: p,[]=>by simp
 | x :: p,y :: s=>by
  have ih:=jjF p s;simp only[List.isPrefixOf,List.length_cons,List.take_succ_cons,ih,Nat.add_le_add_iff_right]
  by_cases h:x=y
  ·subst h;simp
  ·have:(y == x)=false:=by simpa using fun e=>h e.symm
   simp[h,this]
theorem jol(s:ByteArray)(n:Nat):(s.extract 0 n).toList=s.data.toList.take n:=by
 rw[ByteArray.toList_eq,ByteArray.data_extract,Array.toList_extract,List.extract_eq_take_drop];simp
theorem jn5(w:World)(s p:ByteArray)(hs:s.size≤1000000)(hp:p.size≤1000000):Calls Tryz.prog 163 #[.string s,.string p] w fun e w'=>e=.returned (.bool (preB p s))∧w'=w:=by
 have ht:=jjF p.data.toList s.data.toList;have e1:p.data.toList.length=p.size:=rfl;have e2:s.data.toList.length=s.size:=rfl;rw[e1,e2, ←jol]at ht;have ht:preB p s=_:=ht
 by_cases hl:p.size≤s.size
 ·have b1:(p.size:Int)≤(s.size:Int):=by omega
  have b2:¬(s.size:Int) < (p.size:Int):=by omega
  have b3:((p.size:Int)).toNat=p.size:=by omega
  rw[decide_eq_true hl,Bool.true_and, ←ByteArray.toList_eq]at ht;rw[ht];clear ht e1 e2;go_enter Tryz.func163,Tryz.ntmps163;go_wp2_with fail
  go_ret
  exact⟨rfl,rfl⟩
 ·have b1:(s.size:Int) < (p.size:Int):=by omega
  rw[decide_eq_false hl,Bool.false_and]at ht;rw[ht];clear ht e1 e2;go_enter Tryz.func163,Tryz.ntmps163;go_wp2_with fail
  go_ret
  exact⟨rfl,rfl⟩
theorem jix(w:World)(s p:ByteArray)(hs:s.size≤1000000)(hp:p.size≤1000000):Calls Tryz.prog 117 #[.string s,.string p] w fun e w'=>e=.returned (.bool (preB p s))∧w'=w:=by
 go_enter Tryz.func117,Tryz.ntmps117;go_wp2_with fail
 refine (jn5 w s p hs hp).mono ?_;rintro e w1 ⟨rfl,rfl⟩;go_wp2_with fail
 go_ret
 exact⟨rfl,rfl⟩
theorem jee{W:World}{B:Nat}{T:TypeId}{sz:Nat}{v:Value}{n:Nat}{xs:List Value}(h:W.ownsRow B T sz v n xs){b:Nat}(hb:v.ownBlock=some b):b < W.heap.size:=by
 obtain⟨h1,h2 |⟨g,cap,cur,h2,h3,h4,h5⟩⟩:=h
 ·rw[h2.1]at hb;cases hb
 ·rw[h2]at hb
  have e:some g=some b:=hb;obtain rfl:=Option.some.inj e;exact (Array.getElem?_eq_some_iff.1 h4).1
structure Pl5 where
 path:ByteArray
 value:ByteArray
 ref:ByteArray
def jck(p:ByteArray):Bool:=p.size % 2 == 0 && jbc p
def jbv(fr p v:ByteArray):List Pl5:=if v.size=0∨ja9 p fr=true then []else if jck p=true then [⟨p,v,⟨#[]⟩⟩]else []
def jbs(fr p r:ByteArray):List Pl5:=if r.size=0∨(ja9 p fr=true∧preB p fr=false)then []else [⟨p,⟨#[]⟩,r⟩]
def nib1(i:Nat):ByteArray:=⟨#[UInt8.ofNat i]⟩
def keyV(p:ByteArray):Value:=.tuple #[.string (if jck p=true then jbD p else ⟨#[]⟩),.bool (jck p)]
theorem jpq(w:World)(p:ByteArray)(hs:p.size≤1000000):Calls Tryz.prog 159 #[.string p] w fun e w'=>e=.returned (keyV p)∧Ext w w':=by
 by_cases h2:p.size % 2=0
 ·have e1:(p.size:Int) % 2=0:=by omega
  cases hv:jbc p with
  | true =>
   have ek:jck p=true:=by unfold jck;rw[hv,h2];rfl
   have ev:keyV p=.tuple #[.string (jbD p),.bool true]:=by unfold keyV;rw[ek];rfl
   rw[ev];clear ek ev;go_enter Tryz.func159,Tryz.ntmps159;go_wp2_with fail
   refine (jg1 w p (by omega)).mono ?_;rintro e w1 ⟨rfl,rfl⟩;rw[hv];go_wp2_with fail
   refine (jiG w1 p hs).mono ?_;rintro e w2 ⟨rfl,hE⟩;go_wp2_with fail
   go_ret2
   exact⟨rfl,hE⟩
  | false =>
   have ek:jck p=false:=by unfold jck;rw[hv,h2];rfl
   have ev:keyV p=.tuple #[.string ⟨#[]⟩,.bool false]:=by unfold keyV;rw[ek];rfl
   rw[ev];clear ek ev;go_enter Tryz.func159,Tryz.ntmps159;go_wp2_with fail
   refine (jg1 w p (by omega)).mono ?_;rintro e w1 ⟨rfl,rfl⟩;rw[hv];go_wp2_with fail
   go_ret2
   exact⟨rfl,ExtR w1⟩
 ·have e1:¬(p.size:Int) % 2=0:=by omega
  have ek:jck p=false:=by unfold jck;rw[show (p.size % 2 == 0)=false by simpa using h2];rfl
  have ev:keyV p=.tuple #[.string ⟨#[]⟩,.bool false]:=by unfold keyV;rw[ek];rfl
  have e2:((p.size:Int) % 2 != 0)=true:=by simpa using e1
  rw[ev];clear ek ev;go_enter Tryz.func159,Tryz.ntmps159;go_wp2_with fail
  go_ret2
  exact⟨rfl,ExtR w⟩
def plV(p:Pl5):List Value:=[.string p.path,.string p.value,.string p.ref]
def jbJ(ps:List Pl5):List Value:=ps.flatMap plV
theorem jf6(ps:List Pl5):(jbJ ps).length=ps.length * 3:=by
 induction ps with
 | nil=>rfl
 | cons p r ih=>show (plV p++jbJ r).length=_;rw[List.length_append,ih,List.length_cons];show 3+_=_;omega
theorem jdF(p:Pl5):jbJ [p]=plV p:=by simp[jbJ]
theorem jbX(xs ys:List Pl5):jbJ (xs++ys)=jbJ xs++jbJ ys:=by simp[jbJ]
theorem Tryz.uPls:Tryz.prog.underlying 147=some (.slice 254):=by kernel_rfl
theorem Tryz.infoPl:(Tryz.prog.info? 254).map (fun i=>(i.zero,i.size,i.bytes))=some (some (.agg #[.string ⟨#[]⟩,.string ⟨#[]⟩,.string ⟨#[]⟩]),3,48):=by kernel_rfl
theorem Tryz.sPls:jdN Tryz.prog 147 254 3 48:=jdN.mk' Tryz.uPls Tryz.infoPl rfl (by decide)
structure jaS(W:World)(c s:Nat)(fr:ByteArray)(v:Value)(ps:List Pl5)(lk:Int):Prop where
 cur:Blk W c (.cells #[.pointer (some ⟨s,0,none⟩),.string fr,v,.int .i64 lk] 151)
 row:W.ownsRow 0 254 3 v ps.length (jbJ ps)
 ne:v.ownBlock≠some c
structure jaP(c s:Nat)(fr:ByteArray)(W:World)(v:Value)(W':World)(v':Value)(ps:List Pl5)(lk:Int):Prop where
 at':jaS W' c s fr v' ps lk
 kp:jae (fun b=>b=c∨v.ownBlock=some b) W W'
 new:v'.ownBlock=v.ownBlock∨∀ b,v'.ownBlock=some b→W.heap.size≤b
theorem jaP.refl{W:World}{c s:Nat}{fr:ByteArray}{v:Value}{ps:List Pl5}{lk:Int}(h:jaS W c s fr v ps lk):jaP c s fr W v W v ps lk:=⟨h,jae.refl _ W,.inl rfl⟩
theorem jaP.trans{c s:Nat}{fr:ByteArray}{W W' W'':World}{v v' v'':Value}{ps ps':List Pl5}{lk lk':Int}(h:jaP c s fr W v W' v' ps lk)(k:jaP c s fr W' v' W'' v'' ps' lk'):jaP c s fr W v W'' v'' ps' lk':=by
 refine⟨k.at',h.kp.trans' k.kp (fun x hx e=>?_),?_⟩
 ·rcases e with e | e
  ·exact .inl e
  ·rcases h.new with h1 | h1
   ·exact .inr (h1 ▸ e)
   ·have:=h1 x e;omega
 ·rcases k.new with h2 | h2
  ·rcases h.new with h1 | h1
   ·exact .inl (h2.trans h1)
   ·exact .inr fun b hb=>h1 b (h2 ▸ hb)
  ·exact .inr fun b hb=>Nat.le_trans h.kp.size (h2 b hb)
theorem jaS.ext{W W':World}{c s:Nat}{fr:ByteArray}{v:Value}{ps:List Pl5}{lk:Int}(h:jaS W c s fr v ps lk)(e:Ext W W'):jaS W' c s fr v ps lk:=⟨h.cur.keeps e (fun h=>h),ja7 h.row e,h.ne⟩
theorem jaP.ext{c s:Nat}{fr:ByteArray}{W W' W'':World}{v v':Value}{ps:List Pl5}{lk:Int}(h:jaP c s fr W v W' v' ps lk)(e:Ext W' W''):jaP c s fr W v W'' v' ps lk:=⟨h.at'.ext e,h.kp.trans (e.mono (fun _ _ g=>g.elim)),h.new⟩
theorem jaP.ahead{c s:Nat}{fr:ByteArray}{W0 W W':World}{v v':Value}{ps:List Pl5}{lk:Int}(e:Ext W0 W)(h:jaP c s fr W v W' v' ps lk):jaP c s fr W0 v W' v' ps lk:=⟨h.at',(e.mono (fun _ _ g=>g.elim)).trans h.kp,h.new.imp id (fun h1 b hb=>Nat.le_trans e.size (h1 b hb))⟩
def jcs(c s:Nat)(fr:ByteArray)(W:World)(v:Value)(ps:List Pl5)(lk:Int)(e:Ending)(W':World):Prop:=e=.returned (.tuple #[])∧∃ v',jaP c s fr W v W' v' ps lk
def bare(W:World):World:={ W with heap:=#[] }
theorem jm7(W:World):Ext (bare W) W:=⟨rfl,rfl,rfl,Nat.zero_le _,fun b hb=>absurd hb (Nat.not_lt_zero b)⟩
theorem ORow.any{T:TypeId}{sz:Nat}{W:World}{v:Value}{n:Nat}{xs:List Value}(h:W.ownsRow 0 T sz v n xs):ORow T sz (bare W) W v n xs:=⟨jaH h,h,jm7 W,fun _ _=>Nat.zero_le _⟩
theorem jiI(p:Pl5):∀ u∈plV p,u.oneCell'=true:=by
 intro u hu;simp only[plV,List.mem_cons,List.not_mem_nil,or_false]at hu;rcases hu with rfl | rfl | rfl <;> rfl
theorem jaS.set{W W':World}{c s:Nat}{fr:ByteArray}{v:Value}{ps:List Pl5}{lk:Int}(h:jaS W c s fr v ps lk)(e:Ext W W'){v':Value}{w':World}{n:Nat}{qs:List Pl5}(hq:n=qs.length)(r1:w'.ownsRow 0 254 3 v' n (jbJ qs))(r2:jae (fun b=>v.ownBlock=some b) W' w')(r3:v'.ownBlock=v.ownBlock∨∀ b,v'.ownBlock=some b→W'.heap.size≤b) :
  jaP c s fr W v (w'.setCell ⟨c,2,none⟩ v') v' qs lk:=by
 have hb:Blk w' c (.cells #[.pointer (some ⟨s,0,none⟩),.string fr,v,.int .i64 lk] 151):=(h.cur.keeps e (fun h=>h)).keeps r2 (fun hh=>h.ne hh);have hne:v'.ownBlock≠some c:=fun hh=>by
  rcases r3 with r3 | r3
  ·exact h.ne (r3 ▸ hh)
  ·have h1:=r3 c hh
   have h2:=(h.cur.keeps e (fun h=>h)).lt;omega
 refine⟨⟨hb.set_same v',?_,hne⟩,?_,?_⟩
 ·rw[←hq]
  exact jaG r1 (jae.oneSet w' ⟨c,2,none⟩ v') (fun b hb e=>hne (by have e:b=c:=e;rw[←e];exact hb))
 ·refine ((e.mono (fun _ _ g=>g.elim)).trans' r2 (fun x hx g=>.inr g)).trans' (jae.oneSet w' ⟨c,2,none⟩ v') (fun x hx g=>.inl g)
 ·exact r3.imp id (fun r3 b hb=>Nat.le_trans e.size (r3 b hb))
theorem jly(W:World)(c s:Nat)(fr:ByteArray)(v:Value)(ps:List Pl5)(lk:Int)(h:jaS W c s fr v ps lk)(hps:ps.length≤1000000)(p x:ByteArray)(hp:p.size≤1000000) :
  Calls Tryz.prog 147 #[.pointer (some ⟨c,0,none⟩),.string p,.string x] W (jcs c s fr W v (ps++jbv fr p x) lk):=by
 have q1:=h.cur.cell (i:=1) (v:=.string fr) (by rfl);have q2:=h.cur.cell (i:=2) (v:=v) (by rfl);have HE:=Hd (show jaP c s fr W v W v ps lk from jaP.refl h);cases hx:x.toList.isEmpty with
 | true =>
  have h0:x.size=0:=by
   rw[List.isEmpty_iff]at hx
   have:x.toList.length=x.size:=by rw[ByteArray.toList_eq];rfl
   rw[←this,hx];rfl
  have e0:jbv fr p x=[]:=by unfold jbv;rw[if_pos (.inl h0)]
  rw[e0,List.append_nil];clear e0 h h0;go_enter Tryz.func147,Tryz.ntmps147;go_wp2_with fail
  refine bodyPost_ret (results_none rfl _ _ _) rfl ?_
  exact⟨rfl,v,HE.o⟩
 | false =>
  have hx0:¬ x.size=0:=fun e=>by
   have:x.toList.length=x.size:=by rw[ByteArray.toList_eq];rfl
   rw[e]at this;rw[List.eq_nil_of_length_eq_zero this]at hx;cases hx
  cases hl:Op.bytesLess p.toList fr.toList with
  | true =>
   have e0:jbv fr p x=[]:=by unfold jbv;rw[if_pos (.inr hl)]
   rw[e0,List.append_nil];clear e0 h;go_enter Tryz.func147,Tryz.ntmps147;go_wp2_with fail
   refine bodyPost_ret (results_none rfl _ _ _) rfl ?_
   exact⟨rfl,v,HE.o⟩
  | false =>
   have e0:jbv fr p x=if jck p=true then [⟨p,x,⟨#[]⟩⟩]else []:=by unfold jbv;rw[if_neg (fun e=>e.elim hx0 (fun e=>by have e:Op.bytesLess p.toList fr.toList=true:=e;rw[hl]at e;cases e))]
   have H:=Hd h;rw[e0];have HK:=jpq W p hp;unfold keyV at HK;have HKC:=Hd HK;clear e0 h hx0 HK;cases hk:jck p with
   | false =>
    rw[if_neg (by simp),List.append_nil];rw[hk]at HKC;clear hk;go_enter Tryz.func147,Tryz.ntmps147;go_wp2_with fail
    refine HKC.o.mono ?_;rintro e w1 ⟨rfl,hE⟩;have HE1:=Hd (HE.o.ext hE);clear hE;go_wp2_with fail
    refine bodyPost_end (results_none rfl _ _ _) rfl ?_
    exact⟨rfl,v,HE1.o⟩
   | true =>
    rw[if_pos rfl];rw[hk]at HKC
    obtain⟨ad,cp,hv⟩:=jaH H.o.row
    obtain⟨qs,hqs⟩:∃ qs,qs=ps++[(⟨p,x,⟨#[]⟩⟩:Pl5)]:=⟨_,rfl⟩
    have HQ:=Hd hqs;rw[←hqs];subst hv;have hm1:ps.length+1≤maxLen:=by unfold maxLen;omega
    have hm2:(ps.length+1) * 48≤140737488355328:=by omega
    clear hk hqs;go_enter Tryz.func147,Tryz.ntmps147;go_wp2_with fail
    refine HKC.o.mono ?_;rintro e w1 ⟨rfl,hE⟩;simp only[if_true];have q2:=jab q2 hE;have HX:=Hd hE;clear hE;go_wp2_with (at_builtin;(refine jbH Tryz.sPls (ORow.any (ja7 H.o.row (HX.o.alloc _))) (.tmp 28) (.tmp 32) rfl rfl rfl (jbe (Blk.new w1 _)) (news:=plV ⟨p,x,⟨#[]⟩⟩) (jiI _) rfl rfl hm1 hm2 ?_;intro v' w' r1 r2 r3;have q3:=jaY (jab q2 ((ExtR w1).alloc _)) r2 (fun hh=>H.o.ne hh);have qf:w'.frozen? ⟨c,2,none⟩=false:=((H.o.cur.keeps (HX.o.alloc _) (fun h=>h)).keeps r2 (fun hh=>H.o.ne hh)).frozen;have HR:=Hd (And.intro r1 (And.intro r2 r3));obtain⟨ad',cp',hv'⟩:=r1.sl;subst hv';clear r1 r2 r3))
    refine bodyPost_end (results_none rfl _ _ _) rfl ?_
    refine⟨rfl,.slice ad' (ps.length+1) cp',?_⟩
    have hr:=HR.o.1.own;rw[←jdF, ←jbX, ←HQ.o]at hr;exact H.o.set (HX.o.alloc _) (by rw[HQ.o,List.length_append];rfl) hr HR.o.2.1 HR.o.2.2
theorem jhc(W:World)(c s:Nat)(fr:ByteArray)(v:Value)(ps:List Pl5)(lk:Int)(h:jaS W c s fr v ps lk)(hps:ps.length≤1000000)(p x:ByteArray)(hp:p.size≤1000000)(hf:fr.size≤1000000) :
  Calls Tryz.prog 148 #[.pointer (some ⟨c,0,none⟩),.string p,.string x] W (jcs c s fr W v (ps++jbs fr p x) lk):=by
 have q1:=h.cur.cell (i:=1) (v:=.string fr) (by rfl);have q2:=h.cur.cell (i:=2) (v:=v) (by rfl);have HE:=Hd (show jaP c s fr W v W v ps lk from jaP.refl h);have HPC:=Hd (jix W fr p hf hp);cases hx:x.toList.isEmpty with
 | true =>
  have h0:x.size=0:=by
   rw[List.isEmpty_iff]at hx
   have:x.toList.length=x.size:=by rw[ByteArray.toList_eq];rfl
   rw[←this,hx];rfl
  have e0:jbs fr p x=[]:=by unfold jbs;rw[if_pos (.inl h0)]
  rw[e0,List.append_nil];clear e0 h h0;go_enter Tryz.func148,Tryz.ntmps148;go_wp2_with fail
  refine bodyPost_ret (results_none rfl _ _ _) rfl ?_
  exact⟨rfl,v,HE.o⟩
 | false =>
  have hx0:¬ x.size=0:=fun e=>by
   have:x.toList.length=x.size:=by rw[ByteArray.toList_eq];rfl
   rw[e]at this;rw[List.eq_nil_of_length_eq_zero this]at hx;cases hx
  have fin:∀ b:Bool,preB p fr=b→(b=false→Op.bytesLess p.toList fr.toList=false)→Calls Tryz.prog 148 #[.pointer (some ⟨c,0,none⟩),.string p,.string x] W (jcs c s fr W v (ps++[(⟨p,⟨#[]⟩,x⟩:Pl5)]) lk):=by
   intro b hb hbl;have H:=Hd h;rw[hb]at HPC
   obtain⟨ad,cp,hv⟩:=jaH H.o.row
   obtain⟨qs,hqs⟩:∃ qs,qs=ps++[(⟨p,⟨#[]⟩,x⟩:Pl5)]:=⟨_,rfl⟩
   have HQ:=Hd hqs;rw[←hqs];subst hv;have hm1:ps.length+1≤maxLen:=by unfold maxLen;omega
   have hm2:(ps.length+1) * 48≤140737488355328:=by omega
   clear hqs h hx0 hb;cases hl:Op.bytesLess p.toList fr.toList with
   | true =>
    cases b with
    | false=>rw[hbl rfl]at hl;cases hl
    | true =>
     clear hbl;go_enter Tryz.func148,Tryz.ntmps148;go_wp2_with fail
     refine HPC.o.mono ?_;rintro e w1 ⟨rfl,hw⟩;subst hw;go_wp2_with (at_builtin;(refine jbH Tryz.sPls (ORow.any (ja7 H.o.row ((ExtR _).alloc _))) (.tmp 29) (.tmp 33) rfl rfl rfl (jbe (Blk.new _ _)) (news:=plV ⟨p,⟨#[]⟩,x⟩) (jiI _) rfl rfl hm1 hm2 ?_;intro v' w' r1 r2 r3;have q3:=jaY (jab q2 ((ExtR _).alloc _)) r2 (fun hh=>H.o.ne hh);have qf:w'.frozen? ⟨c,2,none⟩=false:=((H.o.cur.keeps ((ExtR _).alloc _) (fun h=>h)).keeps r2 (fun hh=>H.o.ne hh)).frozen;have HR:=Hd (And.intro r1 (And.intro r2 r3));obtain⟨ad',cp',hv'⟩:=r1.sl;subst hv';clear r1 r2 r3))
     refine bodyPost_end (results_none rfl _ _ _) rfl ?_
     refine⟨rfl,.slice ad' (ps.length+1) cp',?_⟩
     have hr:=HR.o.1.own;rw[←jdF, ←jbX, ←HQ.o]at hr;exact H.o.set ((ExtR _).alloc _) (by rw[HQ.o,List.length_append];rfl) hr HR.o.2.1 HR.o.2.2
   | false =>
    clear hbl;go_enter Tryz.func148,Tryz.ntmps148;go_wp2_with (at_builtin;(refine jbH Tryz.sPls (ORow.any (ja7 H.o.row ((ExtR W).alloc _))) (.tmp 29) (.tmp 33) rfl rfl rfl (jbe (Blk.new W _)) (news:=plV ⟨p,⟨#[]⟩,x⟩) (jiI _) rfl rfl hm1 hm2 ?_;intro v' w' r1 r2 r3;have q3:=jaY (jab q2 ((ExtR W).alloc _)) r2 (fun hh=>H.o.ne hh);have qf:w'.frozen? ⟨c,2,none⟩=false:=((H.o.cur.keeps ((ExtR W).alloc _) (fun h=>h)).keeps r2 (fun hh=>H.o.ne hh)).frozen;have HR:=Hd (And.intro r1 (And.intro r2 r3));obtain⟨ad',cp',hv'⟩:=r1.sl;subst hv';clear r1 r2 r3))
    refine bodyPost_end (results_none rfl _ _ _) rfl ?_
    refine⟨rfl,.slice ad' (ps.length+1) cp',?_⟩
    have hr:=HR.o.1.own;rw[←jdF, ←jbX, ←HQ.o]at hr;exact H.o.set ((ExtR W).alloc _) (by rw[HQ.o,List.length_append];rfl) hr HR.o.2.1 HR.o.2.2
  by_cases hc:ja9 p fr=true∧preB p fr=false
  ·have e0:jbs fr p x=[]:=by unfold jbs;rw[if_pos (.inr hc)]
   obtain⟨hl,hb⟩:=hc
   have hl:Op.bytesLess p.toList fr.toList=true:=hl;rw[e0,List.append_nil];rw[hb]at HPC;clear e0 h hx0 fin hb;go_enter Tryz.func148,Tryz.ntmps148;go_wp2_with fail
   refine HPC.o.mono ?_;rintro e w1 ⟨rfl,hw⟩;subst hw;go_wp2_with fail
   refine bodyPost_ret (results_none rfl _ _ _) rfl ?_
   exact⟨rfl,v,HE.o⟩
  ·have e0:jbs fr p x=[⟨p,⟨#[]⟩,x⟩]:=by unfold jbs;rw[if_neg (fun e=>e.elim hx0 hc)]
   rw[e0];refine fin _ rfl fun hb=>?_;rw[Bool.eq_false_iff];exact fun hl=>hc ⟨hl,hb⟩
end
section
open Go Go.RowKit
theorem jpF{f:Nat}{l:List Pair}(h:ja3 f l)(hn:l≠[]):(refB (jad (f+1) l).text).size≠0:=((good f l h).2.1 hn).may.1.pos
theorem jkg(g:Nat→ByteArray){i n:Nat}(h:i < n):((List.range n).map g).getD i ⟨#[]⟩=g i:=by
 rw[List.getD_eq_getElem?_getD,List.getElem?_map,List.getElem?_range h];rfl
theorem ji4{f:Nat}{l m:List Pair}(hm:m≠[])(ho:ja3 f m)(hk:jbV (jad (f+1) m) ⊆ jaB (jad (f+1)) l):∀ x∈jaD (jad (f+1) m),32≤x.size→x∈jaD (jad (f+1+1) l):=fun x hx h32=>by
 have eT:jaD (jad (f+1+1) l)=jaK (jaJ (jad (f+1)) l) :: jaF (jaB (jad (f+1)) l):=by
  show jaD (.mk (jaK (jaJ (jad (f+1)) l)) (jaB (jad (f+1)) l))=_;rw[jaD]
 rw[eT];have hst:=(good f m ho).2.1 hm
 by_cases hs:(jad (f+1) m).text.size < 32
 ·rw[jkf hst hs,List.mem_singleton]at hx
  subst hx;omega
 ·refine List.mem_cons_of_mem _ (jbA.2 ⟨jad (f+1) m,hk ?_,hx⟩)
  unfold jbV;rw[if_neg hs];exact List.mem_singleton.2 rfl
end
end Go.Proofs.YtcpnjmcipainpaaGreatDoor
