/- Parts of the proof, one behind the other: CanonJ, CanonK, CanonL, CanonM, CanonN, CanonO, CanonPb, CanonKt, CanonP, PairEq, CanonQ, ShaG, TextsA, MixF, Clash2. Each is under no condition but those that it states. -/
import Derived.Test.YtpaacnhboilkkaaGreatDoorPh22
import Derived.Test.YtpaacnhboilkkaaGreatDoorPh8
import Derived.Test.YtpaacnhboilkkaaGreatDoorPh20
import Derived.Test.YtpaacnhboilkkaaGreatDoorPh9
namespace Go.Proofs.YtpaacnhboilkkaaGreatDoor
set_option linter.unusedSimpArgs false
set_option linter.unusedVariables false
set_option maxRecDepth 100000
set_option maxHeartbeats 16000000
section
open Go Go.RowKit
def ksK(B:List Pair→PT)(l:List Pair)(k:Nat):List PT:=(List.range k).flatMap fun i=>if (cutL i l).length=0 then []else jbZ (B (jam 1 (cutL i l)))
theorem jha(B:List Pair→PT)(l:List Pair)(k:Nat):ksK B l (k+1)=ksK B l k++(if (cutL k l).length=0 then []else jbZ (B (jam 1 (cutL k l)))):=by
 unfold ksK;rw[List.range_succ,List.flatMap_append];simp
def jvA(w:World)(bn:Nat)(B:List Pair→PT)(l:List Pair)(rs:List ByteArray)(i:Value)(wr:World):Prop:=∃ k:Nat,k≤16∧i=.int .i64 k∧∃ u bs,jdI w wr w.heap.size bn ⟨#[]⟩ (ksK B l k) u bs∧bs.length≤k∧Blk wr bn (.cells (brN rs k).cells.toArray 144)
theorem jby{P:Program}{o:Oper}{a:Act}{w:World}{K:Act→World→Prop}{Q:Exit→Act→World→Prop}{f:FuncId}{args:Array Value}(hv:(execOp a.eval o).run P w=.ok (.enter f args) w)(h:Calls P f args w (fun e w2=>∃ v,e=.returned v∧K (a.put o.dst v) w2)):o.wp P a w K Q:=by
 unfold Oper.wp;rw[hv];exact h.mono fun e w2 ⟨v,he,hk⟩=>by subst he;exact hk
theorem Tryz.enterCut:∀ args w,(callFunc 119 args).run Tryz.prog w=.ok (.enter 119 args) w:=fun _ _=>by kernel_rfl
theorem Tryz.enterWithout:∀ args w,(callFunc 118 args).run Tryz.prog w=.ok (.enter 118 args) w:=fun _ _=>by kernel_rfl
theorem Tryz.enterHold:∀ args w,(callFunc 117 args).run Tryz.prog w=.ok (.enter 117 args) w:=fun _ _=>by kernel_rfl
theorem jj2(f:Nat)(l:List Pair)(h2:2≤l.length)(hln:l.length≤1000)(hok:jaQ (f+1) l)(hk:¬ 0 < comK l)(HB:∀ i,(cutL i l).length≠0→jhf (jam 1 (cutL i l)) (jad (f+1) (jam 1 (cutL i l)))):jhf l (jad (f+1+1) l):=by
 intro w v hc hv
 obtain⟨a,ha⟩:∃ a,l[0]?=some a:=⟨_,List.getElem?_eq_getElem (by omega)⟩
 obtain⟨z,hz⟩:∃ z,l[l.length - 1]?=some z:=⟨_,List.getElem?_eq_getElem (by omega)⟩
 have ga:l.getD 0 pd=a:=by rw[List.getD_eq_getElem?_getD,ha];rfl
 have gz:l.getD (l.length - 1) pd=z:=by rw[List.getD_eq_getElem?_getD,hz];rfl
 obtain⟨sa1,sa2,sa3,sa4,sa5⟩:=hok.size a (List.mem_of_getElem? ha)
 obtain⟨sz1,sz2,sz3,sz4,sz5⟩:=hok.size z (List.mem_of_getElem? hz)
 have hgood:=(good (f+1) l hok).1;have hrd:=hv;rcases hv with⟨_,_,_,h0⟩ |⟨b,o,c,rfl,hb,hcl,hcell⟩
 ·rw[h0]at h2;simp at h2
 obtain⟨q1,q1v⟩:=hcell 0 a ha
 rw[Nat.zero_mul,Nat.add_zero]at q1 q1v
 obtain⟨q2,_⟩:=hcell (l.length - 1) z hz
 obtain⟨kk,hkk⟩:∃ kk,kk=comK l:=⟨_,rfl⟩
 have hkc:kk=jap a.1 z.1:=by rw[hkk];unfold comK;rw[ga,gz]
 obtain⟨x,y⟩:=a
 obtain⟨xb,yb⟩:=z
 simp only at sa1 sa2 sa3 sa4 sa5 sz1 sz2 sz3 sz4 sz5 q1 q1v q2 hkc
 obtain⟨rs,hrs⟩:∃ rs,rs=(List.range 16).map fun i=>if (cutL i l).length=0 then (⟨#[]⟩:ByteArray)else refB (jad (f+1) (jam 1 (cutL i l))).text:=⟨_,rfl⟩
 obtain⟨val,hval⟩:∃ val,val=(if x.size=0 then y else (⟨#[]⟩:ByteArray)):=⟨_,rfl⟩
 have hn:jau (jad (f+1)) l=⟨3,⟨#[]⟩,val,rs⟩:=by unfold jau;rw[if_neg (by omega),if_neg (by omega),if_neg hk,ga,hrs,hval]
 rw[hn]at hgood;have ht:jad (f+1+1) l=.mk (ja5 ⟨3,⟨#[]⟩,val,rs⟩) (ksK (jad (f+1)) l 16):=by
  show PT.mk (ja5 (jau _ l)) (jaw _ l)=_;rw[hn];unfold jaw;rw[if_neg (by omega),if_neg hk];rfl
 obtain⟨T,hT⟩:∃ T,T=jad (f+1+1) l:=⟨_,rfl⟩
 rw[←hT]at ht ⊢;have hrl:rs.length=16:=by rw[hrs];simp
 have hri:∀ i,i < 16→rs[i]?=some (if (cutL i l).length=0 then (⟨#[]⟩:ByteArray)else refB (jad (f+1) (jam 1 (cutL i l))).text):=fun i hi=>by
  rw[hrs,List.getElem?_map,List.getElem?_range hi];rfl
 have hkid:∀ i,(cutL i l).length≠0→jtV (jad (f+1) (jam 1 (cutL i l))):=fun i hi =>
  (((good f _ (jei i hok)).2.1 (fun e=>by have:=jaE 1 (cutL i l);rw[e]at this;simp at this;omega)).kid)
 have hsz:∀ p∈l,p.1.size≤1000000:=fun p hp=>by have:=(hok.size p hp).2.1;omega
 have hcs:∀ i,∀ p∈cutL i l,1≤p.1.size∧p.1.size≤1000000:=fun i p hp=>by
  obtain⟨hm,a',r',e',_⟩:=jbH hp
  exact⟨by show 1≤p.1.data.toList.length;rw[show p.1.data.toList=a' :: r' from e'];simp,hsz p hm⟩
 have hcn:∀ i,(cutL i l).length≤1000:=fun i=>Nat.le_trans (List.length_filter_le _ _) hln;have c0:((l.length:Int) == 0)=false:=by simp;exact fun e=>by rw[e]at h2;simp at h2
 have c1:¬(l.length:Int)=0:=by omega
 have c2:((l.length:Int) == 1)=false:=by simp;omega
 have c3:¬(l.length:Int)=1:=by omega
 have c4:(0:Int)≤(l.length:Int) - 1:=by omega
 have c5:(l.length:Int) - 1 < (l.length:Int):=by omega
 have c6:((l.length:Int) - 1).toNat=l.length - 1:=by omega
 have c7:(0:Int) < (l.length:Int):=by omega
 have d7:0 < l.length:=by omega
 rw[←hkk]at hk;have d0:¬ 0 < kk:=hk;have e0:¬(0:Int) < (kk:Int):=by omega
 have HT:=Hd ht;have Q1:=Hd q1;have Q1V:=Hd q1v;have Q2:=Hd q2;have HKK:=Hd hkc;have HG:=Hd hgood;have HRD:=Hd hrd;have HSZ:=Hd hsz;have HCS:=Hd hcs;have HCN:=Hd hcn;have HKID:=Hd hkid;have HRI:=Hd hri;have HRL:=Hd hrl;have HVAL:=Hd hval;have HBB:=Hd HB;have HC:=Hd hc;clear hc ha hz ga gz hok hgood hrd hcell q1 q1v q2 hkk hkc hsz hcs hcn hkid hri hrl hval hrs hn ht hT HB sa3 sz3
 obtain⟨W1,hW1⟩:∃ W1,W1=w.alloc (.cells #[.string ⟨#[]⟩,.slice none 0 0] 160):=⟨_,rfl⟩
 go_enter Tryz.func69,Tryz.ntmps69;go_wp2_with (refine jaq Tryz.allocNode rfl rfl ?_;intro W3 hB3 hE3;refine jaj (vs:=jbb.cells) rfl rfl rfl rfl hB3 rfl Tryz.szNode (jaf.one _) ?_;intro W4 hB4 hE4;simp only[World.size_alloc]at hB4 hE4)
 have hE34:Ext W1 W4:=by
  rw[←hW1]at hE3;exact hE3.trans' hE4 (fun x hx e=>by have e:x=w.heap.size+1:=e;rw[hW1,World.size_alloc]at hx;omega)
 have hh:=jss w W1 W4 (w.heap.size+1) hW1 hE34 (by rw[hW1,World.size_alloc]) hB4.lt;have HH0:=Hd hh;have HB4:=Hd hB4;have HX:=Hd hh.row.ext;clear hE3 hE4 hB3 hW1 hB4 hE34 hh;refine jan [0,1,2,3,4,5,6,7,8,9,10,11,12,13] Ext ExtR ExtT (by kernel_rfl) (by kernel_rfl) (by kernel_rfl) ?_;iterate 3 (refine jag _ rfl (by kernel_rfl) rfl rfl (fun K hK=>?_);go_big_quiet_op;refine hK _ ?_;clear hK K)
 refine jal ⟨b,o,none⟩ _ rfl (by kernel_rfl) rfl rfl (fun w1 h1=>jab Tryz.uStr rfl (jaa (jaa (by exact Q1.o) (HX.o.trans (jak _))) h1)) ?_;simp only[Act.put,sA,sB,sC];iterate 6 (refine jag _ rfl (by kernel_rfl) rfl rfl (fun K hK=>?_);go_big_quiet_op;refine hK _ ?_;clear hK K)
 refine jal ⟨b,o+(l.length - 1) * 2,none⟩ _ rfl (by kernel_rfl) rfl rfl (fun w1 h1=>jab Tryz.uStr rfl (jaa (jaa (by exact Q2.o) (HX.o.trans (jak _))) h1)) ?_;simp only[Act.put,sA,sB,sC];refine jbi _ 116 #[.string x,.string xb] (.int .i64 (kk:Nat)) rfl (by kernel_rfl) rfl (fun w1=>jaA Tryz.enterCommon (by kernel_rfl)) (fun w1 h1=>by rw[HKK.o];exact (jfd w1 x xb (by omega) (by omega)).mono (fun e w2 ⟨h1,n,h2⟩=>⟨h1,by rw[h2];exact (ExtR w1).drewN n⟩)) ?_;simp only[Act.put,sA,sB,sC];iterate 2 (refine jag _ rfl (by kernel_rfl) rfl rfl (fun K hK=>?_);go_big_quiet_op;refine hK _ ?_;clear hK K)
 refine jaW (by kernel_rfl) (fun w5 he=>?_);have hX5:=(jak W4).trans he;have HH5:=Hd (HH0.o.ext hX5);have HB5:=Hd (HB4.o.keeps hX5 (fun h=>h));have HX:=Hd (HX.o.trans hX5);clear he hX5 HH0 HB4;have q0:=HB5.o.cell (i:=0) (v:=.int .i64 0) (by rfl);have f0:w5.frozen? ⟨w.heap.size+1,0,none⟩=false:=HB5.o.frozen;have K6:=jac.oneSet w5 ⟨w.heap.size+1,0,none⟩ (.int .i64 3);have HH6:=Hd (HH5.o.other K6);have HB6:Hid (Blk (w5.setCell ⟨w.heap.size+1,0,none⟩ (.int .i64 3)) (w.heap.size+1) (.cells (brN rs 0).cells.toArray 144)):=Hd (HB5.o.set_same (i:=0) (.int .i64 3));clear K6 HB5 HH5 HX;go_wp2_with fail
 go_loopw [11] (fun i wr=>jvA w (w.heap.size+1) (jad (f+1)) l rs i wr) (fun i _=>16 - (intOf i).toNat)
 case atStart=>exact⟨0,by omega,rfl,_,[],HH6.o,by simp,HB6.o⟩
 case round =>
  obtain⟨k,hk16,rfl,u,bs,hH,hbs,hB⟩:=hrel
  obtain⟨au,cu,hu⟩:=hH.row.sl
  subst hu;have HH:=Hd hH;have HB:=Hd hB;have HX:=Hd hH.row.ext;clear hH hB
  by_cases hlt:k < 16
  ·have b1:(k:Int) < 16:=by omega
   have hwb:=HH.o.ml;have QI:=Hd (show (wr.alloc (.cells #[.int .i64 (k:Int)] 3)).cell? ⟨wr.heap.size,0,none⟩=some (.int .i64 (k:Int))from(Blk.new wr _).cell (by rfl));have hno:=ju0 HH.o.row;have hwp:w.heap.size < wr.heap.size:=HH.o.blk.lt;have NF:=Hd (show ¬(wr.heap.size=w.heap.size∨wr.heap.size=w.heap.size+1∨(Value.slice au bs.length cu).ownBlock=some wr.heap.size)from fun h=>by
    rcases h with h | h | h
    ·omega
    ·omega
    ·exact hno h)
   clear hno;go_wp2_with fail
   refine ja1 [0,1,2,3,7,4,5,6,8,9] [4,5,6,9] Ext (jac (fun x=>x=w.heap.size∨x=w.heap.size+1∨(Value.slice au bs.length cu).ownBlock=some x)) ExtR ExtT (fun x y z h k=>jac.trans h k) (fun x y h=>h.mono (fun _ _ h=>h.elim)) (by kernel_rfl) (by kernel_rfl) (by kernel_rfl) ?_;refine jaX ⟨wr.heap.size,0,none⟩ _ rfl (by kernel_rfl) rfl rfl (fun w2 h2=>jab Tryz.uInt rfl (jat (by exact QI.o) h2 (by exact NF.o))) ?_;simp only[Act.put,sA,sB,sC];iterate 4 (refine jai _ rfl (by kernel_rfl) rfl rfl (fun K hK=>?_);go_big_quiet_op;refine hK _ ?_;clear hK K)
   refine jaY _ rfl (by kernel_rfl) rfl (fun w1 he K hK=>?_);have hX1:=(((ExtR wr).alloc (.cells #[.int .i64 (k:Int)] 3)).trans (jak _)).trans he;have hI1:=jaa (jaa QI.o (jak _)) he;refine jby (jaA Tryz.enterCut (by kernel_rfl)) ((jwe w1 _ wr.heap.size k l (HRD.o.ext (HX.o.trans hX1)) (by omega) HSZ.o (by omega) hI1).mono ?_);rintro e w2 ⟨v2,n2,rfl,hr2⟩;have HR2:=Hd hr2.rd;have HX2:=Hd (hX1.trans hr2.ext)
   refine⟨_,rfl,hK _ _ (hr2.ext.mono (fun _ _ h=>h.elim)) ?_⟩
   obtain⟨a2,c2,hv2⟩:=hr2.rd.sl
   subst hv2;clear hK K he hX1 hI1 hr2;simp only[Act.put,sA,sB,sC];refine jaY _ rfl (by kernel_rfl) rfl (fun w3 he K hK=>?_);refine jby (jaA Tryz.enterWithout (by kernel_rfl)) ((jle w3 _ 1 (cutL k l) (HR2.o.ext he) (by have:=HCN.o k;omega) (HCS.o k)).mono ?_);rintro e w4 ⟨v4,rfl,hr4⟩;have HR4:=Hd hr4.rd;have HX4:=Hd ((HX2.o.trans he).trans hr4.ext)
   refine⟨_,rfl,hK _ _ (hr4.ext.mono (fun _ _ h=>h.elim)) ?_⟩
   obtain⟨a4,c4',hv4⟩:=hr4.rd.sl
   subst hv4;clear hK K he hr4 HR2 HX2;simp only[Act.put,sA,sB,sC];refine jaY _ rfl (by kernel_rfl) rfl (fun w5' he K hK=>?_);have HX5:=Hd (HX4.o.trans he);have HR5:=Hd (HR4.o.ext he);have HH5:=Hd (HH.o.ext HX5.o);have hC5:=HC.o.ext (HX.o.trans HX5.o)
   obtain⟨rk,hrk⟩:∃ rk,rk=(if (cutL k l).length=0 then (⟨#[]⟩:ByteArray)else refB (jad (f+1) (jam 1 (cutL k l))).text):=⟨_,rfl⟩
   refine jby (f:=117) (args:=#[ptrV w.heap.size,.slice a4 (jam 1 (cutL k l)).length c4']) (jaA Tryz.enterHold (by kernel_rfl)) ((show Calls _ _ _ _ (fun e w'=>∃ u' bs',e=.returned (.string rk)∧jdI w w' w.heap.size (w.heap.size+1) ⟨#[]⟩ (ksK (jad (f+1)) l (k+1)) u' bs'∧bs'.length≤bs.length+1∧Ext w w'∧jac (fun x=>x=w.heap.size∨(Value.slice au bs.length cu).ownBlock=some x) w5' w')from ?hold).mono ?_)
   case hold =>
    rw[jha]
    by_cases hc0:(cutL k l).length=0
    ·rw[hrk,if_pos hc0,if_pos hc0,List.append_nil,jaE,hc0]
     refine (jsu w5' w.heap.size a4 c4').mono ?_;rintro e w6 ⟨rfl,rfl⟩
     exact⟨_,bs,rfl,HH5.o,by omega,HH5.o.row.ext,jac.refl _ _⟩
    ·rw[hrk,if_neg hc0,if_neg hc0]
     exact jtH hC5 HH5.o (by omega) _ (jam 1 (cutL k l)) HR5.o (fun e=>hc0 (by have:=jaE 1 (cutL k l);rw[e]at this;simpa using this.symm)) (by rw[jaE];have:=HCN.o k;omega) _ (HKID.o k hc0) (HBB.o k hc0 w5' _ hC5 HR5.o)
   rintro e w6 ⟨u6,bs6,rfl,h6,hb6,hE6,hk6⟩
   refine⟨_,rfl,hK _ _ (hk6.mono (fun x _ h=>h.elim .inl (fun h=>.inr (.inr h)))) ?_⟩
   have hB6:=(HB.o.keeps HX5.o (fun h=>h)).keeps hk6 (fun h=>by
    rcases h with h | h
    ·omega
    ·exact HH.o.mb h)
   have HB6:=Hd hB6;have HH6:=Hd h6;have HRK:=Hd ((HRI.o k hlt).trans (by rw[←hrk]));clear hK K he h6 hE6 hk6 hB6 hC5 hrk HR4 HR5 HH5;simp only[Act.put,sA,sB,sC]
   (refine jai _ rfl (by kernel_rfl) rfl rfl (fun K hK=>?_);go_big_quiet_op;refine hK _ ?_;clear hK K)
   refine jaY _ rfl (by kernel_rfl) rfl (fun w7 he K hK=>?_);have hB7:=HB6.o.keeps he (fun h=>h)
   obtain⟨old,q7⟩:∃ v,w7.cell? ⟨w.heap.size+1,3+k,none⟩=some v:=⟨_,hB7.cellL (List.getElem?_eq_getElem (by rw[jaf.cells_len _ (jpf HRL.o hk16)];omega))⟩
   have f7:w7.frozen? ⟨w.heap.size+1,3+k,none⟩=false:=hB7.frozen;have hB8:=hB7.set_same (i:=3+k) (.string rk);rw[show (brN rs k).cells.toArray.setIfInBounds (3+k) (.string rk)=((brN rs k).cells.set (3+k) (.string rk)).toArray by simp,jpg HRL.o hlt rk HRK.o]at hB8;have HB8:=Hd hB8;have K8:=jac.oneSet w7 ⟨w.heap.size+1,3+k,none⟩ (.string rk);have HH8:=Hd ((HH6.o.ext he).other K8);have HD8:=Hd (K8.mono (G:=fun x=>x=w.heap.size∨x=w.heap.size+1∨(Value.slice au bs.length cu).ownBlock=some x) (fun x _ e=>.inr (.inl e)));clear he hB7 hB8 K8 HB6 HH6;go_simp;refine hK _ _ HD8.o ?_;clear hK K q7 f7;refine jcd (by kernel_rfl) (fun w9 he=>?_);have HH9:=Hd (HH8.o.ext he);have HB9:=Hd (HB8.o.keeps he (fun h=>h));clear he HH8 HB8 HD8;go_wp2_with fail
   go_roundw
   case rel=>exact⟨k+1,by omega,by go_num,u6,bs6,HH9.o,by omega,HB9.o⟩
   case measure=>simp[intOf];omega
  ·have hk16':k=16:=by omega
   subst hk16';have e16:brN rs 16=⟨3,⟨#[]⟩,⟨#[]⟩,rs⟩:=by unfold brN jax;rw[List.take_of_length_le (by have:=HRL.o;omega)];simp
   have hB:=HB.o;rw[e16]at hB;have q1:=jaa Q1.o HX.o
   by_cases hx0:x.size=0
   ·have hxe:=jbF hx0
    have hv:val=y:=by rw[HVAL.o,if_pos hx0]
    have q1v:=jaa Q1V.o HX.o;subst hxe;have q2:wr.cell? ⟨w.heap.size+1,2,none⟩=some (.string ⟨#[]⟩):=hB.cellL (by rfl);have f2:wr.frozen? ⟨w.heap.size+1,2,none⟩=false:=hB.frozen;have hB2:=hB.set_same (i:=2) (.string y);rw[show (jaf.cells ⟨3,⟨#[]⟩,⟨#[]⟩,rs⟩).toArray.setIfInBounds 2 (.string y)=(jaf.cells ⟨3,⟨#[]⟩,y,rs⟩).toArray by simp[jaf.cells]]at hB2;have HB11:=Hd (show Blk (wr.setCell ⟨w.heap.size+1,2,none⟩ (.string y)) (w.heap.size+1) (.cells (jaf.cells ⟨3,⟨#[]⟩,val,rs⟩).toArray 144)from by rw[hv];exact hB2);have HH:=Hd (HH.o.other (jac.oneSet wr ⟨w.heap.size+1,2,none⟩ (.string y)));have HV:=Hd hv;clear hB hB2 e16 hv;go_wp2_with (refine jae 144 (.tmp 4) rfl rfl _ _ rfl (jaz _ _ ⟨3,⟨#[]⟩,val,rs⟩ HRL.o HB11.o) ?_)
    refine (jiC (inlP _) _ ⟨3,⟨#[]⟩,val,rs⟩ HG.o).mono ?_;rintro e w9 ⟨rfl,hE⟩;have h9:=HH.o.ext hE;have q0:w9.cell? ⟨w.heap.size,0,none⟩=some (.string ⟨#[]⟩):=h9.blk.cell (i:=0) (by rfl);have f0:w9.frozen? ⟨w.heap.size,0,none⟩=false:=h9.blk.frozen;have H9:=Hd (h9.setText (ja5 ⟨3,⟨#[]⟩,val,rs⟩))
    obtain⟨tx,htx⟩:∃ tx,tx=ja5 ⟨3,⟨#[]⟩,val,rs⟩:=⟨_,rfl⟩
    rw[←htx]at H9 ⊢;have HTX:=Hd htx;clear h9 hE htx;go_wp2_with fail
    go_ret
    exact⟨w.heap.size,rfl,by rw[HT.o, ←HTX.o];exact H9.o.part,H9.o.row.ext⟩
   ·have hne:=jbn (s:=x) (by omega)
    have hv:val=⟨#[]⟩:=by rw[HVAL.o,if_neg hx0]
    rw[←hv]at hB;have HB11:=Hd (show Blk wr (w.heap.size+1) (.cells (jaf.cells ⟨3,⟨#[]⟩,val,rs⟩).toArray 144)from by rw[hv]at hB ⊢;exact hB);have HV:=Hd hv;clear hB e16 hv;go_wp2_with (refine jae 144 (.tmp 4) rfl rfl _ _ rfl (jaz _ _ ⟨3,⟨#[]⟩,val,rs⟩ HRL.o HB11.o) ?_)
    refine (jiC (inlP _) _ ⟨3,⟨#[]⟩,val,rs⟩ HG.o).mono ?_;rintro e w9 ⟨rfl,hE⟩;have h9:=HH.o.ext hE;have q0:w9.cell? ⟨w.heap.size,0,none⟩=some (.string ⟨#[]⟩):=h9.blk.cell (i:=0) (by rfl);have f0:w9.frozen? ⟨w.heap.size,0,none⟩=false:=h9.blk.frozen;have H9:=Hd (h9.setText (ja5 ⟨3,⟨#[]⟩,val,rs⟩))
    obtain⟨tx,htx⟩:∃ tx,tx=ja5 ⟨3,⟨#[]⟩,val,rs⟩:=⟨_,rfl⟩
    rw[←htx]at H9 ⊢;have HTX:=Hd htx;clear h9 hE htx;go_wp2_with fail
    go_ret
    exact⟨w.heap.size,rfl,by rw[HT.o, ←HTX.o];exact H9.o.part,H9.o.row.ext⟩
theorem ji1:∀ (f:Nat) (l:List Pair),jaQ f l→l.length≤1000→jhf l (jad (f+1) l)
 | f,l,hok,hln=>by
  by_cases h0:l.length=0
  ·exact jnI f l h0
  by_cases h1:l.length=1
  ·exact jpi f l h1 hok
  have h2:2≤l.length:=by omega
  cases f with
  | zero =>
   exfalso
   obtain⟨a,ha⟩:∃ a,l[0]?=some a:=⟨_,List.getElem?_eq_getElem (by omega)⟩
   obtain⟨b,hb⟩:∃ b,l[1]?=some b:=⟨_,List.getElem?_eq_getElem (by omega)⟩
   have hlt:=jct hok.rise (by omega) ha hb
   have:=(hok.size b (List.mem_of_getElem? hb)).1
   rw[show b.l=[]from List.eq_nil_of_length_eq_zero (by show b.1.size=0;omega)]at hlt;exact not_lt_nil _ hlt
  | succ f =>
   by_cases hk:0 < comK l
   ·exact jph f l h2 hln hok hk (ji1 f _ ((jcF (comK l) hok (fun p hp q hq=>((jbY hok h2 p hp).1).trans (jbY hok h2 q hq).1.symm) (fun p hp=>(jbY hok h2 p hp).2)).mono (by omega)) (by rw[jaE];exact hln))
   ·exact jj2 f l h2 hln hok hk (fun i _=>ji1 f _ (jei i hok) (by rw[jaE];exact Nat.le_trans (List.length_filter_le _ _) hln))
theorem jkH(b:UInt8):(b >>> 4).toNat=b.toNat / 16:=by
 have:∀ c:Fin 256,(UInt8.ofNat c.1 >>> 4).toNat=c.1 / 16:=by decide
 have h:=this ⟨b.toNat,b.toNat_lt⟩;simpa using h
theorem jkI(b:UInt8):(b &&& 15).toNat=b.toNat % 16:=by
 have:∀ c:Fin 256,(UInt8.ofNat c.1 &&& 15).toNat=c.1 % 16:=by decide
 have h:=this ⟨b.toNat,b.toNat_lt⟩;simpa using h
theorem jjg:∀ (a b:List UInt8),Lt a b→Lt (jc1 a) (jc1 b)
 | a,[],h=>absurd h (not_lt_nil _)
 | [],y :: b,_=>rfl
 | x :: a,y :: b,h=>by
  show Lt ((x >>> 4) ::(x &&& 15) :: jc1 a) ((y >>> 4) ::(y &&& 15) :: jc1 b);have hx:=jkH x;have hy:=jkH y;have lx:=jkI x;have ly:=jkI y;rcases jbg.1 h with h |⟨he,h2⟩
  ·have h:=UInt8.lt_iff_toNat_lt.1 h
   by_cases hh:x.toNat / 16 < y.toNat / 16
   ·exact jbg.2 (.inl (UInt8.lt_iff_toNat_lt.2 (by omega)))
   ·refine jbg.2 (.inr ⟨UInt8.toNat_inj.1 (by omega),jbg.2 (.inl (UInt8.lt_iff_toNat_lt.2 (by omega)))⟩)
  ·subst he;exact jbg.2 (.inr ⟨rfl,jbg.2 (.inr ⟨rfl,jjg a b h2⟩)⟩)
theorem jed(s:ByteArray):jaL (jbc s)=true:=by
 unfold jaL jbc;rw[List.all_eq_true];intro x hx;have hx:x∈jc1 s.data.toList:=hx;unfold jc1 at hx
 obtain⟨b,_,hb⟩:=List.mem_flatMap.1 hx
 have h1:=jkH b;have h2:=jkI b;have h3:=b.toNat_lt;have h15:(15:UInt8).toNat=15:=rfl;refine decide_eq_true (UInt8.le_iff_toNat_le.2 ?_);rcases List.mem_cons.1 hb with rfl | hb
 ·omega
 ·rw[List.mem_singleton.1 hb];omega
theorem jb9(s:ByteArray):(jbc s).size=2 * s.size:=by
 show (jc1 s.data.toList).length=2 * s.data.toList.length;unfold jc1;induction s.data.toList with
 | nil=>rfl
 | cons x r ih=>rw[List.flatMap_cons,List.length_append,ih,List.length_cons,List.length_cons,List.length_cons,List.length_nil];omega
structure jry(l:List Pair):Prop where
 size:∀ p∈l,0 < p.1.size∧p.1.size≤6∧0 < p.2.size∧p.2.size≤80
 rise:l.Pairwise fun p q=>Lt p.l q.l
 len:l.length≤40
theorem jdl:∀ (a b c:List UInt8),Lt a b→Lt b c→Lt a c
 | a,b,[],_,h=>absurd h (not_lt_nil _)
 | a,[],z :: c,h,_=>absurd h (not_lt_nil _)
 | [],y :: b,z :: c,_,_=>rfl
 | x :: a,y :: b,z :: c,h1,h2=>by
  rcases jbg.1 h1 with h |⟨rfl,h⟩
  ·rcases jbg.1 h2 with h' |⟨rfl,h'⟩
   ·exact jbg.2 (.inl (UInt8.lt_trans h h'))
   ·exact jbg.2 (.inl h)
  ·rcases jbg.1 h2 with h' |⟨rfl,h'⟩
   ·exact jbg.2 (.inl h')
   ·exact jbg.2 (.inr ⟨rfl,jdl a b c h h'⟩)
theorem jaM{l:List Pair}(h:jaS l=0):jry l:=by
 unfold jaS at h;split at h
 ·cases h
 rename_i hb
 split at h
 ·cases h
 rename_i hl
 have hbad:∀ i,i < l.length→badN l i=false:=fun i hi=>by
  cases hbi:badN l i with
  | false=>rfl
  | true=>exact absurd (List.any_eq_true.2 ⟨i,List.mem_range.2 hi,hbi⟩) hb
 refine⟨fun p hp=>?_,?_,by omega⟩
 ·obtain⟨i,hi⟩:=List.getElem?_of_mem hp
  have h1:=hbad i (List.getElem?_eq_some_iff.1 hi).1;have hg:l.getD i (⟨#[]⟩,⟨#[]⟩)=p:=by rw[List.getD_eq_getElem?_getD,hi];rfl
  unfold badN at h1;rw[hg]at h1;simp only[Bool.or_eq_false_iff,Bool.not_eq_false']at h1;have h2:=h1.1.1;have h3:=h1.1.2;unfold jdV at h2;unfold jdt at h3;simp only[decide_eq_true_eq]at h2 h3
  exact⟨h2.1,h2.2,h3.1,h3.2⟩
 ·have step:∀ i,i+1 < l.length→Lt (l.getD i pd).l (l.getD (i+1) pd).l:=fun i hi=>by
   have h1:=hbad (i+1) hi;unfold badN at h1;simp only[Bool.or_eq_false_iff,Bool.and_eq_false_iff,Bool.not_eq_false']at h1;rcases h1.2 with h2 | h2
   ·simp at h2
   ·rw[Nat.add_sub_cancel]at h2
    have:Op.bytesLess (l.getD i pd).1.toList (l.getD (i+1) pd).1.toList=true:=h2
    rw[ByteArray.toList_eq,ByteArray.toList_eq]at this;exact this
  rw[List.pairwise_iff_getElem];intro i j hi hj hij;have e:∀ k (hk:k < l.length),l.getD k pd=l[k]:=fun k hk=>by rw[List.getD_eq_getElem?_getD,List.getElem?_eq_getElem hk];rfl
  have key:∀ d,∀ i,i+d+1 < l.length→Lt (l.getD i pd).l (l.getD (i+d+1) pd).l:=by
   intro d;induction d with
   | zero=>exact fun i hi=>step i hi
   | succ d ih=>exact fun i hi=>jdl _ _ _ (ih i (by omega)) (step (i+d+1) hi)
  have:=key (j - i - 1) i (by omega)
  rw[show i+(j - i - 1)+1=j by omega,e i hi,e j hj]at this;exact this
theorem jbR{l:List Pair}(h:jry l):jaQ 12 (jaP l):=by
 refine⟨fun p hp=>?_,?_⟩
 ·obtain⟨q,hq,rfl⟩:=List.mem_map.1 hp
  obtain⟨h1,h2,h3,h4⟩:=h.size q hq
  have hs:=jb9 q.1
  exact⟨by show (jbc q.1).size≤_;omega,by show (jbc q.1).size≤_;omega,jed _,h3,h4⟩
 ·unfold jaP
  rw[List.pairwise_map];exact h.rise.imp fun {p q} h=>jjg _ _ h
def jaT(l:List Pair):PT:=jad 13 (jaP l)
end
section
open Go Go.RowKit
attribute [local go_sem] Oper.semAt_some
inductive AT where
 | mk (b:Nat) (text:ByteArray) (v:Value) (kids:List AT)
def AT.root:AT→Nat | .mk b _ _ _=>b
mutual
def AtIs(A:Nat→Prop):AT→World→Prop
 | .mk b t v ks,W=>A b∧Blk W b (.cells #[.string t,v] 160)∧RdQ A W v (ks.map AT.root)∧jem A ks W
def jem(A:Nat→Prop):List AT→World→Prop
 | [],_=>True
 | k :: ks,W=>AtIs A k W∧jem A ks W
end
mutual
def AT.pt:AT→PT
 | .mk _ t _ ks=>.mk t (AT.pts ks)
def AT.pts:List AT→List PT
 | []=>[]
 | k :: ks=>AT.pt k :: AT.pts ks
end
mutual
def jaI:PT→List ByteArray
 | .mk t ks=>t :: jaK ks
def jaK:List PT→List ByteArray
 | []=>[]
 | k :: ks=>jaI k++jaK ks
end
mutual
theorem jwa{A:Nat→Prop}{W:World}:∀ (T:PT) (b:Nat),jbM A T b W→∃ a:AT,a.root=b∧a.pt=T∧AtIs A a W
 | .mk t ks,b,h=>by
  unfold jbM at h
  obtain⟨h1,v,bs,h2,h3,h4⟩:=h
  obtain⟨al,e1,e2,e3⟩:=jty ks bs h4
  exact⟨.mk b t v al,rfl,by unfold AT.pt;rw[e2],by unfold AtIs;exact⟨h1,h2,by rw[e1];exact h3,e3⟩⟩
theorem jty{A:Nat→Prop}{W:World}:∀ (ks:List PT) (bs:List Nat),jaU A ks bs W→∃ al:List AT,al.map AT.root=bs∧AT.pts al=ks∧jem A al W
 | [],bs,h=>by
  unfold jaU at h;subst h
  exact⟨[],rfl,by unfold AT.pts;rfl,by unfold jem;trivial⟩
 | x :: ks,bs,h=>by
  unfold jaU at h
  obtain⟨b,r,rfl,h2,h3⟩:=h
  obtain⟨a,e1,e2,e3⟩:=jwa x b h2
  obtain⟨al,e4,e5,e6⟩:=jty ks r h3
  exact⟨a :: al,by rw[List.map_cons,e1,e4],by unfold AT.pts;rw[e2,e5],by unfold jem;exact⟨e3,e6⟩⟩
end
mutual
theorem AtIs.keeps{A:Nat→Prop}{F:BSet}{W W':World}(k:jac F W W')(hF:∀ x,A x→¬ F x):∀ (a:AT),AtIs A a W→AtIs A a W'
 | .mk b t v ks,h=>by
  unfold AtIs at *
  obtain⟨h1,h2,h3,h4⟩:=h
  exact⟨h1,h2.keeps k (hF b h1),h3.keeps k hF,jem.keeps k hF ks h4⟩
theorem jem.keeps{A:Nat→Prop}{F:BSet}{W W':World}(k:jac F W W')(hF:∀ x,A x→¬ F x):∀ (ks:List AT),jem A ks W→jem A ks W'
 | [],_=>by unfold jem;trivial
 | x :: ks,h=>by
  unfold jem at *
  exact⟨AtIs.keeps k hF x h.1,jem.keeps k hF ks h.2⟩
end
theorem jem.get{A:Nat→Prop}{W:World}:∀ (ks:List AT) (j:Nat) (a:AT),jem A ks W→ks[j]?=some a→AtIs A a W
 | [],j,a,_,h=>by simp at h
 | x :: ks,0,a,h,hj=>by simp at hj;subst hj;unfold jem at h;exact h.1
 | x :: ks,j+1,a,h,hj=>by unfold jem at h;exact jem.get ks j a h.2 (by simpa using hj)
theorem jkm:∀ (ks:List AT) (j:Nat) (a:AT),ks[j]?=some a→jaK (AT.pts (ks.take (j+1)))=jaK (AT.pts (ks.take j))++jaI a.pt
 | [],j,a,h=>by simp at h
 | x :: ks,0,a,h=>by
  simp at h;subst h;simp[AT.pts,jaK]
 | x :: ks,j+1,a,h=>by
  have:=jkm ks j a (by simpa using h)
  simp only[List.take_succ_cons,AT.pts,jaK,this,List.append_assoc]
theorem jmA:∀ (ks:List AT) (j:Nat),∃ r,jaK (AT.pts ks)=jaK (AT.pts (ks.take j))++r
 | ks,0=>⟨jaK (AT.pts ks),by simp[AT.pts,jaK]⟩
 | [],j+1=>⟨[],by simp[AT.pts,jaK]⟩
 | x :: ks,j+1=>by
  obtain⟨r,h⟩:=jmA ks j
  exact⟨r,by simp only[List.take_succ_cons,AT.pts,jaK,h,List.append_assoc]⟩
def jdZ(L m:List ByteArray)(p:Nat):Prop:=∀ j x,m[j]?=some x→L[p+j]?=some x
theorem jdZ.left{L m n:List ByteArray}{p:Nat}(h:jdZ L (m++n) p):jdZ L m p:=fun j x hx=>h j x (by rw[List.getElem?_append_left (List.getElem?_eq_some_iff.1 hx).1];exact hx)
theorem jdZ.right{L m n:List ByteArray}{p:Nat}(h:jdZ L (m++n) p):jdZ L n (p+m.length):=fun j x hx=>by
 have:=h (m.length+j) x (by rw[List.getElem?_append_right (by omega),Nat.add_sub_cancel_left];exact hx)
 rw[Nat.add_assoc];exact this
theorem jdZ.le{L m:List ByteArray}{p:Nat}(h:jdZ L m p)(hm:m≠[]):p+m.length≤L.length:=by
 have hl:0 < m.length:=List.length_pos_iff.2 hm
 have:=h (m.length - 1) _ (List.getElem?_eq_getElem (by omega))
 have:=(List.getElem?_eq_some_iff.1 this).1
 omega
theorem jsl(T:PT):1≤(jaI T).length:=by cases T;unfold jaI;simp
theorem jmy:∀ (ks:List AT),ks.length≤(jaK (AT.pts ks)).length
 | []=>by simp
 | x :: ks=>by
  have:=jmy ks
  have:=jsl x.pt
  simp only[AT.pts,jaK,List.length_append,List.length_cons];omega
def jiV(C Cx:Nat→World→Prop)(n N:Nat)(e:Ending)(W':World):Prop:=(e=.returned (.bool true)∧C n W')∨(e=.returned (.bool false)∧∃ q,0 < q∧q≤N∧Cx q W')
def jt6(C:Nat→World→Prop)(p:Nat)(ks:List AT)(v:Value)(wr:World):Prop:=∃ j:Nat,j≤ks.length∧v=.int .i64 j∧C (p+1+(jaK (AT.pts (ks.take j))).length) wr
theorem jrp(A:Nat→Prop)(l:Nat)(C Cx:Nat→World→Prop)(hC:∀ k,St (C k))(L:List ByteArray)(hLn:L.length≤1000000)
  (hY:∀ j W',j < L.length→C j W'→joL Tryz.prog l #[.string (L.getD j ⟨#[]⟩)] W' (C (j+1)) (Cx (j+1)))
  (b:Nat) (t:ByteArray) (v:Value) (ks:List AT)
  (IHk:∀ a∈ks,∀ (p:Nat) (W:World),jdZ L (jaI a.pt) p→(∀ j W',C j W'→AtIs A a W')→C p W →
   CallsIn Fence.wide 0 Tryz.prog 123 #[ptrV a.root,.func (.yield l) #[] #[]] W (jiV C Cx (p+(jaI a.pt).length) L.length))
  (p:Nat) (W:World) (hL:jdZ L (jaI (AT.mk b t v ks).pt) p) (hS:∀ j W',C j W'→AtIs A (.mk b t v ks) W') (h0:C p W) :
   CallsIn Fence.wide 0 Tryz.prog 123 #[ptrV b,.func (.yield l) #[] #[]] W (jiV C Cx (p+(jaI (AT.mk b t v ks).pt).length) L.length):=by
  have e1:jaI (AT.pt (.mk b t v ks))=t :: jaK (AT.pts ks):=by unfold AT.pt jaI;rfl
  rw[e1]at hL ⊢;have hp:p < L.length:=by have:=hL 0 t rfl;exact (List.getElem?_eq_some_iff.1 this).1
  have hg:L.getD p ⟨#[]⟩=t:=by rw[List.getD_eq_getElem?_getD];have:=hL 0 t rfl;rw[Nat.add_zero]at this;rw[this];rfl
  have hS':∀ j W',C j W'→Blk W' b (.cells #[.string t,v] 160)∧RdQ A W' v (ks.map AT.root)∧jem A ks W':=fun j W' h=>by
   have:=hS j W' h;unfold AtIs at this;exact this.2
  obtain⟨fn,tm,asg,bd,hyr,hrd⟩:=hY p W hp h0
  rw[hg]at hyr;have q0:=(hS' p W h0).1.cell (i:=0) (v:=.string t) (by rfl)
  obtain⟨av,cv,hv⟩:=(hS' p W h0).2.1.sl
  rw[List.length_map]at hv;subst hv;have hkl:ks.length≤1000000:=by
   have h1:=jmy ks;have h2:=hL.le (by simp);simp only[List.length_cons]at h2;omega
  have HRD:=Hd hrd;have HS:=Hd hS';have HY:=Hd hY;have HC:=Hd hC;have HIK:=Hd IHk;have HL:=Hd hL;clear hS' hS hrd hg h0 e1 hL hY hC IHk;unfold ptrV;refine callsIn_of_wp Tryz.func123 rfl trivial ?_ rfl;simp only[Tryz.ntmps123,List.size_toArray,List.length_cons,List.length_nil,Nat.reduceAdd,Nat.reduceSub,Array.replicate_succ,Array.replicate_zero,List.push_toArray,List.append_toArray,List.nil_append,List.cons_append];gi_wp2_with fail
  refine⟨rfl,HRD.o.mono ?_⟩
  rintro e w5 (⟨rfl,C5⟩ |⟨rfl,C5⟩)
  ·have q1:=(HS.o _ _ C5).1.cell (i:=1) (v:=.slice av ks.length cv) (by rfl)
   have HC5:=Hd C5;clear C5 q0 hyr;gi_wp2_with fail
   gi_loopw [19] (fun v wr=>jt6 C p ks v wr) (fun v _=>ks.length - (intOf v).toNat)
   case atStart=>exact⟨0,by omega,rfl,by simpa [AT.pts,jaK]using HC5.o⟩
   case round =>
    obtain⟨j,hj,rfl,hCj⟩:=hrel
    by_cases hlt:j < ks.length
    ·obtain⟨hb1,hq1,ha1⟩:=HS.o _ _ hCj
     obtain⟨a,ha⟩:∃ a,ks[j]?=some a:=⟨_,List.getElem?_eq_getElem hlt⟩
     have hmem:a∈ks:=List.mem_of_getElem? ha;have hft:=jkm ks j a ha
     obtain⟨rest,hpre⟩:=jmA ks (j+1)
     have hbeg:jdZ L (jaI a.pt) (p+1+(jaK (AT.pts (ks.take j))).length):=by
      have h1:jdZ L ([t]++(jaK (AT.pts (ks.take j))++(jaI a.pt++rest))) p:=by
       have:=HL.o
       rw[hpre,hft,List.append_assoc]at this;exact this
      exact (h1.right.right).left
     rcases hq1 with⟨_,h0⟩ |⟨g,c,hh,_,_,_,_,hcell⟩
     ·rw[List.map_eq_nil_iff]at h0;rw[h0]at hlt;cases hlt
     obtain⟨rfl,hx1,hx2⟩:=Value.slice.inj hh
     clear hx1 hx2;have qj:wr.cell? ⟨g,j,none⟩=some (ptrV a.root):=hcell j a.root (by rw[List.getElem?_map,ha];rfl)
     obtain⟨ar,har⟩:∃ ar,ar=a.root:=⟨_,rfl⟩
     rw[←har]at qj;have b1:(j:Int) < (ks.length:Int):=by omega
     have ih:=HIK.o a hmem _ wr hbeg (fun j' W' h=>jem.get ks j a (HS.o j' W' h).2.2 ha) hCj;rw[←har]at ih;have IH:=Hd ih;have HFT:=Hd hft;unfold ptrV at qj;clear hb1 ha1 hcell hh hpre hbeg ih hft hCj ha har q1 hmem HC5;gi_wp2_with fail
     refine⟨trivial,rfl,IH.o.mono ?_⟩
     rintro e w6 (⟨rfl,C6⟩ |⟨rfl,q',hq1,hq2,C6⟩)
     ·have HC6:=Hd C6
      clear C6;gi_wp2_with fail
      go_roundw
      case rel=>exact⟨j+1,by omega,by go_num,by rw[HFT.o,List.length_append, ←Nat.add_assoc];exact HC6.o⟩
      case measure=>simp[intOf];omega
     ·have HC6:=Hd C6
      clear C6;gi_wp2_with fail
      go_ret;exact .inr ⟨rfl,q',hq1,hq2,HC6.o⟩
    ·have hjk:j=ks.length:=by omega
     subst hjk;rw[List.take_length]at hCj;have HC6:=Hd hCj;clear hCj;gi_wp2_with fail
     go_ret;exact .inl ⟨rfl,by rw[show p+((jaK (AT.pts ks)).length+1)=p+1+(jaK (AT.pts ks)).length by omega];exact HC6.o⟩
  ·have HC5:=Hd C5
   clear C5 q0 hyr;gi_wp2_with fail
   go_ret;exact .inr ⟨rfl,p+1,by omega,by omega,HC5.o⟩
theorem jro(A:Nat→Prop)(l:Nat)(C Cx:Nat→World→Prop)(hC:∀ k,St (C k))(L:List ByteArray)(hLn:L.length≤1000000)
  (hY:∀ j W',j < L.length→C j W'→joL Tryz.prog l #[.string (L.getD j ⟨#[]⟩)] W' (C (j+1)) (Cx (j+1))) :
  ∀ (a:AT) (p:Nat) (W:World),jdZ L (jaI a.pt) p→(∀ j W',C j W'→AtIs A a W')→C p W →
   CallsIn Fence.wide 0 Tryz.prog 123 #[ptrV a.root,.func (.yield l) #[] #[]] W (jiV C Cx (p+(jaI a.pt).length) L.length)
 | .mk b t v ks,p,W,hL,hS,h0=>jrp A l C Cx hC L hLn hY b t v ks (fun a ha=>jro A l C Cx hC L hLn hY a) p W hL hS h0
termination_by a=>SizeOf.sizeOf a
decreasing_by
 have:=List.sizeOf_lt_of_mem ha
 simp
 omega
def joV(L:List ByteArray)(k:Nat):Array Value:=#[.string (L.getD k ⟨#[]⟩)]
theorem jv7(A:Nat→Prop)(bx:Nat)(a:AT)(hLn:(jaI a.pt).length≤1000000):joH Tryz.prog 122 #[.pointer (some ⟨bx,0,none⟩)] (jaI a.pt).length (joV (jaI a.pt)) (fun W=>Blk W bx (.cells #[ptrV a.root] 104)∧AtIs A a W):=by
 intro l C Cx hC hCx hS W hY h0;have hT:=jro A l C Cx hC (jaI a.pt) hLn (fun j W' hj hc=>hY j W' hj hc) a 0 W (fun j x hx=>by rw[Nat.zero_add];exact hx) (fun j W' h=>(hS j W' h).2) h0;have q0:=(hS 0 W h0).1.cell (i:=0) (v:=ptrV a.root) (by rfl);have HT:=Hd hT;clear hT hY hC hCx hS h0;unfold ptrV at q0
 obtain⟨r,hr⟩:∃ r,r=a.root:=⟨_,rfl⟩
 rw[←hr]at q0 HT;have HR:=Hd hr;clear hr;refine callsIn_of_wp Tryz.func122 rfl trivial ?_ rfl;simp only[Tryz.ntmps122,List.size_toArray,List.length_cons,List.length_nil,Nat.reduceAdd,Nat.reduceSub,Array.replicate_succ,Array.replicate_zero,List.push_toArray,List.append_toArray,List.nil_append,List.cons_append];gi_wp2_with fail
 refine⟨trivial,rfl,HT.o.mono ?_⟩
 rintro e w5 (⟨rfl,C5⟩ |⟨rfl,q',hq1,hq2,C6⟩)
 ·have HC5:=Hd C5
  clear C5;gi_wp2_with fail
  refine bodyPost_end (results_none rfl _ _ _) rfl ?_
  exact⟨⟨_,rfl⟩,.inl (by have:=HC5.o;rw[Nat.zero_add]at this;exact this)⟩
 ·have HC6:=Hd C6
  clear C6;gi_wp2_with fail
  refine bodyPost_end (results_none rfl _ _ _) rfl ?_
  exact⟨⟨_,rfl⟩,.inr ⟨q',hq2,hq1,HC6.o⟩⟩
theorem jxu(w:World)(k:Nat):Calls Tryz.prog 71 #[ptrV k] w fun e w'=>e=.returned (.func (.func 122) #[] #[.pointer (some ⟨w.heap.size,0,none⟩)])∧Blk w' w.heap.size (.cells #[ptrV k] 104)∧Ext w w':=by
 unfold ptrV;go_enter Tryz.func71,Tryz.ntmps71;go_wp2_with fail
 go_ret
 exact⟨rfl,Blk.new w _,(ExtR w).alloc _⟩
def memB(acc:List ByteArray)(x:ByteArray):Bool:=(acc.map (·.data.toList)).contains x.data.toList
theorem jfl(acc:List ByteArray)(x:ByteArray):memB acc x=true↔x∈acc:=by
 unfold memB;rw[List.contains_iff_mem,List.mem_map]
 exact⟨fun ⟨y,hy,e⟩=>by rw[←show y=x from ByteArray.ext (Array.ext' e)];exact hy,fun h=>⟨x,h,rfl⟩⟩
def addF(acc:List ByteArray)(x:ByteArray):List ByteArray:=if memB acc x=true then acc else acc++[x]
def jbf(l:List ByteArray):List ByteArray:=l.foldl addF []
theorem jrA(acc:List ByteArray)(x y:ByteArray):y∈addF acc x↔y∈acc∨y=x:=by
 unfold addF;split
 ·rename_i h;exact⟨.inl,fun h'=>h'.elim id (fun e=>e ▸ (jfl _ _).1 h)⟩
 ·simp
theorem jbm(l:List ByteArray)(y:ByteArray):y∈jbf l↔y∈l:=by
 unfold jbf
 suffices ∀ acc,y∈l.foldl addF acc↔y∈acc∨y∈l by simpa using this []
 induction l with
 | nil=>intro acc;simp
 | cons x r ih=>intro acc;rw[List.foldl_cons,ih,jrA,List.mem_cons];exact or_assoc
theorem jfL(l:List ByteArray)(x:ByteArray):jbf (l++[x])=addF (jbf l) x:=by
 unfold jbf;rw[List.foldl_append];rfl
theorem jgB(l:List ByteArray):(jbf l).length≤l.length:=by
 unfold jbf
 suffices ∀ acc,(l.foldl addF acc).length≤acc.length+l.length by simpa using this []
 induction l with
 | nil=>intro acc;simp
 | cons x r ih =>
  intro acc;rw[List.foldl_cons,List.length_cons];have h1:=ih (addF acc x);have h2:(addF acc x).length≤acc.length+1:=by unfold addF;split <;> simp
  omega
theorem jc6{K:Type}[DecidableEq K](k:K)(v:Value)(n:Nat)(k':K):∀ (l:List (Ent K)),jaZ (jbz l k v n) k'=if k'=k then some v else jaZ l k'
 | []=>by
  by_cases h:k'=k
  ·subst h;simp[jbz,jaZ]
  ·simp[jbz,jaZ,h]
 | x :: r=>by
  have ih:=jc6 k v n k' r;unfold jbz
  by_cases hk:k=x.1
  ·rw[if_pos hk]
   by_cases h:k'=k
   ·subst h;simp[jaZ]
   ·have h2:¬ k'=x.1:=fun e=>h (e.trans hk.symm)
    simp[jaZ,h,h2]
  ·rw[if_neg hk]
   by_cases h:k'=x.1
   ·have h2:¬ k'=k:=fun e=>hk (e.symm.trans h)
    rw[if_neg h2];simp[jaZ,h]
   ·have e1:∀ l,jaZ (x :: l) k'=jaZ l k':=fun l=>by simp[jaZ,h]
    rw[e1,e1,ih]
def cntB(l:List ByteArray)(x:ByteArray):Nat:=(l.map (·.data.toList)).count x.data.toList
def cntV(n:Nat):Option Value:=if n=0 then none else some (.int .i64 (n:Int))
theorem Tryz.uMapSI:Tryz.prog.underlying 101=some (.map 9 3):=by kernel_rfl
noncomputable abbrev Tryz.ES:ja7 Tryz.prog 9 (List UInt8):=jwA Tryz.uStr
theorem Tryz.zeroI(w:World):(zeroValue 3).run Tryz.prog w=.ok (.int .i64 0) w:=by kernel_rfl
structure NodS(w:World)(g m:Nat)(A:Nat→Prop)(bx:Nat)(a:AT)(L:List ByteArray)(k:Nat)(W:World):Prop where
 ext:Ext w W
 var:∃ v n,Blk W g (.cells #[v] 34)∧W.ownsRow 0 9 1 v n ((jbf (L.take k)).map Value.string)∧n≤k∧∀ b,v.ownBlock=some b→m+2≤b
 tab:∃ es ck,Blk W (g+1) (.map (Tryz.ES.arr es) ck)∧∀ x:ByteArray,jaZ es x.data.toList=cntV (cntB (L.take k) x)
 mv:Blk W (g+2) (.cells #[.map (some (g+1))] 101)
 box:Blk W bx (.cells #[ptrV a.root] 104)
 at':AtIs A a W
theorem NodS.st{w:World}{g m:Nat}{A:Nat→Prop}{bx:Nat}{a:AT}{L:List ByteArray}{k:Nat}{W W':World}(h:NodS w g m A bx a L k W)(e:Ext W W'):NodS w g m A bx a L k W':=
 let ⟨v,n,h1,h2,h3,h4⟩:=h.var
 let ⟨es,ck,h5,h6⟩:=h.tab
 ⟨h.ext.trans e,⟨v,n,h1.keeps e (fun h=>h),jbd h2 e,h3,h4⟩,⟨es,ck,h5.keeps e (fun h=>h),h6⟩,h.mv.keeps e (fun h=>h),h.box.keeps e (fun h=>h),AtIs.keeps e (fun _ _ h=>h) a h.at'⟩
theorem NodS.put{w:World}{g m:Nat}{A:Nat→Prop}{bx:Nat}{a:AT}{L:List ByteArray}{k:Nat}{W:World}(h:NodS w g m A bx a L k W){r:Nat}(hr:w.heap.size≤r)(h1:g+2 < r)(h2:r < m+2)(h3:bx≠r)(h4:∀ x,A x→x≠r)(o:Obj):NodS w g m A bx a L k (W.putObj r o):=
 let ⟨v,n,h5,h6,h7,h8⟩:=h.var
 let ⟨es,ck,h9,h10⟩:=h.tab
 ⟨h.ext.putObj (.inr hr) _,⟨v,n,h5.put_other (by omega) _,jaG h6 (jac.onePut W r o) (fun b hb e=>by have:=h8 b hb;omega),h7,h8⟩,⟨es,ck,h9.put_other (by omega) _,h10⟩,h.mv.put_other (by omega) _,h.box.put_other h3 _,
  AtIs.keeps (jac.onePut W r o) (fun x hx e=>h4 x hx e) a h.at'⟩
end
section
open Go Go.RowKit
def jdj(l:List Pair):Nat→Nat
 | 0=>0
 | n+1=>jdj l n+(cutL n l).length
def hN(L:List UInt8)(n:Nat):Nat:=match L with | []=>0 | a :: _=>if a.toNat < n then 1 else 0
theorem juF(p:Pair)(n:Nat):hN p.l (n+1)=hN p.l n+(if jfP n p=true then 1 else 0):=by
 have hpb:jfP n p=match p.l with | []=>false | a :: _=>a.toNat == n:=rfl
 rw[hpb];cases p.l with
 | nil=>rfl
 | cons a r =>
  simp only[hN,beq_iff_eq]
  by_cases h1:a.toNat=n
  ·rw[if_pos (by omega),if_neg (by omega),if_pos h1]
  ·by_cases h3:a.toNat < n
   ·rw[if_pos (by omega),if_pos h3,if_neg h1]
   ·rw[if_neg (by omega),if_neg h3,if_neg h1]
theorem jww(L:List UInt8)(n:Nat):hN L n≤1:=by
 cases L with
 | nil=>exact Nat.zero_le _
 | cons a r=>simp only[hN];split <;> omega
theorem jfH(p:Pair)(l:List Pair):∀ n,jdj (p :: l) n=jdj l n+hN p.l n
 | 0=>by
  have:hN p.l 0=0:=by cases p.l <;> simp[hN]
  rw[this];rfl
 | n+1=>by
  have h:(cutL n (p :: l)).length=(cutL n l).length+(if jfP n p=true then 1 else 0):=by
   unfold cutL;rw[List.filter_cons];split <;> simp
  unfold jdj;rw[jfH p l n,h,juF];omega
theorem jeN:∀ (l:List Pair) (n:Nat),jdj l n≤l.length
 | [],n=>by
  have:∀ n,jdj [] n=0:=fun n=>by induction n with
   | zero=>rfl
   | succ n ih=>unfold jdj;rw[ih];rfl
  rw[this];exact Nat.zero_le _
 | p :: l,n=>by
  rw[jfH,List.length_cons]
  have:=jeN l n
  have:=jww p.l n
  omega
theorem jdz:∀ (a b:List PT),jaK (a++b)=jaK a++jaK b
 | [],b=>by simp[jaK]
 | x :: a,b=>by simp only[List.cons_append,jaK,jdz a b,List.append_assoc]
theorem jhN(T:PT):(jaK (jbZ T)).length≤(jaI T).length:=by
 unfold jbZ;split <;> simp[jaK]
theorem jwB(B:List Pair→PT)(F:Nat)(l:List Pair)(hB:∀ i,(cutL i l).length≠0→(jaI (B (jam 1 (cutL i l)))).length≤F * (cutL i l).length):∀ n,(jaK (ksK B l n)).length≤F * jdj l n
 | 0=>by simp[ksK,jaK,jdj]
 | n+1=>by
  rw[jha,jdz,List.length_append];unfold jdj;rw[Nat.mul_add]
  have:=jwB B F l hB n
  by_cases h0:(cutL n l).length=0
  ·rw[if_pos h0];simp[jaK];omega
  ·rw[if_neg h0]
   have h1:=hB n h0;have h2:=jhN (B (jam 1 (cutL n l)));omega
theorem jlC:∀ (f:Nat) (l:List Pair),l≠[]→(jaI (jad (f+1) l)).length≤(f+1) * l.length
 | f,l,hl=>by
  have hlen:1≤l.length:=List.length_pos_iff.2 hl;show (jaI (.mk (ja5 (jau (jad f) l)) (jaw (jad f) l))).length≤_;unfold jaI;rw[List.length_cons];have key:(jaK (jaw (jad f) l)).length≤f * l.length:=by
   unfold jaw;split
   ·simp[jaK]
   ·split
    ·cases f with
     | zero =>
      have h:=jhN (jad 0 (jam (comK l) l));have h0:jbZ (jad 0 (jam (comK l) l))=[]:=rfl;rw[h0];simp[jaK]
     | succ f =>
      have h:=jhN (jad (f+1) (jam (comK l) l));have ih:=jlC f (jam (comK l) l) (fun e=>by have:=jaE (comK l) l;rw[e]at this;simp at this;omega);rw[jaE]at ih;omega
    ·cases f with
     | zero =>
      have:∀ n,ksK (jad 0) l n=[]:=fun n=>by
       induction n with
       | zero=>rfl
       | succ n ih =>
        rw[jha,ih];split
        ·rfl
        ·rfl
      have h16:=this 16;unfold ksK at h16;rw[h16];simp[jaK]
     | succ f =>
      have h:=jwB (jad (f+1)) (f+1) l (fun i hi=>by
       have ih:=jlC f (jam 1 (cutL i l)) (fun e=>by have:=jaE 1 (cutL i l);rw[e]at this;simp at this;omega)
       rwa [jaE]at ih) 16
      have h2:=Nat.mul_le_mul_left (f+1) (jeN l 16);have h3:ksK (jad (f+1)) l 16=(List.range 16).flatMap fun i=>if (cutL i l).length=0 then []else jbZ (jad (f+1) (jam 1 (cutL i l))):=rfl
      rw[←h3];exact Nat.le_trans h h2
  have:(f+1) * l.length=f * l.length+l.length:=by rw[Nat.succ_mul]
  omega
theorem jnp{l:List Pair}(h:jry l):(jaI (jaT l)).length≤13 * l.length+1:=by
 by_cases h0:l=[]
 ·subst h0
  show (jaI (.mk (ja5 (jau (jad 12) [])) (jaw (jad 12) []))).length≤_
  have:jaw (jad 12) []=[]:=rfl
  rw[this];simp[jaI,jaK]
 ·have h1:(jaI (jaT l)).length≤13 * (jaP l).length:=jlC 12 (jaP l) (fun e=>h0 (by unfold jaP at e;simpa using e))
  have h2:(jaP l).length=l.length:=by unfold jaP;rw[List.length_map]
  rw[h2]at h1;omega
end
section
open Go Go.RowKit
attribute [local go_sem] Oper.semAt_some
theorem Tryz.makeMapSI(W:World):(Instr.makeMap 101 none).run Tryz.prog W=.ok (.map (some W.heap.size)) (W.alloc (.map #[] 0)):=by kernel_rfl
theorem Tryz.enterAll1:∀ args w,(callFunc 122 args).run Tryz.prog w=.ok (.enter 122 args) w:=fun _ _=>by kernel_rfl
theorem jsK(w:World)(v:Value)(l:List Pair)(hc:jch w)(hv:RdP w v l)(h:jaS l=0):Calls Tryz.prog 26 #[v] w fun e w'=>∃ u n,e=.returned (.tuple #[u,.int .i64 0])∧SRow w w' u n (jbf (jaI (jaT l))):=by
 have hm:=jaM h
 obtain⟨a,c,hsl⟩:=hv.sl
 subst hsl;have HV:=Hd hv;have HM:=Hd hm;have HC:=Hd hc;have H:=Hd h;have HL:=Hd hm.len
 obtain⟨T,hT⟩:∃ T,T=jaT l:=⟨_,rfl⟩
 rw[←hT];have HTR:=Hd hT;clear hv hm hc h hT;rw[←callsIn_wide (n:=0)];refine callsIn_of_wp_marks Tryz.func26 rfl trivial ?_ rfl;simp only[Tryz.ntmps26,List.size_toArray,List.length_cons,List.length_nil,Nat.reduceAdd,Nat.reduceSub,Array.replicate_succ,Array.replicate_zero,List.push_toArray,List.append_toArray,List.nil_append,List.cons_append];gi_wp2_with fail
 refine⟨trivial,rfl,CallsIn.mono (callsIn_wide.2 (jgw w _ l HV.o (by have:=HL.o;omega) (fun p hp=>by have:=HM.o.size p hp;omega))) ?_⟩
 rintro e w1 ⟨rfl,hE⟩;rw[H.o];have HE:=Hd hE;have hw1:=hE.size;clear hE;have hmm:(Instr.makeMap 101 none).run Tryz.prog (w1.alloc (.cells #[.slice none 0 0] 34))=.ok (.map (some (w1.heap.size+1))) ((w1.alloc (.cells #[.slice none 0 0] 34)).alloc (.map #[] 0)):=by
  rw[←World.size_alloc w1 (.cells #[.slice none 0 0] 34)];exact Tryz.makeMapSI _
 gi_wp2_with fail
 obtain⟨W6,hW6⟩:∃ W6,W6=((w1.alloc (.cells #[.slice none 0 0] 34)).alloc (.map #[] 0)).alloc (.cells #[.map (some (w1.heap.size+1))] 101):=⟨_,rfl⟩
 rw[←hW6];have hs6:W6.heap.size=w1.heap.size+3:=by rw[hW6];simp
 have E6:Ext w1 W6:=by rw[hW6];exact (((ExtR w1).alloc _).alloc _).alloc _
 have B5:Blk W6 w1.heap.size (.cells #[.slice none 0 0] 34):=by rw[hW6];exact ((Blk.new w1 _).alloc _).alloc _
 have BM:Blk W6 (w1.heap.size+1) (.map #[] 0):=by
  rw[hW6];have:=(Blk.new (w1.alloc (.cells #[.slice none 0 0] 34)) (.map #[] 0)).alloc (.cells #[.map (some (w1.heap.size+1))] 101);rwa [World.size_alloc]at this
 have B6:Blk W6 (w1.heap.size+2) (.cells #[.map (some (w1.heap.size+1))] 101):=by
  rw[hW6];have:=Blk.new ((w1.alloc (.cells #[.slice none 0 0] 34)).alloc (.map #[] 0)) (.cells #[.map (some (w1.heap.size+1))] 101);rwa [World.size_alloc,World.size_alloc]at this
 clear hW6 hmm
 refine⟨trivial,rfl,CallsIn.mono (callsIn_wide.2 (jtK W6 _ l ((HV.o.ext HE.o).ext E6) (by have:=HL.o;omega) (fun p hp=>by have:=HM.o.size p hp;omega))) ?_⟩
 rintro e w7 ⟨u,rfl,hr⟩;have HR:=Hd hr.rd;have hX7:Ext W6 w7:=hr.ext;clear hr
 obtain⟨a2,c2,hu⟩:=HR.o.sl
 subst hu;have HX7:=Hd hX7;have HB5:=Hd (B5.keeps hX7 (fun h=>h));have HBM:=Hd (BM.keeps hX7 (fun h=>h));have HB6:=Hd (B6.keeps hX7 (fun h=>h));have HE7:=Hd ((HE.o.trans E6).trans hX7);have hs7:=hX7.size;clear B5 BM B6 E6 hX7;gi_wp2_with fail
 refine⟨trivial,rfl,CallsIn.mono (callsIn_wide.2 (ji1 12 (jaP l) (jbR HM.o) (by unfold jaP;rw[List.length_map];have:=HL.o;omega) w7 _ (HC.o.ext HE7.o) HR.o)) ?_⟩
 rintro e w8 ⟨k,rfl,hk,hE⟩;have hk:=jbM.mono (A':=fun x=>w7.heap.size≤x∧x < w8.heap.size) (fun x h1 h2=>⟨h1,h2⟩) _ _ hk
 obtain⟨at0,ha1,ha2,ha3⟩:=jwa _ _ hk
 have hs8:=hE.size;have HB5':=Hd (HB5.o.keeps hE (fun h=>h));have HBM':=Hd (HBM.o.keeps hE (fun h=>h));have HB6':=Hd (HB6.o.keeps hE (fun h=>h));have HE8:=Hd (HE7.o.trans hE);have HA3:=Hd ha3;have HA2:=Hd ha2;rw[←ha1];clear hk ha1 ha2 ha3 hE HB5 HBM HB6 HE7 HX7 HR HE;gi_wp2_with fail
 refine⟨trivial,rfl,CallsIn.mono (callsIn_wide.2 (jxu w8 at0.root)) ?_⟩
 rintro e w9 ⟨rfl,hbx,hE⟩;have hpt:at0.pt=T:=HA2.o.trans HTR.o.symm;have hlen:(jaI at0.pt).length≤1000000:=by
  rw[hpt,HTR.o];have:=jnp HM.o;have:=HL.o;omega
 have hl9:=hbx.lt
 obtain⟨A,hA⟩:∃ A:Nat→Prop,A=fun x=>w7.heap.size≤x∧x < w8.heap.size:=⟨_,rfl⟩
 have S0:NodS w w1.heap.size w9.heap.size A w8.heap.size at0 (jaI at0.pt) 0 w9:=
  ⟨HE8.o.trans hE,⟨_,0,HB5'.o.keeps hE (fun h=>h),by simpa [jbf]using World.ownsRow_nil _ _ _ _,Nat.le_refl _,fun b hb=>by cases hb⟩,⟨[],0,HBM'.o.keeps hE (fun h=>h),fun x=>by simp[jaZ,cntB,cntV]⟩,HB6'.o.keeps hE (fun h=>h),hbx,by rw[hA];exact AtIs.keeps hE (fun _ _ h=>h) _ HA3.o⟩
 have HS0:=Hd S0;have hAlo:∀ x,A x→w1.heap.size+2 < x∧x < w9.heap.size:=fun x hx=>by rw[hA]at hx;omega
 have hbx9:w1.heap.size+2 < w8.heap.size:=by omega
 obtain⟨L,hLd⟩:∃ L,L=jaI at0.pt:=⟨_,rfl⟩
 have hit:=jv7 A w8.heap.size at0 hlen;rw[←hLd]at hit hlen HS0;have HIT:=Hd hit;have HLD:=Hd hLd;have HALO:=Hd hAlo;have HPT0:=Hd hpt;clear S0 hE hbx hA HE8 HB5' HBM' HB6' HA3 HA2 hpt hLd hit hAlo;unfold ptrV;gi_wp2_with fail
 refine jel (N:=L.length) (gf:=122) (lb:=#[.pointer (some ⟨w8.heap.size,0,none⟩)]) rfl Tryz.enterAll1 HIT.o
  (fun k=>rfl) (NodS w w1.heap.size w9.heap.size A w8.heap.size at0 L) (fun _ _ _=>False) (fun k W W' h e=>h.st e) (fun _ _ _ _ h _=>h) (fun k W h=>⟨h.box,h.at'⟩)
  (fun k W o h=>h.put (by omega) (by omega) (by omega) (by omega) (fun x hx=>by have:=HALO.o x hx;omega) _)
  (fun k W o h=>h.put (by omega) (by omega) (by omega) (by omega) (fun x hx=>by have:=HALO.o x hx;omega) _) (fun _ _ _ _ h=>h)
  HS0.o (fun k=>{ tmps:=#[.slice a l.length c,undef,.slice none 0 0,.int .i64 0,.int .i64 0,.pointer (some ⟨w1.heap.size,0,none⟩),.pointer (some ⟨w1.heap.size+1+1,0,none⟩),.string (L.getD k ⟨#[]⟩),.slice a l.length c,.int .i64 0,.int .i64 0,.bool false,undef,.map (some (w1.heap.size+1)),.slice a l.length c,.slice a2 (jaP l).length c2,.pointer (some ⟨at0.root,0,none⟩),.func (.func 122) #[] #[.pointer (some ⟨w8.heap.size,0,none⟩)],.string (L.getD k ⟨#[]⟩),undef,undef,undef,undef,undef,undef,undef,undef,undef,undef,undef,undef,undef],defers:=[] })
  ?hassign ?hbody ?hdone ?hstop
 case hassign =>
  intro l2 j W K hK;unfold joV;rw[jwv];simp only[List.set_cons_zero,List.set_cons_succ];gi_wp2;exact hK
 case hbody =>
  intro l2 k W hk h hlt
  obtain⟨v,n,h1,h2,h3,h4⟩:=h.var
  obtain⟨ad,cp,rfl⟩:=jay h2
  obtain⟨es,ck,h5,h6⟩:=h.tab
  obtain⟨x,hx⟩:∃ x,x=L.getD k ⟨#[]⟩:=⟨_,rfl⟩
  rw[←hx];have hLx:L.take (k+1)=L.take k++[x]:=by
   rw[List.take_succ_eq_append_getElem hk,hx,List.getD_eq_getElem?_getD,List.getElem?_eq_getElem hk];rfl
  obtain⟨cn,hcn⟩:∃ cn,cn=cntB (L.take k) x:=⟨_,rfl⟩
  have hcl:cn≤1000000:=by
   rw[hcn];unfold cntB;refine Nat.le_trans List.count_le_length ?_;rw[List.length_map,List.length_take];omega
  have e6:=h6 x;rw[←hcn]at e6;have hlk:(Instr.lookup 101 (.map (some (w1.heap.size+1))) (.string x) false).run Tryz.prog W=.ok (.int .i64 (cn:Int)) W:=by
   have:=jcN Tryz.ES Tryz.uMapSI h5 (Tryz.zeroI W) x.data.toList false
   rw[e6]at this;unfold cntV at this
   by_cases h0:cn=0
   ·rw[if_pos h0]at this;rw[h0];exact this
   ·rw[if_neg h0]at this;exact this
  obtain⟨es2,hes2⟩:∃ es2,es2=jbz es x.data.toList (.int .i64 ((cn:Int)+1)) ck:=⟨_,rfl⟩
  obtain⟨ck2,hck2⟩:∃ ck2,ck2=(if (jaZ es x.data.toList).isSome then ck else ck+1):=⟨_,rfl⟩
  obtain⟨W2,hW2⟩:∃ W2,W2=W.putObj (w1.heap.size+1) (.map (Tryz.ES.arr es2) ck2):=⟨_,rfl⟩
  have hmu:(Instr.mapUpdate 101 (.map (some (w1.heap.size+1))) (.string x) (.int .i64 ((cn:Int)+1))).run Tryz.prog W=.ok () W2:=by
   have:=jcu Tryz.ES Tryz.uMapSI h5 x.data.toList (.int .i64 ((cn:Int)+1))
   rw[←hes2, ←hck2, ←hW2]at this;exact this
  have B2:Blk W2 (w1.heap.size+1) (.map (Tryz.ES.arr es2) ck2):=by rw[hW2];exact h5.put_same _
  have e7:∀ y:ByteArray,jaZ es2 y.data.toList=cntV (cntB (L.take (k+1)) y):=fun y=>by
   rw[hes2,jc6,h6 y,hLx];have hc:cntB (L.take k++[x]) y=cntB (L.take k) y+(if x.data.toList=y.data.toList then 1 else 0):=by
    unfold cntB;rw[List.map_append,List.count_append,List.map_cons,List.map_nil,List.count_singleton]
    simp
   rw[hc]
   by_cases hxy:y.data.toList=x.data.toList
   ·have hyx:y=x:=ByteArray.ext (Array.ext' hxy)
    subst hyx;rw[if_pos rfl,if_pos rfl, ←hcn];unfold cntV;rw[if_neg (by omega)];simp
   ·rw[if_neg hxy,if_neg (fun e=>hxy e.symm)];rfl
  have hlk2:(Instr.lookup 101 (.map (some (w1.heap.size+1))) (.string x) false).run Tryz.prog W2=.ok (.int .i64 ((cn:Int)+1)) W2:=by
   have:=jcN Tryz.ES Tryz.uMapSI B2 (Tryz.zeroI W2) x.data.toList false
   rw[hes2,jc6,if_pos rfl]at this;exact this
  have K2:jac (fun b=>b=w1.heap.size+1) W W2:=by rw[hW2];exact jac.onePut _ _ _
  have q6:W.cell? ⟨w1.heap.size+1+1,0,none⟩=some (.map (some (w1.heap.size+1))):=h.mv.cell (i:=0) (by rfl);have M2:=h.mv.keeps K2 (by omega);have q62:W2.cell? ⟨w1.heap.size+1+1,0,none⟩=some (.map (some (w1.heap.size+1))):=M2.cell (i:=0) (by rfl);have V2:=h1.keeps K2 (by omega);have O2:=jaG h2 K2 (fun b hb e=>by have:=h4 b hb;omega);have X2:=h.box.keeps K2 (by omega);have A2:=AtIs.keeps K2 (fun y hy e=>by have:=HALO.o y hy;omega) _ h.at';have E2:=h.ext.trans' K2 (fun y hy e=>by omega);have hV2:=V2.cell (i:=0) (v:=.slice ad n cp) (by rfl);have hV2f:W2.frozen? ⟨w1.heap.size,0,none⟩=false:=V2.frozen;have HMEM:=Hd (show memB (jbf (L.take k)) x=true↔cn≠0 from by
   rw[jfl,jbm,hcn];unfold cntB;rw[←Nat.pos_iff_ne_zero,List.count_pos_iff,List.mem_map]
   exact⟨fun hm=>⟨x,hm,rfl⟩,fun ⟨y,hy,e⟩=>by rw[←show y=x from ByteArray.ext (Array.ext' e)];exact hy⟩)
  have HFS:=Hd (show jbf (L.take (k+1))=addF (jbf (L.take k)) x by rw[hLx,jfL]);have HTAB:=Hd (show ∃ es ck,Blk W2 (w1.heap.size+1) (.map (Tryz.ES.arr es) ck)∧∀ y:ByteArray,jaZ es y.data.toList=cntV (cntB (L.take (k+1)) y)from⟨es2,ck2,B2,e7⟩);have HK2:=Hd K2;have HM2:=Hd M2;have HV2:=Hd V2;have HO2:=Hd O2;have HX2:=Hd X2;have HA2:=Hd A2;have HE2:=Hd E2;have H4:=Hd h4;clear h h1 h2 h4 h5 h6 hx hLx hcn e6 hes2 hck2 hW2 B2 e7 K2 M2 V2 O2 X2 A2 E2 HS0
  obtain⟨i0,hi,hz0,hz1,hz2⟩:=info_parts Tryz.infoStr
  by_cases hc0:cn=0
  ·subst hc0
   have hnm:memB (jbf (L.take k)) x=false:=by
    cases hm:memB (jbf (L.take k)) x with
    | false=>rfl
    | true=>exact absurd rfl (HMEM.o.1 hm)
   have HNM:=Hd hnm;have hlk':(Instr.lookup 101 (.map (some (w1.heap.size+1))) (.string x) false).run Tryz.prog W=.ok (.int .i64 0) W:=hlk;have hmu':(Instr.mapUpdate 101 (.map (some (w1.heap.size+1))) (.string x) (.int .i64 1)).run Tryz.prog W=.ok () W2:=hmu;have hlk2':(Instr.lookup 101 (.map (some (w1.heap.size+1))) (.string x) false).run Tryz.prog W2=.ok (.int .i64 1) W2:=hlk2;clear hnm hlk hmu hlk2;gi_wp2_with (gi_at_builtin;refine jbG _ rfl (.tmp 27) (.tmp 29) 34 rfl 9 i0 _ 1 16 Tryz.uStrs hi hz0 hz1 hz2 rfl (by decide) (.slice ad n cp) n _ rfl (jbd HO2.o ((ExtR W2).alloc _)) ⟨W2.heap.size,0,none⟩ 1 1 [.string x] rfl rfl (ja9 (Blk.new W2 _)) (by simp[Value.oneCell']) (by unfold maxLen;omega) (by omega) ?_;intro v' w6 r1 r2 r3;obtain⟨ad',cp',rfl⟩:=jay r1;have hV6:=(HV2.o.alloc _).keeps r2 (fun e=>by have:=H4.o _ e;omega);have q56:w6.cell? ⟨w1.heap.size,0,none⟩=some (.slice ad n cp):=hV6.cell (i:=0) (by rfl);have f56:w6.frozen? ⟨w1.heap.size,0,none⟩=false:=hV6.frozen)
   have hadd:jbf (L.take (k+1))=jbf (L.take k)++[x]:=by rw[HFS.o];unfold addF;rw[if_neg (by rw[HNM.o];simp)]
   have r1':w6.ownsRow 0 9 1 (.slice ad' (n+1) cp') (n+1) ((jbf (L.take (k+1))).map Value.string):=by rw[hadd,List.map_append];exact r1
   have K6:jac (fun b=>(Value.slice ad n cp).ownBlock=some b) W2 w6:=((jac.refl _ W2).alloc _).trans r2;have hv':∀ b,(Value.slice ad' (n+1) cp').ownBlock=some b→w9.heap.size+2≤b:=fun b hb=>by
    rcases r3 with r3 | r3
    ·exact H4.o b (r3 ▸ hb)
    ·have h9:=r3 b hb;have:=HK2.o.size;rw[World.size_alloc]at h9;omega
   have K7:jac (fun b=>b=w1.heap.size) w6 (w6.setCell ⟨w1.heap.size,0,none⟩ (.slice ad' (n+1) cp')):=jac.oneSet w6 ⟨w1.heap.size,0,none⟩ _;have nO:∀ b,b < w9.heap.size+2→¬(Value.slice ad n cp).ownBlock=some b:=fun b hb e=>by have:=H4.o b e;omega
   refine⟨((HK2.o.mono (fun y _ e=>?_)).trans (K6.mono (fun y _ e=>?_))).trans (K7.mono (fun y _ e=>?_)),?_⟩
   ·have e:y=_:=e;show y≠_∧y≠_;omega
   ·have:=H4.o y e;show y≠_∧y≠_;omega
   ·have e:y=_:=e;show y≠_∧y≠_;omega
   ·obtain⟨es3,ck3,hT1,hT2⟩:=HTAB.o
    exact⟨(HE2.o.trans' K6 (fun y hy e=>by have:=H4.o y e;omega)).trans' K7 (fun y hy e=>by have e:y=_:=e;omega),
     ⟨_,n+1,hV6.set_same (i:=0) _,jaG r1' K7 (fun b hb e=>by have:=hv' b hb;omega),by omega,hv'⟩,
     ⟨es3,ck3,(hT1.keeps K6 (nO _ (by omega))).keeps K7 (by omega),hT2⟩,(HM2.o.keeps K6 (nO _ (by omega))).keeps K7 (by omega),(HX2.o.keeps K6 (nO _ (by omega))).keeps K7 (by omega),
     AtIs.keeps K7 (fun y hy e=>by have:=HALO.o y hy;omega) _ (AtIs.keeps K6 (fun y hy=>nO y (by have:=HALO.o y hy;omega)) _ HA2.o)⟩
  ·have hc1:¬((cn:Int)+1=1):=by omega
   have hc2:(((cn:Int)+1) == 1)=false:=by simp;omega
   have hm:=HMEM.o.2 hc0;have HNM:=Hd hm;clear hm;gi_wp2_with fail
   have hadd:jbf (L.take (k+1))=jbf (L.take k):=by rw[HFS.o];unfold addF;rw[if_pos HNM.o]
   refine⟨HK2.o.mono (fun y _ e=>?_),?_⟩
   ·have e:y=_:=e;show y≠_∧y≠_;omega
   ·exact⟨HE2.o,⟨_,n,HV2.o,by rw[hadd];exact HO2.o,by omega,H4.o⟩,HTAB.o,HM2.o,HX2.o,HA2.o⟩
 case hdone =>
  intro W h hd
  obtain⟨v,n,h1,h2,h3,h4⟩:=h.var
  obtain⟨ad,cp,rfl⟩:=jay h2
  have q5:W.cell? ⟨w1.heap.size,0,none⟩=some (.slice ad n cp):=h1.cell (i:=0) (by rfl);rw[List.take_length,HLD.o]at h2;have H2:=Hd h2;have H4:=Hd h4;have HX:=Hd h.ext;have HD:=Hd hd;have HPT:=Hd (show at0.pt=T from HPT0.o);clear h h1 h2 h4 hd HS0;gi_wp2_with fail
  refine⟨by simp,.inl ⟨_,_,rfl,run_takeDeferred HD.o,?_⟩⟩
  refine⟨_,results_tmp2 rfl _ _ _,?_⟩
  have hK:=jac.onePut W w9.heap.size (.deferred none)
  refine⟨.slice ad n cp,n,rfl,⟨_,_,rfl⟩,by rw[←HPT.o];exact jaG H2.o hK (fun b hb e=>by have:=H4.o b hb;omega),HX.o.putObj (.inr (by omega)) _,fun b hb=>by have:=H4.o b hb;omega⟩
 case hstop=>intro c k W _ _ h;exact h.elim
end
section
open Go Go.RowKit
theorem jqD(w:World)(v:Value)(l:List Pair)(hv:RdP w v l)(hn:l.length≤9223372036854775807)(hs:∀ p∈l,p.1.size≤9223372036854775807∧p.2.size≤9223372036854775807)(h:jaS l≠0):Calls Tryz.prog 26 #[v] w fun e w'=>e=.returned (.tuple #[.slice none 0 0,.int .i64 (jaS l)])∧Ext w w':=by
 have hck:=jgw w v l hv hn hs
 obtain⟨a,c,hsl⟩:=hv.sl
 subst hsl
 obtain⟨x,hx⟩:∃ x,x=jaS l:=⟨_,rfl⟩
 rw[←hx]at h hck ⊢;have hne:(x == 0)=false:=by simpa using h
 have HT:=Hd hck;clear hck hv hx hs;rw[←callsIn_wide (n:=0)];refine callsIn_of_wp_marks Tryz.func26 rfl trivial ?_ rfl;simp only[Tryz.ntmps26,List.size_toArray,List.length_cons,List.length_nil,Nat.reduceAdd,Nat.reduceSub,Array.replicate_succ,Array.replicate_zero,List.push_toArray,List.append_toArray,List.nil_append,List.cons_append];gi_wp2_with fail
 refine⟨trivial,rfl,CallsIn.mono (callsIn_wide.2 HT.o) ?_⟩
 rintro e w1 ⟨rfl,hE⟩;have HE:=Hd hE;clear hE;gi_wp2_with fail
 refine⟨_,results_tmp2 rfl _ _ _,?_⟩
 exact⟨rfl,HE.o⟩
theorem jw5(w:World)(v:Value)(l:List Pair)(hc:jch w)(hv:RdP w v l)(h:jaS l=0):Calls Tryz.prog 52 #[v] w fun e w'=>e=.returned (.tuple #[.string (jaT l).text,.int .i64 0])∧Ext w w':=by
 have hm:=jaM h
 obtain⟨a,c,hsl⟩:=hv.sl
 subst hsl;have HV:=Hd hv;have HM:=Hd hm;have HC:=Hd hc;have H:=Hd h;have HL:=Hd hm.len;clear hv hm hc h;go_enter Tryz.func52,Tryz.ntmps52;go_wp2_with fail
 refine (jgw w _ l HV.o (by have:=HL.o;omega) (fun p hp=>by have:=HM.o.size p hp;omega)).mono ?_;rintro e w1 ⟨rfl,hE⟩;rw[H.o];have HE:=Hd hE;clear hE;go_wp2_with fail
 refine (jtK w1 _ l (HV.o.ext HE.o) (by have:=HL.o;omega) (fun p hp=>by have:=HM.o.size p hp;omega)).mono ?_;rintro e w2 ⟨u,rfl,hr⟩;have HR:=Hd hr.rd;have HX:=Hd (HE.o.trans hr.ext);clear hr
 obtain⟨a2,c2,hu⟩:=HR.o.sl
 subst hu;go_wp2_with fail
 refine (ji1 12 (jaP l) (jbR HM.o) (by unfold jaP;rw[List.length_map];have:=HL.o;omega) w2 _ (HC.o.ext HX.o) HR.o).mono ?_;rintro e w3 ⟨k,rfl,hk,hE⟩
 obtain⟨hkA,vk,bk,hkB,_⟩:=hk.open
 have q0:w3.cell? ⟨k,0,none⟩=some (.string (jad 13 (jaP l)).text):=hkB.cell (by rfl);have HE3:=Hd (HX.o.trans hE);clear hk hkB hE;unfold ptrV;go_wp2_with fail
 go_ret2
 exact⟨rfl,HE3.o⟩
theorem jvi(w:World)(v:Value)(l:List Pair)(hc:jch w)(hv:RdP w v l)(h:jaS l=0):Calls Tryz.prog 38 #[v] w fun e w'=>e=.returned (.tuple #[.string (shaB (jaT l).text),.int .i64 0])∧Ext w w':=by
 have hT:=jw5 w v l hc hv h
 obtain⟨a,c,hsl⟩:=hv.sl
 subst hsl
 obtain⟨t,ht⟩:∃ t,t=(jaT l).text:=⟨_,rfl⟩
 rw[←ht]at hT ⊢;have HT:=Hd hT;have HC:=Hd hc;clear hT hc hv ht h;go_enter Tryz.func38,Tryz.ntmps38;go_wp2_with fail
 refine HT.o.mono ?_;rintro e w1 ⟨rfl,hE⟩;have HE:=Hd hE;clear hE;go_wp2_with fail
 refine (of_t _ _ [t] (by simp) (je0 w1 [t] 9) (HC.o.ext (HE.o.alloc _))).mono ?_;rintro e w2 ⟨rfl,hE⟩;rw[jer];have HE2:=Hd ((HE.o.alloc _).trans hE);clear hE;go_wp2_with fail
 go_ret2
 exact⟨rfl,HE2.o⟩
theorem jwn(d:Nat)(a b:ByteArray)(w:World):(Op.equalIn (d+1) 9 (.string a) (.string b)).run Tryz.prog w=.ok (a == b) w:=by
 simp[Op.equalIn,Sem.run_bind,run_underlying Tryz.uStr,Result.andThen,Sem.run_pure]
def jlA(d:Option TypeDesc)(l:List (Bool × TypeId × Nat)):Bool:=match d with | some (.struct fs)=>fs.toList.map (fun f=>(f.name == "_",f.type,f.offset)) == l | _=>false
theorem juC{d:Option TypeDesc}(h:jlA d [(false,9,0),(false,9,1)]=true):∃ f g:Field,d=some (.struct #[f,g])∧f.name ≠ "_"∧f.type=9∧f.offset=0∧g.name ≠ "_"∧g.type=9∧g.offset=1:=by
 cases d with
 | none=>cases h
 | some d =>
  cases d <;> try (cases h;done)
  rename_i fs
  obtain⟨l⟩:=fs
  rcases l with _ |⟨f,_ |⟨g,_ |⟨e,r⟩⟩⟩ <;> simp[jlA]at h
  obtain⟨⟨h1,h2,h3⟩,h4,h5,h6⟩:=h
  exact⟨f,g,rfl,h1,h2,h3,h4,h5,h6⟩
theorem Tryz.entFields:jlA (Tryz.prog.underlying 72) [(false,9,0),(false,9,1)]=true:=by kernel_rfl
theorem Tryz.entHeld:Tryz.prog.stoodInHeld 72=false:=by kernel_rfl
theorem jsH(x y x' y':ByteArray)(w:World):(binOp .neq 72 (.agg #[.string x,.string y]) (.agg #[.string x',.string y'])).run Tryz.prog w=.ok (.bool (!(x == x' && y == y'))) w:=by
 obtain⟨f,g,h0,h1,h2,h3,h4,h5,h6⟩:=juC Tryz.entFields
 have hp1:∀ (u v:Value) w,(part 9 #[u,v] 0).run Tryz.prog w=.ok u w:=fun u v w=>by
  simp[part,Sem.run_bind,Tryz.strAgg,Result.andThen,Sem.run_pure]
 have hp2:∀ (u v:Value) w,(part 9 #[u,v] 1).run Tryz.prog w=.ok v w:=fun u v w=>by
  simp[part,Sem.run_bind,Tryz.strAgg,Result.andThen,Sem.run_pure]
 have he:∀ d,(Op.equalIn (d+2) 72 (.agg #[.string x,.string y]) (.agg #[.string x',.string y'])).run Tryz.prog w=.ok (x == x' && y == y') w:=fun d=>by
  rw[Op.equalIn];simp only[Sem.run_bind,run_underlying h0,Result.andThen];simp[Sem.run_bind,Result.andThen,Sem.run,Tryz.entHeld,h1,h2,h3,h4,h5,h6,hp1,hp2,jwn];cases (x == x')with
  | false=>simp[Sem.run_pure]
  | true =>
   simp[Sem.run_bind,Result.andThen,Sem.run,Tryz.entHeld,h1,h2,h3,h4,h5,h6,hp1,hp2,jwn];cases (y == y') <;> simp[Sem.run_pure]
 have he':(Op.equal 72 (.agg #[.string x,.string y]) (.agg #[.string x',.string y'])).run Tryz.prog w=.ok (x == x' && y == y') w:=he 9998;simp only[binOp,Sem.run_bind,he',Result.andThen,Sem.run_pure]
theorem Tryz.isEntry:jf9 (Tryz.prog.underlying 72)=true:=by kernel_rfl
theorem Tryz.szEntry:(Tryz.prog.info? 72).map (·.size)=some 2:=by kernel_rfl
theorem jcB{w:World}{b o:Nat}{x y:ByteArray}(h1:w.cell? ⟨b,o,none⟩=some (.string x))(h2:w.cell? ⟨b,o+1,none⟩=some (.string y)):(Instr.loadAt 72 (.pointer (some ⟨b,o,none⟩))).run Tryz.prog w=.ok (.agg #[.string x,.string y]) w:=by
 obtain⟨fs,hu⟩:=jfs Tryz.isEntry
 refine jdW (xs:=[.string x,.string y]) hu Tryz.szEntry (fun j v hv=>?_);rw[Addr.add_lit]
 match j,hv with
 | 0,hv=>simp at hv;subst hv;exact h1
 | 1,hv=>simp at hv;subst hv;exact h2
 | j+2,hv=>simp at hv
def eqP(p q:Pair):Bool:=p.1 == q.1 && p.2 == q.2
theorem juy(p q:Pair):eqP p q=true↔p=q:=by
 unfold eqP;rw[jmf,jmf];simp only[Bool.and_eq_true,decide_eq_true_eq];constructor
 ·rintro⟨h1,h2⟩
  obtain⟨a,b⟩:=p
  obtain⟨c,d⟩:=q
  exact Prod.ext h1 h2
 ·rintro rfl;exact⟨rfl,rfl⟩
theorem jlB(x:ByteArray)(r:List ByteArray):(jbf (x :: r))[0]?=some x:=by
 unfold jbf;rw[List.foldl_cons];have h:∀ (r acc:List ByteArray),acc[0]?=some x→(r.foldl addF acc)[0]?=some x:=by
  intro r;induction r with
  | nil=>intro acc h;exact h
  | cons y r ih =>
   intro acc h;rw[List.foldl_cons];refine ih _ ?_;unfold addF;split
   ·exact h
   ·rw[List.getElem?_append_left (List.getElem?_eq_some_iff.1 h).1];exact h
 exact h r _ (by simp[addF,memB])
theorem jiu(T:PT):(jbf (jaI T))[0]?=some T.text:=by
 obtain⟨t,ks⟩:=T
 unfold jaI;exact jlB t _
theorem jji(x y:ByteArray):(x.toList == y.toList)=decide (x=y):=by
 by_cases h:x=y
 ·simp[h]
 ·have h3:¬ x.toList=y.toList:=fun h2=>h (jgP h2)
  simp only[h,decide_false];exact beq_eq_false_iff_ne.2 h3
theorem jca{t:ByteArray}:∀ {ks:List PT},t∈jaK ks↔∃ T∈ks,t∈jaI T
 | []=>by simp[jaK]
 | T :: ks=>by
  unfold jaK;rw[List.mem_append,jca (ks:=ks)];constructor
  ·rintro (h |⟨T',h1,h2⟩)
   ·exact⟨T,List.mem_cons_self,h⟩
   ·exact⟨T',List.mem_cons_of_mem _ h1,h2⟩
  ·rintro⟨T',h1,h2⟩
   rcases List.mem_cons.1 h1 with rfl | h1
   ·exact .inl h2
   ·exact .inr ⟨T',h1,h2⟩
theorem jxt{P:Program}{f:FuncId}{args:Array Value}{w:World}{R R':Value→World→Prop}
  (h:Calls P f args w fun | .returned v,w'=>R v w' | _,_=>False) (h':Calls P f args w fun | .returned v,w'=>R' v w' | _,_=>False) (hi:P.inits.idxOf? f=none) :
  ∃ v w',R v w'∧R' v w':=by
 obtain⟨n,v,w1,e1,r1⟩:=h.done hi
 obtain⟨m,v',w2,e2,r2⟩:=h'.done hi
 have a:=runN_ended e1 m;have b:=runN_ended e2 n;rw[Nat.add_comm,a]at b;injection b with ho hw;injection ho with hv;subst hv hw
 exact⟨_,_,r1,r2⟩
theorem jrB{P:Program}{f:FuncId}{args:Array Value}{w:World}{a b:Value}{R R':World→Prop}
  (h:Calls P f args w fun e w'=>e=.returned a∧R w') (h':Calls P f args w fun e w'=>e=.returned b∧R' w') (hi:P.inits.idxOf? f=none):a=b:=by
 obtain⟨v,w',h1,h2⟩:=jxt (R:=fun v _=>v=a) (R':=fun v _=>v=b)
  (h.mono fun e w' hh=>by obtain⟨rfl,_⟩:=hh;rfl) (h'.mono fun e w' hh=>by obtain⟨rfl,_⟩:=hh;rfl) hi
 exact h1.symm.trans h2
theorem jqA{n m:jaf}(h:n.V=m.V):n=m:=by
 obtain⟨k,p,v,rs⟩:=n
 obtain⟨k',p',v',rs'⟩:=m
 unfold jaf.V jaf.cells at h;injection h with h;have h:=congrArg Array.toList h;simp only[List.toList_toArray,List.cons.injEq,Value.int.injEq,Value.string.injEq]at h
 obtain⟨⟨_,h1⟩,h2,h3,h4⟩:=h
 have h5:rs=rs':=by
  have:∀ a b:List ByteArray,a.map Value.string=b.map Value.string→a=b:=fun a=>by
   induction a with
   | nil=>intro b hb;cases b with | nil=>rfl | cons x y=>cases hb
   | cons x r ih =>
    intro b hb;cases b with
    | nil=>cases hb
    | cons y t =>
     simp only[List.map_cons,List.cons.injEq,Value.string.injEq]at hb;rw[hb.1,ih t hb.2]
  exact this _ _ h4
 have h1:k=k':=by omega
 subst h1 h2 h3 h5;rfl
theorem jkJ(w:World){f g:Nat}{n m:jaf}(hn:jcz (InlD f) n)(hm:jcz (InlD g) m)(h:ja5 n=ja5 m):n=m:=by
 have h1:=jhG (inlP f) w n hn;have h2:=jhG (inlP g) w m hm;rw[h]at h1
 have:=jrB h1 h2 (by kernel_rfl)
 injection this with this
 have:=congrArg Array.toList this
 simp only[List.toList_toArray,List.cons.injEq]at this;exact jqA this.1
theorem joo{T:PT}(h:T.text.size < 32):refB T.text=T.text:=by unfold refB;rw[if_pos h]
theorem jjx{T:PT}(h:¬ T.text.size < 32):refB T.text=jaO (shaB T.text):=by unfold refB;rw[if_neg h]
theorem jn0{f:Nat}{T:PT}{n:jaf}(h:jeE f T n)(hs:T.text.size < 32):jaI T=[T.text]:=by
 have hk:=h.small hs
 obtain⟨x,ks⟩:=T
 have hk:ks=[]:=hk;subst hk;unfold jaI jaK;rfl
theorem jmO{T:PT}(h:¬ T.text.size < 32):jaK (jbZ T)=jaI T:=by
 unfold jbZ;rw[if_neg h];simp[jaK]
theorem jgj(T:PT):T.text∈jaI T:=by cases T;unfold jaI;exact List.mem_cons_self
theorem jcf{l:List Pair}(h:jaQ 0 l):l.length≤1:=by
 rcases Nat.lt_or_ge l.length 2 with h2 | h2
 ·omega
 ·obtain⟨a,ha⟩:∃ a,l[0]?=some a:=⟨_,List.getElem?_eq_getElem (by omega)⟩
  obtain⟨b,hb⟩:∃ b,l[1]?=some b:=⟨_,List.getElem?_eq_getElem (by omega)⟩
  have hlt:=jct h.rise (by omega) ha hb
  have:=(h.size b (List.mem_of_getElem? hb)).1
  rw[show b.l=[]from List.eq_nil_of_length_eq_zero (by show b.1.size=0;omega)]at hlt;exact absurd hlt (not_lt_nil _)
theorem jcK{a b:ByteArray}(h:a.data.toList=b.data.toList):a=b:=by
 obtain⟨⟨a⟩⟩:=a
 obtain⟨⟨b⟩⟩:=b
 simp only at h;subst h;rfl
def jcP(r:ByteArray):Option ByteArray:=(cutN r).bind (jfv r)
def jaV(n:jaf):List ByteArray:=n.refs.filterMap jcP
theorem jf7:jcP ⟨#[]⟩=none:=by
 unfold jcP cutN;rw[dif_neg (by decide)];rfl
theorem jfj{h:ByteArray}(hs:h.size=32):jcP (jaO h)=some h:=by
 obtain⟨r,h1,h2⟩:=jf8 h hs
 unfold jcP;rw[h1];exact h2
theorem jd3{I:ByteArray→jaf→Prop}(HI:InlP I){r:ByteArray}{m:jaf}(h:I r m):jcP r=none:=by
 obtain⟨q,h1,h2⟩:=HI.nohash r m h
 unfold jcP;rw[h1];exact h2
theorem jks{f:Nat}{T:PT}{n:jaf}(h:jeE f T n):(jcP (refB T.text)).toList=(jbZ T).map fun k=>shaB k.text:=by
 by_cases hs:T.text.size < 32
 ·rw[jd3 (inlP (f+1)) (h.may.2 hs)]
  unfold jbZ;rw[if_pos hs];rfl
 ·rw[jjx hs,jfj (jb3 _)]
  unfold jbZ;rw[if_neg hs];rfl
theorem jd4(k:Nat):(jax k).filterMap jcP=[]:=by
 unfold jax;rw[List.filterMap_eq_nil_iff];intro r hr;rw[List.eq_of_mem_replicate hr,jf7]
theorem jhF{α:Type}(g:α→ByteArray)(k:α→List PT):∀ L:List α,(∀ i∈L,(jcP (g i)).toList=(k i).map fun k=>shaB k.text)→(L.map g).filterMap jcP=(L.flatMap k).map fun k=>shaB k.text
 | [],_=>rfl
 | x :: L,h=>by
  rw[List.map_cons,List.flatMap_cons,List.map_append, ←jhF g k L fun i hi=>h i (List.mem_cons_of_mem _ hi), ←h x List.mem_cons_self,List.filterMap_cons];cases jcP (g x) <;> rfl
theorem jeT(f:Nat)(l:List Pair)(h:jaQ f l):jaV (jau (jad f) l)=(jaw (jad f) l).map fun k=>shaB k.text:=by
 unfold jaV
 by_cases h0:l.length=0
 ·have e1:jau (jad f) l=jbb:=by unfold jau;rw[if_pos h0]
  have e2:jaw (jad f) l=[]:=by unfold jaw;rw[if_pos (by omega)]
  rw[e1,e2];exact jd4 16
 by_cases h1:l.length=1
 ·have e1:jau (jad f) l=⟨1,(l.getD 0 pd).1,(l.getD 0 pd).2,jax 16⟩:=by unfold jau;rw[if_neg h0,if_pos h1]
  have e2:jaw (jad f) l=[]:=by unfold jaw;rw[if_pos (by omega)]
  rw[e1,e2];exact jd4 16
 have h2:2≤l.length:=by omega
 cases f with
 | zero=>have:=jcf h;omega
 | succ f =>
  by_cases hk:0 < comK l
  ·have hcom:=jbY h h2
   have hok:jaQ f (jam (comK l) l):=(jcF (comK l) h (fun p hp q hq=>(hcom p hp).1.trans (hcom q hq).1.symm) (fun p hp=>(hcom p hp).2)).mono (by omega);have hne:jam (comK l) l≠[]:=fun e=>by have:=jaE (comK l) l;rw[e]at this;simp at this;omega
   have hst:=(good f _ hok).2.1 hne;have e1:jau (jad (f+1)) l=⟨2,(l.getD 0 pd).1.extract 0 (comK l),⟨#[]⟩,refB (jad (f+1) (jam (comK l) l)).text :: jax 15⟩:=by unfold jau;rw[if_neg h0,if_neg h1,if_pos hk]
   have e2:jaw (jad (f+1)) l=jbZ (jad (f+1) (jam (comK l) l)):=by unfold jaw;rw[if_neg (by omega),if_pos hk]
   rw[e1,e2, ←jks hst];show (refB (jad (f+1) (jam (comK l) l)).text :: jax 15).filterMap jcP=_;rw[List.filterMap_cons,jd4];cases jcP (refB (jad (f+1) (jam (comK l) l)).text) <;> rfl
  ·have e1:(jau (jad (f+1)) l).refs=(List.range 16).map fun i=>if (cutL i l).length=0 then ⟨#[]⟩else refB (jad (f+1) (jam 1 (cutL i l))).text:=by unfold jau;rw[if_neg h0,if_neg h1,if_neg hk]
   have e2:jaw (jad (f+1)) l=(List.range 16).flatMap fun i=>if (cutL i l).length=0 then []else jbZ (jad (f+1) (jam 1 (cutL i l))):=by unfold jaw;rw[if_neg (by omega),if_neg hk]
   rw[e1,e2];refine jhF _ _ _ fun i hi=>?_
   by_cases hc:(cutL i l).length=0
   ·rw[if_pos hc,if_pos hc,jf7];rfl
   ·rw[if_neg hc,if_neg hc]
    exact jks ((good f _ (jei i h)).2.1 (fun e=>by have:=jaE 1 (cutL i l);rw[e]at this;simp at this;omega))
theorem jjX{f:Nat}{l:List Pair}(h:jaQ f l){K:PT}(hK:K∈jaw (jad f) l):∃ g m,f=g+1∧K=jad (g+1) m∧jaQ g m∧32≤K.text.size:=by
 have held:∀ {T:PT},K∈jbZ T→K=T∧32≤K.text.size:=fun {T} h=>by
  unfold jbZ at h;split at h
  ·cases h
  ·rw[List.mem_singleton]at h;subst h;exact⟨rfl,by omega⟩
 unfold jaw at hK
 by_cases h1:l.length≤1
 ·rw[if_pos h1]at hK;cases hK
 rw[if_neg h1]at hK;cases f with
 | zero=>have:=jcf h;omega
 | succ f =>
  by_cases hk:0 < comK l
  ·rw[if_pos hk]at hK
   have hcom:=jbY h (by omega);have hok:jaQ f (jam (comK l) l):=(jcF (comK l) h (fun p hp q hq=>(hcom p hp).1.trans (hcom q hq).1.symm) (fun p hp=>(hcom p hp).2)).mono (by omega)
   obtain⟨e,hs⟩:=held hK
   exact⟨f,_,rfl,e,hok,hs⟩
  ·rw[if_neg hk]at hK
   obtain⟨i,_,hK⟩:=List.mem_flatMap.1 hK
   split at hK
   ·cases hK
   ·obtain⟨e,hs⟩:=held hK
    exact⟨f,_,rfl,e,jei i h,hs⟩
def jbW(t:ByteArray)(n:jaf):Prop:=t=ja5 n∧∃ g,jcz (InlD g) n
structure joF(L B:List ByteArray):Prop where
 node:∀ t∈L,∃ n,jbW t n∧∀ h∈jaV n,∃ t'∈L,h=shaB t'
 told:∀ t∈B,32≤t.size∧∃ t'∈L,∃ n,jbW t' n∧shaB t∈jaV n
theorem jwf:∀ (f:Nat) (l:List Pair),jaQ f l→joF (jaI (jad (f+1) l)) (jaK (jaw (jad f) l)):=by
 intro f;induction f with
 | zero =>
  intro l h;have e2:jaw (jad 0) l=[]:=by have:=jcf h;unfold jaw;rw[if_pos (by omega)]
  have eT:jaI (jad (0+1) l)=[ja5 (jau (jad 0) l)]:=by
   show jaI (.mk (ja5 (jau (jad 0) l)) (jaw (jad 0) l))=_;rw[jaI,e2];simp[jaK]
  have hh:=jeT 0 l h;rw[e2]at hh;rw[eT,e2]
  refine⟨fun t ht=>?_,fun t ht=>by simp[jaK]at ht⟩
  rw[List.mem_singleton]at ht
  exact⟨_,⟨ht,0,(good 0 l h).1⟩,fun x hx=>by rw[hh]at hx;cases hx⟩
 | succ f ih =>
  intro l h;have eT:jaI (jad (f+1+1) l)=ja5 (jau (jad (f+1)) l) :: jaK (jaw (jad (f+1)) l):=by
   show jaI (.mk (ja5 (jau (jad (f+1)) l)) (jaw (jad (f+1)) l))=_;rw[jaI]
  have hh:=jeT (f+1) l h;have hroot:jbW (ja5 (jau (jad (f+1)) l)) (jau (jad (f+1)) l):=⟨rfl,f+1,(good (f+1) l h).1⟩;have hsub:∀ {K:PT},K∈jaw (jad (f+1)) l→∀ t∈jaI K,t∈jaI (jad (f+1+1) l):=fun {K} hK t ht=>by
   rw[eT];exact List.mem_cons_of_mem _ (jca.2 ⟨K,hK,ht⟩)
  have hkid:∀ {K:PT},K∈jaw (jad (f+1)) l→∃ m,K=jad (f+1) m∧jaQ f m∧32≤K.text.size:=fun {K} hK=>by
   obtain⟨g,m,e,h1,h2,h3⟩:=jjX h hK
   obtain rfl:f=g:=by omega
   exact⟨m,h1,h2,h3⟩
  constructor
  ·intro t ht
   rw[eT]at ht;rcases List.mem_cons.1 ht with rfl | ht
   ·refine⟨_,hroot,fun x hx=>?_⟩
    rw[hh]at hx
    obtain⟨K,hK,rfl⟩:=List.mem_map.1 hx
    exact⟨_,hsub hK _ (jgj K),rfl⟩
   ·obtain⟨K,hK,ht⟩:=jca.1 ht
    obtain⟨m,rfl,hm,_⟩:=hkid hK
    obtain⟨n,h1,h2⟩:=(ih m hm).node t ht
    exact⟨n,h1,fun x hx=>by obtain⟨t',ht',e⟩:=h2 x hx;exact⟨t',hsub hK _ ht',e⟩⟩
  ·intro t ht
   obtain⟨K,hK,ht⟩:=jca.1 ht
   obtain⟨m,rfl,hm,h32⟩:=hkid hK
   have eK:jaI (jad (f+1) m)=ja5 (jau (jad f) m) :: jaK (jaw (jad f) m):=by
    show jaI (.mk (ja5 (jau (jad f) m)) (jaw (jad f) m))=_;rw[jaI]
   rw[eK]at ht;rcases List.mem_cons.1 ht with rfl | ht
   ·refine⟨h32,_,?_,_,hroot,?_⟩
    ·rw[eT];exact List.mem_cons_self
    ·rw[hh];exact List.mem_map.2 ⟨_,hK,rfl⟩
   ·obtain⟨h1,t',ht',n,h2,h3⟩:=(ih m hm).told t ht
    exact⟨h1,t',hsub hK _ ht',n,h2,h3⟩
theorem jgV(l:List ByteArray):(jbf l).Nodup:=by
 unfold jbf
 have:∀ (l acc:List ByteArray),acc.Nodup→(l.foldl addF acc).Nodup:=fun l=>by
  induction l with
  | nil=>exact fun _ h=>h
  | cons x r ih =>
   intro acc h;rw[List.foldl_cons];refine ih _ ?_;unfold addF;split
   ·exact h
   ·rename_i hn
    have hm:x ∉ acc:=fun hx=>hn ((jfl acc x).2 hx);rw[List.nodup_append]
    exact⟨h,by simp,fun a ha b hb e=>by simp at hb;subst hb;subst e;exact hm ha⟩
 exact this l [] (by simp)
structure jv3(L:List ByteArray)(top:ByteArray):Prop where
 head:L[0]?=some top
 nodup:L.Nodup
 node:∀ t∈L,∃ n,jbW t n∧∀ h∈jaV n,∃ t'∈L,h=shaB t'
 told:∀ (i:Nat) t,L[i+1]?=some t→32≤t.size∧∃ t'∈L,∃ n,jbW t' n∧shaB t∈jaV n
theorem jlb{l:List Pair}(h:jaS l=0):jv3 (jbf (jaI (jaT l))) (jaT l).text:=by
 have hc:=jwf 12 (jaP l) (jbR (jaM h));have eT:jaI (jaT l)=(jaT l).text :: jaK (jaw (jad 12) (jaP l)):=by
  show jaI (.mk (ja5 (jau (jad 12) (jaP l))) (jaw (jad 12) (jaP l)))=_;rw[jaI];rfl
 have hc:joF (jaI (jaT l)) (jaK (jaw (jad 12) (jaP l))):=hc;have hnd:=jgV (jaI (jaT l))
 refine⟨jiu _,hnd,fun t ht=>?_,fun i t ht=>?_⟩
 ·obtain⟨n,h1,h2⟩:=hc.node t ((jbm _ _).1 ht)
  exact⟨n,h1,fun x hx=>by obtain⟨t',ht',e⟩:=h2 x hx;exact⟨t',(jbm _ _).2 ht',e⟩⟩
 ·have hm:=(jbm _ _).1 (List.mem_of_getElem? ht)
  have hne:t≠(jaT l).text:=fun e=>by
   have h0:=jiu (jaT l)
   obtain⟨h1,e1⟩:=List.getElem?_eq_some_iff.1 ht
   obtain⟨h2,e2⟩:=List.getElem?_eq_some_iff.1 h0
   exact List.pairwise_iff_getElem.1 hnd 0 (i+1) h2 h1 (by omega) (e2.trans (e.symm.trans e1.symm))
  rw[eT]at hm;rcases List.mem_cons.1 hm with e | hm
  ·exact absurd e hne
  ·obtain⟨h1,t',ht',n,h2⟩:=hc.told t hm
   exact⟨h1,t',(jbm _ _).2 ht',n,h2⟩
theorem jd6(w:World){t:ByteArray}{n m:jaf}(h:jbW t n)(k:jbW t m):n=m:=by
 obtain⟨h1,f,h2⟩:=h
 obtain⟨k1,g,k2⟩:=k
 exact jkJ w h2 k2 (h1.symm.trans k1)
end
section
open Go Go.RowKit
section mixf
variable {P:Program} {l:List Oper} {E:World→World→Prop}
variable {R:List Nat→Act→World→Prop} {ord done:List Nat} {a:Act} {w:World} {k:Nat} {o:Oper}
end mixf
end
section
open Go Go.RowKit
end
end Go.Proofs.YtpaacnhboilkkaaGreatDoor
