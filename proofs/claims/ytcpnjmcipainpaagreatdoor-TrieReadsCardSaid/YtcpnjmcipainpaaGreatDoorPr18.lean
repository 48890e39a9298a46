/- Lemmas; each is under no condition but those that it states. -/
import Derived.Test.YtcpnjmcipainpaaGreatDoorPr17
namespace Go.Proofs.YtcpnjmcipainpaaGreatDoor
set_option linter.unusedSimpArgs false
set_option linter.unusedVariables false
set_option maxRecDepth 100000
set_option maxHeartbeats 16000000
open Go Go.RowKit
def ksK(B:List Pair->PT)(l:List Pair)(k:Nat):List PT:=(List.range k).flatMap fun i=>if (cutL i l).length=0 then []else jbP (B (jal 1 (cutL i l)))
theorem jhg(B:List Pair->PT)(l:List Pair)(k:Nat):ksK B l (k+1)=ksK B l k++(if (cutL k l).length=0 then []else jbP (B (jal 1 (cutL k l)))):=by
 unfold ksK;rw[List.range_succ,List.flatMap_append];simp
def jwo(w:World)(bn:Nat)(B:List Pair->PT)(l:List Pair)(rs:List vB)(i:Value)(wr:World):Prop:=∃ k:Nat,k<=16/\i=.int .i64 k/\∃ u bs,jds w wr w.heap.size bn ⟨#[]⟩ (ksK B l k) u bs/\bs.length<=k/\Blk wr bn (.cells (brN rs k).cells.toArray 144)
theorem jbv{P:Program}{o:Oper}{a:Act}{w:World}{K:Act->World->Prop}{Q:Exit->Act->World->Prop}{f:FuncId}{args:Array Value}(hv:(execOp a.eval o).run P w=.ok (.enter f args) w)(h:Calls P f args w (fun e w2=>∃ v,e=.returned v/\K (a.put o.dst v) w2)):o.wp P a w K Q:=by
 unfold Oper.wp;rw[hv];exact h.mono fun e w2 ⟨v,he,hk⟩=>by subst he;exact hk
theorem jkC(f:Nat)(l:List Pair)(h2:2<=l.length)(hln:l.length<=1000)(hok:jaA (f+1) l)(hk:¬ 0 < comK l)(HB:∀ i,(cutL i l).length≠0->jho (jal 1 (cutL i l)) (jac (f+1) (jal 1 (cutL i l)))):jho l (jac (f+1+1) l):=by
 intro w v hc hv
 obtain⟨a,ha⟩:∃ a,l[0]?=some a:=⟨_,List.getElem?_eq_getElem vO⟩
 obtain⟨z,hz⟩:∃ z,l[l.length - 1]?=some z:=⟨_,List.getElem?_eq_getElem vO⟩
 have ga:l.getD 0 pd=a:=by rw[List.getD_eq_getElem?_getD,ha];rfl
 have gz:l.getD (l.length - 1) pd=z:=by rw[List.getD_eq_getElem?_getD,hz];rfl
 obtain⟨sa1,sa2,sa3,sa4,sa5⟩:=hok.size a (List.mem_of_getElem? ha)
 obtain⟨sz1,sz2,sz3,sz4,sz5⟩:=hok.size z (List.mem_of_getElem? hz)
 have hgood:=(good (f+1) l hok).1;have hrd:=hv;rcases hv with⟨_,_,_,h0⟩ |⟨b,o,c,rfl,hb,hcl,hcell⟩
 ·rw[h0]at h2;simp at h2
 obtain⟨q1,q1v⟩:=hcell 0 a ha
 rw[Nat.zero_mul,Nat.add_zero]at q1 q1v
 obtain⟨q2,_⟩:=hcell (l.length - 1) z hz
 obtain⟨kk,hkk⟩:=vE (comK l)
 have hkc:kk=jak a.1 z.1:=by rw[hkk];unfold comK;rw[ga,gz]
 obtain⟨x,y⟩:=a
 obtain⟨xb,yb⟩:=z
 simp only at sa1 sa2 sa3 sa4 sa5 sz1 sz2 sz3 sz4 sz5 q1 q1v q2 hkc
 obtain⟨rs,hrs⟩:=vE ((List.range 16).map fun i=>if (cutL i l).length=0 then (⟨#[]⟩:vB)else refB (jac (f+1) (jal 1 (cutL i l))).text)
 obtain⟨val,hval⟩:=vE (if x.size=0 then y else (⟨#[]⟩:vB))
 have hn:jav (jac (f+1)) l=⟨3,⟨#[]⟩,val,rs⟩:=by unfold jav;rw[if_neg vO,if_neg vO,if_neg hk,ga,hrs,hval]
 rw[hn]at hgood;have ht:jac (f+1+1) l=.mk (jaN ⟨3,⟨#[]⟩,val,rs⟩) (ksK (jac (f+1)) l 16):=by
  show PT.mk (jaN (jav _ l)) (jaB _ l)=_;rw[hn];unfold jaB;rw[if_neg vO,if_neg hk];rfl
 obtain⟨T,hT⟩:=vE (jac (f+1+1) l)
 rw[<-hT]at ht ⊢;have hrl:rs.length=16:=by rw[hrs];simp
 have hri:∀ i,i < 16->rs[i]?=some (if (cutL i l).length=0 then (⟨#[]⟩:vB)else refB (jac (f+1) (jal 1 (cutL i l))).text):=fun i hi=>by
  rw[hrs,List.getElem?_map,List.getElem?_range hi];rfl
 have hkid:∀ i,(cutL i l).length≠0->juG (jac (f+1) (jal 1 (cutL i l))):=fun i hi =>
  (((good f _ (jeb i hok)).2.1 (fun e=>by have:=jaH 1 (cutL i l);rw[e]at this;simp at this;omega)).kid)
 have hsz:∀ p∈l,p.1.size<=1000000:=fun p hp=>by have:=(hok.size p hp).2.1;omega
 have hcs:∀ i,∀ p∈cutL i l,1<=p.1.size/\p.1.size<=1000000:=fun i p hp=>by
  obtain⟨hm,a',r',e',_⟩:=jbR hp
  exact⟨by show 1<=p.1.data.toList.length;rw[show p.1.data.toList=a' :: r' from e'];simp,hsz p hm⟩
 have hcn:∀ i,(cutL i l).length<=1000:=fun i=>Nat.le_trans (List.length_filter_le _ _) hln;have c0:((l.length:Int) == 0)=false:=by simp;exact fun e=>by rw[e]at h2;simp at h2
 have c1:¬(l.length:Int)=0:=by omega
 have c2:((l.length:Int) == 1)=false:=by simp;omega
 have c3:¬(l.length:Int)=1:=by omega
 have c4:(0:Int)<=(l.length:Int) - 1:=by omega
 have c5:(l.length:Int) - 1 < (l.length:Int):=by omega
 have c6:((l.length:Int) - 1).toNat=l.length - 1:=by omega
 have c7:(0:Int) < (l.length:Int):=by omega
 have d7:0 < l.length:=by omega
 rw[<-hkk]at hk;have d0:¬ 0 < kk:=hk;have e0:¬(0:Int) < (kk:Int):=by omega
 have HT:=Hd ht;have Q1:=Hd q1;have Q1V:=Hd q1v;have Q2:=Hd q2;have HKK:=Hd hkc;have HG:=Hd hgood;have HRD:=Hd hrd;have HSZ:=Hd hsz;have HCS:=Hd hcs;have HCN:=Hd hcn;have HKID:=Hd hkid;have HRI:=Hd hri;have HRL:=Hd hrl;have HVAL:=Hd hval;have HBB:=Hd HB;have HC:=Hd hc;clear hc ha hz ga gz hok hgood hrd hcell q1 q1v q2 hkk hkc hsz hcs hcn hkid hri hrl hval hrs hn ht hT HB sa3 sz3
 obtain⟨W1,hW1⟩:=vE (w.alloc (.cells #[.string ⟨#[]⟩,.slice none 0 0] 159))
 go_enter Tryz.func78,Tryz.ntmps78;go_wp2_with (refine jah Tryz.allocNode rfl rfl ?_;intro W3 hB3 hE3;refine jag (vs:=jar.cells) rfl rfl rfl rfl hB3 rfl Tryz.szNode (jad.one _) ?_;intro W4 hB4 hE4;simp only[World.size_alloc]at hB4 hE4)
 have hE34:Ext W1 W4:=by
  rw[<-hW1]at hE3;exact hE3.trans' hE4 (fun x hx e=>by have e:x=w.heap.size+1:=e;rw[hW1,World.size_alloc]at hx;omega)
 have hh:=js4 w W1 W4 (w.heap.size+1) hW1 hE34 (by rw[hW1,World.size_alloc]) hB4.lt;have HH0:=Hd hh;have HB4:=Hd hB4;have HX:=Hd hh.row.ext;clear hE3 hE4 hB3 hW1 hB4 hE34 hh;refine jai [0,1,2,3,4,5,6,7,8,9,10,11,12,13] Ext ExtR ExtT vY vY vY ?_;iterate 3 refine vK ?_
 refine qKL ⟨b,o,none⟩ _ rfl (fun w1 h1=>jab Tryz.uStr rfl (jaa (jaa (by exact Q1.o) (HX.o.trans (jaj _))) h1)) ?_;refine vS ?_;iterate 6 refine vK ?_
 refine qKL ⟨b,o+(l.length - 1) * 2,none⟩ _ rfl (fun w1 h1=>jab Tryz.uStr rfl (jaa (jaa (by exact Q2.o) (HX.o.trans (jaj _))) h1)) ?_;refine vS ?_;refine qKC _ 124 #[.string x,.string xb] (.int .i64 (kk:Nat)) rfl (fun w1=>jay (vX 124) vY) (fun w1 h1=>by rw[HKK.o];exact (jfa w1 x xb vO vO).mono (fun e w2 ⟨h1,n,h2⟩=>⟨h1,by rw[h2];exact (ExtR w1).drewN n⟩)) ?_;refine vS ?_;iterate 2 refine vK ?_
 refine qKE (fun w5 he=>?_);have hX5:=(jaj W4).trans he;have HH5:=Hd (HH0.o.ext hX5);have HB5:=Hd (HB4.o.keeps hX5 (fun h=>h));have HX:=Hd (HX.o.trans hX5);clear he hX5 HH0 HB4;have q0:=HB5.o.cell (i:=0) (v:=.int .i64 0) vF;have f0:w5.frozen? ⟨w.heap.size+1,0,none⟩=false:=HB5.o.frozen;have K6:=jae.oneSet w5 ⟨w.heap.size+1,0,none⟩ (.int .i64 3);have HH6:=Hd (HH5.o.other K6);have HB6:Hid (Blk (w5.setCell ⟨w.heap.size+1,0,none⟩ (.int .i64 3)) (w.heap.size+1) (.cells (brN rs 0).cells.toArray 144)):=Hd (HB5.o.set_same (i:=0) (.int .i64 3));clear K6 HB5 HH5 HX;go_wp2_with fail
 go_loopw [11] (fun i wr=>jwo w (w.heap.size+1) (jac (f+1)) l rs i wr) (fun i _=>16 - (intOf i).toNat)
 case atStart=>exact⟨0,by omega,rfl,_,[],HH6.o,by simp,HB6.o⟩
 case round =>
  obtain⟨k,hk16,rfl,u,bs,hH,hbs,hB⟩:=hrel
  obtain⟨au,cu,hu⟩:=hH.row.sl
  subst hu;have HH:=Hd hH;have HB:=Hd hB;have HX:=Hd hH.row.ext;clear hH hB
  by_cases hlt:k < 16
  ·have b1:(k:Int) < 16:=by omega
   have hwb:=HH.o.ml;have QI:=Hd (show (wr.alloc (.cells #[.int .i64 (k:Int)] 3)).cell? ⟨wr.heap.size,0,none⟩=some (.int .i64 (k:Int))from(Blk.new wr _).cell vF);have hno:=jvH HH.o.row;have hwp:w.heap.size < wr.heap.size:=HH.o.blk.lt;have NF:=Hd (show ¬(wr.heap.size=w.heap.size\/wr.heap.size=w.heap.size+1\/(Value.slice au bs.length cu).ownBlock=some wr.heap.size)from fun h=>by
    rcases h with h | h | h
    ·omega
    ·omega
    ·exact hno h)
   clear hno;go_wp2_with fail
   refine jaD [0,1,2,3,7,4,5,6,8,9] [4,5,6,9] Ext (jae (fun x=>x=w.heap.size\/x=w.heap.size+1\/(Value.slice au bs.length cu).ownBlock=some x)) ExtR ExtT (fun x y z h k=>jae.trans h k) (fun x y h=>h.mono (fun _ _ h=>h.elim)) vY vY vY ?_;refine qDL ⟨wr.heap.size,0,none⟩ _ rfl (fun w2 h2=>jab Tryz.uInt rfl (jaw (by exact QI.o) h2 (by exact NF.o))) ?_;refine vS ?_;iterate 4 refine vD ?_
   refine qDH _ rfl (fun w1 he K hK=>?_);have hX1:=(((ExtR wr).alloc (.cells #[.int .i64 (k:Int)] 3)).trans (jaj _)).trans he;have hI1:=jaa (jaa QI.o (jaj _)) he;refine jbv (jay (vX 127) vY) ((jw5 w1 _ wr.heap.size k l (HRD.o.ext (HX.o.trans hX1)) vO HSZ.o vO hI1).mono ?_);rintro e w2 ⟨v2,n2,rfl,hr2⟩;have HR2:=Hd hr2.rd;have HX2:=Hd (hX1.trans hr2.ext)
   refine⟨_,rfl,hK _ _ (hr2.ext.mono (fun _ _ h=>h.elim)) ?_⟩
   obtain⟨a2,c2,hv2⟩:=hr2.rd.sl
   subst hv2;clear hK K he hX1 hI1 hr2;refine vS ?_;refine qDH _ rfl (fun w3 he K hK=>?_);refine jbv (jay (vX 126) vY) ((jlO w3 _ 1 (cutL k l) (HR2.o.ext he) (by have:=HCN.o k;omega) (HCS.o k)).mono ?_);rintro e w4 ⟨v4,rfl,hr4⟩;have HR4:=Hd hr4.rd;have HX4:=Hd ((HX2.o.trans he).trans hr4.ext)
   refine⟨_,rfl,hK _ _ (hr4.ext.mono (fun _ _ h=>h.elim)) ?_⟩
   obtain⟨a4,c4',hv4⟩:=hr4.rd.sl
   subst hv4;clear hK K he hr4 HR2 HX2;refine vS ?_;refine qDH _ rfl (fun w5' he K hK=>?_);have HX5:=Hd (HX4.o.trans he);have HR5:=Hd (HR4.o.ext he);have HH5:=Hd (HH.o.ext HX5.o);have hC5:=HC.o.ext (HX.o.trans HX5.o)
   obtain⟨rk,hrk⟩:=vE (if (cutL k l).length=0 then (⟨#[]⟩:vB)else refB (jac (f+1) (jal 1 (cutL k l))).text)
   refine jbv (f:=125) (args:=#[ptrV w.heap.size,.slice a4 (jal 1 (cutL k l)).length c4']) (jay (vX 125) vY) ((show Calls _ _ _ _ (fun e w'=>∃ u' bs',e=.returned (.string rk)/\jds w w' w.heap.size (w.heap.size+1) ⟨#[]⟩ (ksK (jac (f+1)) l (k+1)) u' bs'/\bs'.length<=bs.length+1/\Ext w w'/\jae (fun x=>x=w.heap.size\/(Value.slice au bs.length cu).ownBlock=some x) w5' w')from ?hold).mono ?_)
   case hold =>
    rw[jhg]
    by_cases hc0:(cutL k l).length=0
    ·rw[hrk,if_pos hc0,if_pos hc0,List.append_nil,jaH,hc0]
     refine (js6 w5' w.heap.size a4 c4').mono ?_;rintro e w6 ⟨rfl,rfl⟩
     exact⟨_,bs,rfl,HH5.o,by omega,HH5.o.row.ext,jae.refl _ _⟩
    ·rw[hrk,if_neg hc0,if_neg hc0]
     exact jup hC5 HH5.o vO _ (jal 1 (cutL k l)) HR5.o (fun e=>hc0 (by have:=jaH 1 (cutL k l);rw[e]at this;simpa using this.symm)) (by rw[jaH];have:=HCN.o k;omega) _ (HKID.o k hc0) (HBB.o k hc0 w5' _ hC5 HR5.o)
   rintro e w6 ⟨u6,bs6,rfl,h6,hb6,hE6,hk6⟩
   refine⟨_,rfl,hK _ _ (hk6.mono (fun x _ h=>h.elim .inl (fun h=>.inr (.inr h)))) ?_⟩
   have hB6:=(HB.o.keeps HX5.o (fun h=>h)).keeps hk6 (fun h=>by
    rcases h with h | h
    ·omega
    ·exact HH.o.mb h)
   have HB6:=Hd hB6;have HH6:=Hd h6;have HRK:=Hd ((HRI.o k hlt).trans (by rw[<-hrk]));clear hK K he h6 hE6 hk6 hB6 hC5 hrk HR4 HR5 HH5;refine vS ?_
   refine vD ?_
   refine qDH _ rfl (fun w7 he K hK=>?_);have hB7:=HB6.o.keeps he (fun h=>h)
   obtain⟨old,q7⟩:∃ v,w7.cell? ⟨w.heap.size+1,3+k,none⟩=some v:=⟨_,hB7.cellL (List.getElem?_eq_getElem (by rw[jad.cells_len _ (jpG HRL.o hk16)];omega))⟩
   have f7:w7.frozen? ⟨w.heap.size+1,3+k,none⟩=false:=hB7.frozen;have hB8:=hB7.set_same (i:=3+k) (.string rk);rw[show (brN rs k).cells.toArray.setIfInBounds (3+k) (.string rk)=((brN rs k).cells.set (3+k) (.string rk)).toArray by simp,jpH HRL.o hlt rk HRK.o]at hB8;have HB8:=Hd hB8;have K8:=jae.oneSet w7 ⟨w.heap.size+1,3+k,none⟩ (.string rk);have HH8:=Hd ((HH6.o.ext he).other K8);have HD8:=Hd (K8.mono (G:=fun x=>x=w.heap.size\/x=w.heap.size+1\/(Value.slice au bs.length cu).ownBlock=some x) (fun x _ e=>.inr (.inl e)));clear he hB7 hB8 K8 HB6 HH6;go_simp;refine hK _ _ HD8.o ?_;clear hK K q7 f7;refine qDE (fun w9 he=>?_);have HH9:=Hd (HH8.o.ext he);have HB9:=Hd (HB8.o.keeps he (fun h=>h));clear he HH8 HB8 HD8;go_wp2_with fail
   go_roundw
   case rel=>exact⟨k+1,by omega,by go_num,u6,bs6,HH9.o,by omega,HB9.o⟩
   case measure=>simp[intOf];omega
  ·have hk16':k=16:=by omega
   subst hk16';have e16:brN rs 16=⟨3,⟨#[]⟩,⟨#[]⟩,rs⟩:=by unfold brN jam;rw[List.take_of_length_le (by have:=HRL.o;omega)];simp
   have hB:=HB.o;rw[e16]at hB;have q1:=jaa Q1.o HX.o
   by_cases hx0:x.size=0
   ·have hxe:=jbh hx0
    have hv:val=y:=by rw[HVAL.o,if_pos hx0]
    have q1v:=jaa Q1V.o HX.o;subst hxe;have q2:wr.cell? ⟨w.heap.size+1,2,none⟩=some (.string ⟨#[]⟩):=hB.cellL vF;have f2:wr.frozen? ⟨w.heap.size+1,2,none⟩=false:=hB.frozen;have hB2:=hB.set_same (i:=2) (.string y);rw[show (jad.cells ⟨3,⟨#[]⟩,⟨#[]⟩,rs⟩).toArray.setIfInBounds 2 (.string y)=(jad.cells ⟨3,⟨#[]⟩,y,rs⟩).toArray by simp[jad.cells]]at hB2;have HB11:=Hd (show Blk (wr.setCell ⟨w.heap.size+1,2,none⟩ (.string y)) (w.heap.size+1) (.cells (jad.cells ⟨3,⟨#[]⟩,val,rs⟩).toArray 144)from by rw[hv];exact hB2);have HH:=Hd (HH.o.other (jae.oneSet wr ⟨w.heap.size+1,2,none⟩ (.string y)));have HV:=Hd hv;clear hB hB2 e16 hv;go_wp2_with (refine jaf 144 (.tmp 4) rfl rfl _ _ rfl (jan _ _ ⟨3,⟨#[]⟩,val,rs⟩ HRL.o HB11.o) ?_)
    refine vC (jiY (inlP _) _ ⟨3,⟨#[]⟩,val,rs⟩ HG.o) fun w9 hE=>?_;have h9:=HH.o.ext hE;have q0:w9.cell? ⟨w.heap.size,0,none⟩=some (.string ⟨#[]⟩):=h9.blk.cell (i:=0) vF;have f0:w9.frozen? ⟨w.heap.size,0,none⟩=false:=h9.blk.frozen;have H9:=Hd (h9.setText (jaN ⟨3,⟨#[]⟩,val,rs⟩))
    obtain⟨tx,htx⟩:=vE (jaN ⟨3,⟨#[]⟩,val,rs⟩)
    rw[<-htx]at H9 ⊢;have HTX:=Hd htx;clear h9 hE htx;go_wp2_with fail
    go_ret
    exact⟨w.heap.size,rfl,by rw[HT.o, <-HTX.o];exact H9.o.part,H9.o.row.ext⟩
   ·have hne:=ja8 (s:=x) vO
    have hv:val=⟨#[]⟩:=by rw[HVAL.o,if_neg hx0]
    rw[<-hv]at hB;have HB11:=Hd (show Blk wr (w.heap.size+1) (.cells (jad.cells ⟨3,⟨#[]⟩,val,rs⟩).toArray 144)from by rw[hv]at hB ⊢;exact hB);have HV:=Hd hv;clear hB e16 hv;go_wp2_with (refine jaf 144 (.tmp 4) rfl rfl _ _ rfl (jan _ _ ⟨3,⟨#[]⟩,val,rs⟩ HRL.o HB11.o) ?_)
    refine vC (jiY (inlP _) _ ⟨3,⟨#[]⟩,val,rs⟩ HG.o) fun w9 hE=>?_;have h9:=HH.o.ext hE;have q0:w9.cell? ⟨w.heap.size,0,none⟩=some (.string ⟨#[]⟩):=h9.blk.cell (i:=0) vF;have f0:w9.frozen? ⟨w.heap.size,0,none⟩=false:=h9.blk.frozen;have H9:=Hd (h9.setText (jaN ⟨3,⟨#[]⟩,val,rs⟩))
    obtain⟨tx,htx⟩:=vE (jaN ⟨3,⟨#[]⟩,val,rs⟩)
    rw[<-htx]at H9 ⊢;have HTX:=Hd htx;clear h9 hE htx;go_wp2_with fail
    go_ret
    exact⟨w.heap.size,rfl,by rw[HT.o, <-HTX.o];exact H9.o.part,H9.o.row.ext⟩
theorem jjl:∀ (f:Nat) (l:List Pair),jaA f l->l.length<=1000->jho l (jac (f+1) l)
 | f,l,hok,hln=>by
  by_cases h0:l.length=0
  ·exact jof f l h0
  by_cases h1:l.length=1
  ·exact jpJ f l h1 hok
  have h2:2<=l.length:=by omega
  cases f with
  | zero =>
   exfalso
   obtain⟨a,ha⟩:∃ a,l[0]?=some a:=⟨_,List.getElem?_eq_getElem vO⟩
   obtain⟨b,hb⟩:∃ b,l[1]?=some b:=⟨_,List.getElem?_eq_getElem vO⟩
   have hlt:=jb0 hok.rise vO ha hb
   have:=(hok.size b (List.mem_of_getElem? hb)).1
   rw[show b.l=[]from List.eq_nil_of_length_eq_zero (by show b.1.size=0;omega)]at hlt;exact not_lt_nil _ hlt
  | succ f =>
   by_cases hk:0 < comK l
   ·exact jpI f l h2 hln hok hk (jjl f _ ((jcv (comK l) hok (fun p hp q hq=>((jbu hok h2 p hp).1).trans (jbu hok h2 q hq).1.symm) (fun p hp=>(jbu hok h2 p hp).2)).mono vO) (by rw[jaH];exact hln))
   ·exact jkC f l h2 hln hok hk (fun i _=>jjl f _ (jeb i hok) (by rw[jaH];exact Nat.le_trans (List.length_filter_le _ _) hln))
theorem jk8(b:UInt8):(b >>> 4).toNat=b.toNat / 16:=by
 have:∀ c:Fin 256,(UInt8.ofNat c.1 >>> 4).toNat=c.1 / 16:=by decide
 have h:=this ⟨b.toNat,b.toNat_lt⟩;simpa using h
theorem jk9(b:UInt8):(b &&& 15).toNat=b.toNat % 16:=by
 have:∀ c:Fin 256,(UInt8.ofNat c.1 &&& 15).toNat=c.1 % 16:=by decide
 have h:=this ⟨b.toNat,b.toNat_lt⟩;simpa using h
theorem jqF:∀ (a b:List UInt8),Lt a b->Lt (jcp a) (jcp b)
 | a,[],h=>absurd h (not_lt_nil _)
 | [],y :: b,_=>rfl
 | x :: a,y :: b,h=>by
  show Lt ((x >>> 4) ::(x &&& 15) :: jcp a) ((y >>> 4) ::(y &&& 15) :: jcp b);have hx:=jk8 x;have hy:=jk8 y;have lx:=jk9 x;have ly:=jk9 y;rcases jbp.1 h with h |⟨he,h2⟩
  ·have h:=UInt8.lt_iff_toNat_lt.1 h
   by_cases hh:x.toNat / 16 < y.toNat / 16
   ·exact jbp.2 (.inl (UInt8.lt_iff_toNat_lt.2 vO))
   ·refine jbp.2 (.inr ⟨UInt8.toNat_inj.1 vO,jbp.2 (.inl (UInt8.lt_iff_toNat_lt.2 vO))⟩)
  ·subst he;exact jbp.2 (.inr ⟨rfl,jbp.2 (.inr ⟨rfl,jqF a b h2⟩)⟩)
theorem jch(s:vB):jat (ja5 s)=true:=by
 unfold jat ja5;rw[List.all_eq_true];intro x hx;have hx:x∈jcp s.data.toList:=hx;unfold jcp at hx
 obtain⟨b,_,hb⟩:=List.mem_flatMap.1 hx
 have h1:=jk8 b;have h2:=jk9 b;have h3:=b.toNat_lt;have h15:(15:UInt8).toNat=15:=rfl;refine decide_eq_true (UInt8.le_iff_toNat_le.2 ?_);rcases List.mem_cons.1 hb with rfl | hb
 ·omega
 ·rw[List.mem_singleton.1 hb];omega
theorem jdz(s:vB):(ja5 s).size=2 * s.size:=by
 show (jcp s.data.toList).length=2 * s.data.toList.length;unfold jcp;induction s.data.toList with
 | nil=>rfl
 | cons x r ih=>rw[List.flatMap_cons,List.length_append,ih,List.length_cons,List.length_cons,List.length_cons,List.length_nil];omega
structure jsd(l:List Pair):Prop where
 size:∀ p∈l,0 < p.1.size/\p.1.size<=6/\0 < p.2.size/\p.2.size<=80
 rise:l.Pairwise fun p q=>Lt p.l q.l
 len:l.length<=40
theorem jd5:∀ (a b c:List UInt8),Lt a b->Lt b c->Lt a c
 | a,b,[],_,h=>absurd h (not_lt_nil _)
 | a,[],z :: c,h,_=>absurd h (not_lt_nil _)
 | [],y :: b,z :: c,_,_=>rfl
 | x :: a,y :: b,z :: c,h1,h2=>by
  rcases jbp.1 h1 with h |⟨rfl,h⟩
  ·rcases jbp.1 h2 with h' |⟨rfl,h'⟩
   ·exact jbp.2 (.inl (UInt8.lt_trans h h'))
   ·exact jbp.2 (.inl h)
  ·rcases jbp.1 h2 with h' |⟨rfl,h'⟩
   ·exact jbp.2 (.inl h')
   ·exact jbp.2 (.inr ⟨rfl,jd5 a b c h h'⟩)
theorem jaP{l:List Pair}(h:jaG l=0):jsd l:=by
 unfold jaG at h;split at h
 ·cases h
 rename_i hb
 split at h
 ·cases h
 rename_i hl
 have hbad:∀ i,i < l.length->badN l i=false:=fun i hi=>by
  cases hbi:badN l i with
  | false=>rfl
  | true=>exact absurd (List.any_eq_true.2 ⟨i,List.mem_range.2 hi,hbi⟩) hb
 refine⟨fun p hp=>?_,?_,by omega⟩
 ·obtain⟨i,hi⟩:=List.getElem?_of_mem hp
  have h1:=hbad i (List.getElem?_eq_some_iff.1 hi).1;have hg:l.getD i (⟨#[]⟩,⟨#[]⟩)=p:=by rw[List.getD_eq_getElem?_getD,hi];rfl
  unfold badN at h1;rw[hg]at h1;simp only[Bool.or_eq_false_iff,Bool.not_eq_false']at h1;have h2:=h1.1.1;have h3:=h1.1.2;unfold jdI at h2;unfold jdc at h3;simp only[decide_eq_true_eq]at h2 h3
  exact⟨h2.1,h2.2,h3.1,h3.2⟩
 ·have step:∀ i,i+1 < l.length->Lt (l.getD i pd).l (l.getD (i+1) pd).l:=fun i hi=>by
   have h1:=hbad (i+1) hi;unfold badN at h1;simp only[Bool.or_eq_false_iff,Bool.and_eq_false_iff,Bool.not_eq_false']at h1;rcases h1.2 with h2 | h2
   ·simp at h2
   ·rw[Nat.add_sub_cancel]at h2
    have:Op.bytesLess (l.getD i pd).1.toList (l.getD (i+1) pd).1.toList=true:=h2
    rw[ByteArray.toList_eq,ByteArray.toList_eq]at this;exact this
  rw[List.pairwise_iff_getElem];intro i j hi hj hij;have e:∀ k (hk:k < l.length),l.getD k pd=l[k]:=fun k hk=>by rw[List.getD_eq_getElem?_getD,List.getElem?_eq_getElem hk];rfl
  have key:∀ d,∀ i,i+d+1 < l.length->Lt (l.getD i pd).l (l.getD (i+d+1) pd).l:=by
   intro d;induction d with
   | zero=>exact fun i hi=>step i hi
   | succ d ih=>exact fun i hi=>jd5 _ _ _ (ih i vO) (step (i+d+1) hi)
  have:=key (j - i - 1) i vO
  rw[show i+(j - i - 1)+1=j by omega,e i hi,e j hj]at this;exact this
theorem jbA{l:List Pair}(h:jsd l):jaA 12 (jaO l):=by
 refine⟨fun p hp=>?_,?_⟩
 ·obtain⟨q,hq,rfl⟩:=List.mem_map.1 hp
  obtain⟨h1,h2,h3,h4⟩:=h.size q hq
  have hs:=jdz q.1
  exact⟨by show (ja5 q.1).size<=_;omega,by show (ja5 q.1).size<=_;omega,jch _,h3,h4⟩
 ·unfold jaO
  rw[List.pairwise_map];exact h.rise.imp fun {p q} h=>jqF _ _ h
def jaL(l:List Pair):PT:=jac 13 (jaO l)
section
attribute [local go_sem] Oper.semAt_some
inductive AT where
 | mk (b:Nat) (text:vB) (v:Value) (kids:List AT)
def AT.root:AT->Nat | .mk b _ _ _=>b
mutual
def AtIs(A:Nat->Prop):AT->World->Prop
 | .mk b t v ks,W=>A b/\Blk W b (.cells #[.string t,v] 159)/\RdQ A W v (ks.map AT.root)/\jej A ks W
def jej(A:Nat->Prop):List AT->World->Prop
 | [],_=>True
 | k :: ks,W=>AtIs A k W/\jej A ks W
end
mutual
def AT.pt:AT->PT
 | .mk _ t _ ks=>.mk t (AT.pts ks)
def AT.pts:List AT->List PT
 | []=>[]
 | k :: ks=>AT.pt k :: AT.pts ks
end
mutual
def jaF:PT->List vB
 | .mk t ks=>t :: jaM ks
def jaM:List PT->List vB
 | []=>[]
 | k :: ks=>jaF k++jaM ks
end
mutual
theorem jwX{A:Nat->Prop}{W:World}:∀ (T:PT) (b:Nat),jbB A T b W->∃ a:AT,a.root=b/\a.pt=T/\AtIs A a W
 | .mk t ks,b,h=>by
  unfold jbB at h
  obtain⟨h1,v,bs,h2,h3,h4⟩:=h
  obtain⟨al,e1,e2,e3⟩:=jui ks bs h4
  exact⟨.mk b t v al,rfl,by unfold AT.pt;rw[e2],by unfold AtIs;exact⟨h1,h2,by rw[e1];exact h3,e3⟩⟩
theorem jui{A:Nat->Prop}{W:World}:∀ (ks:List PT) (bs:List Nat),jaQ A ks bs W->∃ al:List AT,al.map AT.root=bs/\AT.pts al=ks/\jej A al W
 | [],bs,h=>by
  unfold jaQ at h;subst h
  exact⟨[],rfl,by unfold AT.pts;rfl,by unfold jej;trivial⟩
 | x :: ks,bs,h=>by
  unfold jaQ at h
  obtain⟨b,r,rfl,h2,h3⟩:=h
  obtain⟨a,e1,e2,e3⟩:=jwX x b h2
  obtain⟨al,e4,e5,e6⟩:=jui ks r h3
  exact⟨a :: al,by rw[List.map_cons,e1,e4],by unfold AT.pts;rw[e2,e5],by unfold jej;exact⟨e3,e6⟩⟩
end
mutual
theorem AtIs.keeps{A:Nat->Prop}{F:BSet}{W W':World}(k:jae F W W')(hF:∀ x,A x->¬ F x):∀ (a:AT),AtIs A a W->AtIs A a W'
 | .mk b t v ks,h=>by
  unfold AtIs at *
  obtain⟨h1,h2,h3,h4⟩:=h
  exact⟨h1,h2.keeps k (hF b h1),h3.keeps k hF,jej.keeps k hF ks h4⟩
theorem jej.keeps{A:Nat->Prop}{F:BSet}{W W':World}(k:jae F W W')(hF:∀ x,A x->¬ F x):∀ (ks:List AT),jej A ks W->jej A ks W'
 | [],_=>by unfold jej;trivial
 | x :: ks,h=>by
  unfold jej at *
  exact⟨AtIs.keeps k hF x h.1,jej.keeps k hF ks h.2⟩
end
theorem jej.get{A:Nat->Prop}{W:World}:∀ (ks:List AT) (j:Nat) (a:AT),jej A ks W->ks[j]?=some a->AtIs A a W
 | [],j,a,_,h=>by simp at h
 | x :: ks,0,a,h,hj=>by simp at hj;subst hj;unfold jej at h;exact h.1
 | x :: ks,j+1,a,h,hj=>by unfold jej at h;exact jej.get ks j a h.2 (by simpa using hj)
theorem jkP:∀ (ks:List AT) (j:Nat) (a:AT),ks[j]?=some a->jaM (AT.pts (ks.take (j+1)))=jaM (AT.pts (ks.take j))++jaF a.pt
 | [],j,a,h=>by simp at h
 | x :: ks,0,a,h=>by
  simp at h;subst h;simp[AT.pts,jaM]
 | x :: ks,j+1,a,h=>by
  have:=jkP ks j a (by simpa using h)
  simp only[List.take_succ_cons,AT.pts,jaM,this,List.append_assoc]
theorem jnc:∀ (ks:List AT) (j:Nat),∃ r,jaM (AT.pts ks)=jaM (AT.pts (ks.take j))++r
 | ks,0=>⟨jaM (AT.pts ks),by simp[AT.pts,jaM]⟩
 | [],j+1=>⟨[],by simp[AT.pts,jaM]⟩
 | x :: ks,j+1=>by
  obtain⟨r,h⟩:=jnc ks j
  exact⟨r,by simp only[List.take_succ_cons,AT.pts,jaM,h,List.append_assoc]⟩
def jdT(L m:List vB)(p:Nat):Prop:=∀ j x,m[j]?=some x->L[p+j]?=some x
theorem jdT.left{L m n:List vB}{p:Nat}(h:jdT L (m++n) p):jdT L m p:=fun j x hx=>h j x (by rw[List.getElem?_append_left (List.getElem?_eq_some_iff.1 hx).1];exact hx)
theorem jdT.right{L m n:List vB}{p:Nat}(h:jdT L (m++n) p):jdT L n (p+m.length):=fun j x hx=>by
 have:=h (m.length+j) x (by rw[List.getElem?_append_right vO,Nat.add_sub_cancel_left];exact hx)
 rw[Nat.add_assoc];exact this
theorem jdT.le{L m:List vB}{p:Nat}(h:jdT L m p)(hm:m≠[]):p+m.length<=L.length:=by
 have hl:0 < m.length:=List.length_pos_iff.2 hm
 have:=h (m.length - 1) _ (List.getElem?_eq_getElem vO)
 have:=(List.getElem?_eq_some_iff.1 this).1
 omega
theorem jsU(T:PT):1<=(jaF T).length:=by cases T;unfold jaF;simp
theorem jnb:∀ (ks:List AT),ks.length<=(jaM (AT.pts ks)).length
 | []=>by simp
 | x :: ks=>by
  have:=jnb ks
  have:=jsU x.pt
  simp only[AT.pts,jaM,List.length_append,List.length_cons];omega
def jjf(C Cx:Nat->World->Prop)(n N:Nat)(e:Ending)(W':World):Prop:=(e=.returned (.bool true)/\C n W')\/(e=.returned (.bool false)/\∃ q,0 < q/\q<=N/\Cx q W')
def juQ(C:Nat->World->Prop)(p:Nat)(ks:List AT)(v:Value)(wr:World):Prop:=∃ j:Nat,j<=ks.length/\v=.int .i64 j/\C (p+1+(jaM (AT.pts (ks.take j))).length) wr
theorem jrZ(A:Nat->Prop)(l:Nat)(C Cx:Nat->World->Prop)(hC:∀ k,St (C k))(L:List vB)(hLn:L.length<=1000000)
  (hY:∀ j W',j < L.length->C j W'->jpj Tryz.prog l #[.string (L.getD j ⟨#[]⟩)] W' (C (j+1)) (Cx (j+1)))
  (b:Nat) (t:vB) (v:Value) (ks:List AT)
  (IHk:∀ a∈ks,∀ (p:Nat) (W:World),jdT L (jaF a.pt) p->(∀ j W',C j W'->AtIs A a W')->C p W ->
   CallsIn Fence.wide 0 Tryz.prog 131 #[ptrV a.root,.func (.yield l) #[] #[]] W (jjf C Cx (p+(jaF a.pt).length) L.length))
  (p:Nat) (W:World) (hL:jdT L (jaF (AT.mk b t v ks).pt) p) (hS:∀ j W',C j W'->AtIs A (.mk b t v ks) W') (h0:C p W) :
   CallsIn Fence.wide 0 Tryz.prog 131 #[ptrV b,.func (.yield l) #[] #[]] W (jjf C Cx (p+(jaF (AT.mk b t v ks).pt).length) L.length):=by
  have e1:jaF (AT.pt (.mk b t v ks))=t :: jaM (AT.pts ks):=by unfold AT.pt jaF;rfl
  rw[e1]at hL ⊢;have hp:p < L.length:=by have:=hL 0 t rfl;exact (List.getElem?_eq_some_iff.1 this).1
  have hg:L.getD p ⟨#[]⟩=t:=by rw[List.getD_eq_getElem?_getD];have:=hL 0 t rfl;rw[Nat.add_zero]at this;rw[this];rfl
  have hS':∀ j W',C j W'->Blk W' b (.cells #[.string t,v] 159)/\RdQ A W' v (ks.map AT.root)/\jej A ks W':=fun j W' h=>by
   have:=hS j W' h;unfold AtIs at this;exact this.2
  obtain⟨fn,tm,asg,bd,hyr,hrd⟩:=hY p W hp h0
  rw[hg]at hyr;have q0:=(hS' p W h0).1.cell (i:=0) (v:=.string t) vF
  obtain⟨av,cv,hv⟩:=(hS' p W h0).2.1.sl
  rw[List.length_map]at hv;subst hv;have hkl:ks.length<=1000000:=by
   have h1:=jnb ks;have h2:=hL.le (by simp);simp only[List.length_cons]at h2;omega
  have HRD:=Hd hrd;have HS:=Hd hS';have HY:=Hd hY;have HC:=Hd hC;have HIK:=Hd IHk;have HL:=Hd hL;clear hS' hS hrd hg h0 e1 hL hY hC IHk;unfold ptrV;refine callsIn_of_wp Tryz.func131 rfl trivial ?_ rfl;simp only[Tryz.ntmps131,List.size_toArray,List.length_cons,List.length_nil,Nat.reduceAdd,Nat.reduceSub,Array.replicate_succ,Array.replicate_zero,List.push_toArray,List.append_toArray,List.nil_append,List.cons_append];gi_wp2_with fail
  refine⟨rfl,HRD.o.mono ?_⟩
  rintro e w5 (⟨rfl,C5⟩ |⟨rfl,C5⟩)
  ·have q1:=(HS.o _ _ C5).1.cell (i:=1) (v:=.slice av ks.length cv) vF
   have HC5:=Hd C5;clear C5 q0 hyr;gi_wp2_with fail
   gi_loopw [19] (fun v wr=>juQ C p ks v wr) (fun v _=>ks.length - (intOf v).toNat)
   case atStart=>exact⟨0,by omega,rfl,by simpa [AT.pts,jaM]using HC5.o⟩
   case round =>
    obtain⟨j,hj,rfl,hCj⟩:=hrel
    by_cases hlt:j < ks.length
    ·obtain⟨hb1,hq1,ha1⟩:=HS.o _ _ hCj
     obtain⟨a,ha⟩:∃ a,ks[j]?=some a:=⟨_,List.getElem?_eq_getElem hlt⟩
     have hmem:a∈ks:=List.mem_of_getElem? ha;have hft:=jkP ks j a ha
     obtain⟨rest,hpre⟩:=jnc ks (j+1)
     have hbeg:jdT L (jaF a.pt) (p+1+(jaM (AT.pts (ks.take j))).length):=by
      have h1:jdT L ([t]++(jaM (AT.pts (ks.take j))++(jaF a.pt++rest))) p:=by
       have:=HL.o
       rw[hpre,hft,List.append_assoc]at this;exact this
      exact (h1.right.right).left
     rcases hq1 with⟨_,h0⟩ |⟨g,c,hh,_,_,_,_,hcell⟩
     ·rw[List.map_eq_nil_iff]at h0;rw[h0]at hlt;cases hlt
     obtain⟨rfl,hx1,hx2⟩:=Value.slice.inj hh
     clear hx1 hx2;have qj:wr.cell? ⟨g,j,none⟩=some (ptrV a.root):=hcell j a.root (by rw[List.getElem?_map,ha];rfl)
     obtain⟨ar,har⟩:=vE a.root
     rw[<-har]at qj;have b1:(j:Int) < (ks.length:Int):=by omega
     have ih:=HIK.o a hmem _ wr hbeg (fun j' W' h=>jej.get ks j a (HS.o j' W' h).2.2 ha) hCj;rw[<-har]at ih;have IH:=Hd ih;have HFT:=Hd hft;unfold ptrV at qj;clear hb1 ha1 hcell hh hpre hbeg ih hft hCj ha har q1 hmem HC5;gi_wp2_with fail
     refine⟨trivial,rfl,IH.o.mono ?_⟩
     rintro e w6 (⟨rfl,C6⟩ |⟨rfl,q',hq1,hq2,C6⟩)
     ·have HC6:=Hd C6
      clear C6;gi_wp2_with fail
      go_roundw
      case rel=>exact⟨j+1,by omega,by go_num,by rw[HFT.o,List.length_append, <-Nat.add_assoc];exact HC6.o⟩
      case measure=>simp[intOf];omega
     ·have HC6:=Hd C6
      clear C6;gi_wp2_with fail
      go_ret;exact .inr ⟨rfl,q',hq1,hq2,HC6.o⟩
    ·have hjk:j=ks.length:=by omega
     subst hjk;rw[List.take_length]at hCj;have HC6:=Hd hCj;clear hCj;gi_wp2_with fail
     go_ret;exact .inl ⟨rfl,by rw[show p+((jaM (AT.pts ks)).length+1)=p+1+(jaM (AT.pts ks)).length by omega];exact HC6.o⟩
  ·have HC5:=Hd C5
   clear C5 q0 hyr;gi_wp2_with fail
   go_ret;exact .inr ⟨rfl,p+1,by omega,by omega,HC5.o⟩
theorem jrY(A:Nat->Prop)(l:Nat)(C Cx:Nat->World->Prop)(hC:∀ k,St (C k))(L:List vB)(hLn:L.length<=1000000)
  (hY:∀ j W',j < L.length->C j W'->jpj Tryz.prog l #[.string (L.getD j ⟨#[]⟩)] W' (C (j+1)) (Cx (j+1))) :
  ∀ (a:AT) (p:Nat) (W:World),jdT L (jaF a.pt) p->(∀ j W',C j W'->AtIs A a W')->C p W ->
   CallsIn Fence.wide 0 Tryz.prog 131 #[ptrV a.root,.func (.yield l) #[] #[]] W (jjf C Cx (p+(jaF a.pt).length) L.length)
 | .mk b t v ks,p,W,hL,hS,h0=>jrZ A l C Cx hC L hLn hY b t v ks (fun a ha=>jrY A l C Cx hC L hLn hY a) p W hL hS h0
termination_by a=>SizeOf.sizeOf a
decreasing_by
 have:=List.sizeOf_lt_of_mem ha
 simp
 omega
def jpm(L:List vB)(k:Nat):Array Value:=#[.string (L.getD k ⟨#[]⟩)]
theorem jwV(A:Nat->Prop)(bx:Nat)(a:AT)(hLn:(jaF a.pt).length<=1000000):jsc Tryz.prog 130 #[.pointer (some ⟨bx,0,none⟩)] (jaF a.pt).length (jpm (jaF a.pt)) (fun W=>Blk W bx (.cells #[ptrV a.root] 110)/\AtIs A a W):=by
 intro l C Cx hC hCx hS W hY h0;have hT:=jrY A l C Cx hC (jaF a.pt) hLn (fun j W' hj hc=>hY j W' hj hc) a 0 W (fun j x hx=>by rw[Nat.zero_add];exact hx) (fun j W' h=>(hS j W' h).2) h0;have q0:=(hS 0 W h0).1.cell (i:=0) (v:=ptrV a.root) vF;have HT:=Hd hT;clear hT hY hC hCx hS h0;unfold ptrV at q0
 obtain⟨r,hr⟩:=vE a.root
 rw[<-hr]at q0 HT;have HR:=Hd hr;clear hr;refine callsIn_of_wp Tryz.func130 rfl trivial ?_ rfl;simp only[Tryz.ntmps130,List.size_toArray,List.length_cons,List.length_nil,Nat.reduceAdd,Nat.reduceSub,Array.replicate_succ,Array.replicate_zero,List.push_toArray,List.append_toArray,List.nil_append,List.cons_append];gi_wp2_with fail
 refine⟨trivial,rfl,HT.o.mono ?_⟩
 rintro e w5 (⟨rfl,C5⟩ |⟨rfl,q',hq1,hq2,C6⟩)
 ·have HC5:=Hd C5
  clear C5;gi_wp2_with fail
  refine bodyPost_end (results_none rfl _ _ _) rfl ?_
  exact⟨⟨_,rfl⟩,.inl (by have:=HC5.o;rw[Nat.zero_add]at this;exact this)⟩
 ·have HC6:=Hd C6
  clear C6;gi_wp2_with fail
  refine bodyPost_end (results_none rfl _ _ _) rfl ?_
  exact⟨⟨_,rfl⟩,.inr ⟨q',hq2,hq1,HC6.o⟩⟩
theorem jyB(w:World)(k:Nat):vQ 80 #[ptrV k] w fun e w'=>e=.returned (.func (.func 130) #[] #[.pointer (some ⟨w.heap.size,0,none⟩)])/\Blk w' w.heap.size (.cells #[ptrV k] 110)/\Ext w w':=by
 unfold ptrV;go_enter Tryz.func80,Tryz.ntmps80;go_wp2_with fail
 go_ret
 exact⟨rfl,Blk.new w _,(ExtR w).alloc _⟩
def memB(acc:List vB)(x:vB):Bool:=(acc.map (·.data.toList)).contains x.data.toList
theorem jfh(acc:List vB)(x:vB):memB acc x=true↔x∈acc:=by
 unfold memB;rw[List.contains_iff_mem,List.mem_map]
 exact⟨fun ⟨y,hy,e⟩=>by rw[<-show y=x from ByteArray.ext (Array.ext' e)];exact hy,fun h=>⟨x,h,rfl⟩⟩
def addF(acc:List vB)(x:vB):List vB:=if memB acc x=true then acc else acc++[x]
def ja7(l:List vB):List vB:=l.foldl addF []
theorem jse(acc:List vB)(x y:vB):y∈addF acc x↔y∈acc\/y=x:=by
 unfold addF;split
 ·rename_i h;exact⟨.inl,fun h'=>h'.elim id (fun e=>e ▸ (jfh _ _).1 h)⟩
 ·simp
theorem ja9(l:List vB)(y:vB):y∈ja7 l↔y∈l:=by
 unfold ja7
 suffices ∀ acc,y∈l.foldl addF acc↔y∈acc\/y∈l by simpa using this []
 induction l with
 | nil=>intro acc;simp
 | cons x r ih=>intro acc;rw[List.foldl_cons,ih,jse,List.mem_cons];exact or_assoc
theorem jfC(l:List vB)(x:vB):ja7 (l++[x])=addF (ja7 l) x:=by
 unfold ja7;rw[List.foldl_append];rfl
theorem jgy(l:List vB):(ja7 l).length<=l.length:=by
 unfold ja7
 suffices ∀ acc,(l.foldl addF acc).length<=acc.length+l.length by simpa using this []
 induction l with
 | nil=>intro acc;simp
 | cons x r ih =>
  intro acc;rw[List.foldl_cons,List.length_cons];have h1:=ih (addF acc x);have h2:(addF acc x).length<=acc.length+1:=by unfold addF;split <;> simp
  omega
theorem jcQ{K:Type}[DecidableEq K](k:K)(v:Value)(n:Nat)(k':K):∀ (l:List (Ent K)),jaX (jbn l k v n) k'=if k'=k then some v else jaX l k'
 | []=>by
  by_cases h:k'=k
  ·subst h;simp[jbn,jaX]
  ·simp[jbn,jaX,h]
 | x :: r=>by
  have ih:=jcQ k v n k' r;unfold jbn
  by_cases hk:k=x.1
  ·rw[if_pos hk]
   by_cases h:k'=k
   ·subst h;simp[jaX]
   ·have h2:¬ k'=x.1:=fun e=>h (e.trans hk.symm)
    simp[jaX,h,h2]
  ·rw[if_neg hk]
   by_cases h:k'=x.1
   ·have h2:¬ k'=k:=fun e=>hk (e.symm.trans h)
    rw[if_neg h2];simp[jaX,h]
   ·have e1:∀ l,jaX (x :: l) k'=jaX l k':=fun l=>by simp[jaX,h]
    rw[e1,e1,ih]
def cntB(l:List vB)(x:vB):Nat:=(l.map (·.data.toList)).count x.data.toList
def cntV(n:Nat):Option Value:=if n=0 then none else some (.int .i64 (n:Int))
theorem Tryz.uMapSI:Tryz.prog.underlying 107=some (.map 9 3):=by kernel_rfl
noncomputable abbrev Tryz.ES:ja3 Tryz.prog 9 (List UInt8):=jxs Tryz.uStr
theorem Tryz.zeroI(w:World):(zeroValue 3).run Tryz.prog w=.ok (.int .i64 0) w:=by kernel_rfl
structure NodS(w:World)(g m:Nat)(A:Nat->Prop)(bx:Nat)(a:AT)(L:List vB)(k:Nat)(W:World):Prop where
 ext:Ext w W
 var:∃ v n,Blk W g (.cells #[v] 34)/\W.ownsRow 0 9 1 v n ((ja7 (L.take k)).map Value.string)/\n<=k/\∀ b,v.ownBlock=some b->m+2<=b
 tab:∃ es ck,Blk W (g+1) (.map (Tryz.ES.arr es) ck)/\∀ x:vB,jaX es x.data.toList=cntV (cntB (L.take k) x)
 mv:Blk W (g+2) (.cells #[.map (some (g+1))] 107)
 box:Blk W bx (.cells #[ptrV a.root] 110)
 at':AtIs A a W
theorem NodS.st{w:World}{g m:Nat}{A:Nat->Prop}{bx:Nat}{a:AT}{L:List vB}{k:Nat}{W W':World}(h:NodS w g m A bx a L k W)(e:Ext W W'):NodS w g m A bx a L k W':=
 let ⟨v,n,h1,h2,h3,h4⟩:=h.var
 let ⟨es,ck,h5,h6⟩:=h.tab
 ⟨h.ext.trans e,⟨v,n,h1.keeps e (fun h=>h),jbe h2 e,h3,h4⟩,⟨es,ck,h5.keeps e (fun h=>h),h6⟩,h.mv.keeps e (fun h=>h),h.box.keeps e (fun h=>h),AtIs.keeps e (fun _ _ h=>h) a h.at'⟩
theorem NodS.put{w:World}{g m:Nat}{A:Nat->Prop}{bx:Nat}{a:AT}{L:List vB}{k:Nat}{W:World}(h:NodS w g m A bx a L k W){r:Nat}(hr:w.heap.size<=r)(h1:g+2 < r)(h2:r < m+2)(h3:bx≠r)(h4:∀ x,A x->x≠r)(o:Obj):NodS w g m A bx a L k (W.putObj r o):=
 let ⟨v,n,h5,h6,h7,h8⟩:=h.var
 let ⟨es,ck,h9,h10⟩:=h.tab
 ⟨h.ext.putObj (.inr hr) _,⟨v,n,h5.put_other vO _,jaW h6 (jae.onePut W r o) (fun b hb e=>by have:=h8 b hb;omega),h7,h8⟩,⟨es,ck,h9.put_other vO _,h10⟩,h.mv.put_other vO _,h.box.put_other h3 _,
  AtIs.keeps (jae.onePut W r o) (fun x hx e=>h4 x hx e) a h.at'⟩
end
def jc4(l:List Pair):Nat->Nat
 | 0=>0
 | n+1=>jc4 l n+(cutL n l).length
def hN(L:List UInt8)(n:Nat):Nat:=match L with | []=>0 | a :: _=>if a.toNat < n then 1 else 0
theorem jvm(p:Pair)(n:Nat):hN p.l (n+1)=hN p.l n+(if jeW n p=true then 1 else 0):=by
 have hpb:jeW n p=match p.l with | []=>false | a :: _=>a.toNat == n:=rfl
 rw[hpb];cases p.l with
 | nil=>rfl
 | cons a r =>
  simp only[hN,beq_iff_eq]
  by_cases h1:a.toNat=n
  ·rw[if_pos vO,if_neg vO,if_pos h1]
  ·by_cases h3:a.toNat < n
   ·rw[if_pos vO,if_pos h3,if_neg h1]
   ·rw[if_neg vO,if_neg h3,if_neg h1]
theorem jxo(L:List UInt8)(n:Nat):hN L n<=1:=by
 cases L with
 | nil=>exact Nat.zero_le _
 | cons a r=>simp only[hN];split <;> omega
theorem jfy(p:Pair)(l:List Pair):∀ n,jc4 (p :: l) n=jc4 l n+hN p.l n
 | 0=>by
  have:hN p.l 0=0:=by cases p.l <;> simp[hN]
  rw[this];rfl
 | n+1=>by
  have h:(cutL n (p :: l)).length=(cutL n l).length+(if jeW n p=true then 1 else 0):=by
   unfold cutL;rw[List.filter_cons];split <;> simp
  unfold jc4;rw[jfy p l n,h,jvm];omega
theorem jeO:∀ (l:List Pair) (n:Nat),jc4 l n<=l.length
 | [],n=>by
  have:∀ n,jc4 [] n=0:=fun n=>by induction n with
   | zero=>rfl
   | succ n ih=>unfold jc4;rw[ih];rfl
  rw[this];exact Nat.zero_le _
 | p :: l,n=>by
  rw[jfy,List.length_cons]
  have:=jeO l n
  have:=jxo p.l n
  omega
theorem jdg:∀ (a b:List PT),jaM (a++b)=jaM a++jaM b
 | [],b=>by simp[jaM]
 | x :: a,b=>by simp only[List.cons_append,jaM,jdg a b,List.append_assoc]
theorem jhT(T:PT):(jaM (jbP T)).length<=(jaF T).length:=by
 unfold jbP;split <;> simp[jaM]
theorem jxt(B:List Pair->PT)(F:Nat)(l:List Pair)(hB:∀ i,(cutL i l).length≠0->(jaF (B (jal 1 (cutL i l)))).length<=F * (cutL i l).length):∀ n,(jaM (ksK B l n)).length<=F * jc4 l n
 | 0=>by simp[ksK,jaM,jc4]
 | n+1=>by
  rw[jhg,jdg,List.length_append];unfold jc4;rw[Nat.mul_add]
  have:=jxt B F l hB n
  by_cases h0:(cutL n l).length=0
  ·rw[if_pos h0];simp[jaM];omega
  ·rw[if_neg h0]
   have h1:=hB n h0;have h2:=jhT (B (jal 1 (cutL n l)));omega
theorem jmj:∀ (f:Nat) (l:List Pair),l≠[]->(jaF (jac (f+1) l)).length<=(f+1) * l.length
 | f,l,hl=>by
  have hlen:1<=l.length:=List.length_pos_iff.2 hl;show (jaF (.mk (jaN (jav (jac f) l)) (jaB (jac f) l))).length<=_;unfold jaF;rw[List.length_cons];have key:(jaM (jaB (jac f) l)).length<=f * l.length:=by
   unfold jaB;split
   ·simp[jaM]
   ·split
    ·cases f with
     | zero =>
      have h:=jhT (jac 0 (jal (comK l) l));have h0:jbP (jac 0 (jal (comK l) l))=[]:=rfl;rw[h0];simp[jaM]
     | succ f =>
      have h:=jhT (jac (f+1) (jal (comK l) l));have ih:=jmj f (jal (comK l) l) (fun e=>by have:=jaH (comK l) l;rw[e]at this;simp at this;omega);rw[jaH]at ih;omega
    ·cases f with
     | zero =>
      have:∀ n,ksK (jac 0) l n=[]:=fun n=>by
       induction n with
       | zero=>rfl
       | succ n ih =>
        rw[jhg,ih];split
        ·rfl
        ·rfl
      have h16:=this 16;unfold ksK at h16;rw[h16];simp[jaM]
     | succ f =>
      have h:=jxt (jac (f+1)) (f+1) l (fun i hi=>by
       have ih:=jmj f (jal 1 (cutL i l)) (fun e=>by have:=jaH 1 (cutL i l);rw[e]at this;simp at this;omega)
       rwa [jaH]at ih) 16
      have h2:=Nat.mul_le_mul_left (f+1) (jeO l 16);have h3:ksK (jac (f+1)) l 16=(List.range 16).flatMap fun i=>if (cutL i l).length=0 then []else jbP (jac (f+1) (jal 1 (cutL i l))):=rfl
      rw[<-h3];exact Nat.le_trans h h2
  have:(f+1) * l.length=f * l.length+l.length:=by rw[Nat.succ_mul]
  omega
theorem jnY{l:List Pair}(h:jsd l):(jaF (jaL l)).length<=13 * l.length+1:=by
 by_cases h0:l=[]
 ·subst h0
  show (jaF (.mk (jaN (jav (jac 12) [])) (jaB (jac 12) []))).length<=_
  have:jaB (jac 12) []=[]:=rfl
  rw[this];simp[jaF,jaM]
 ·have h1:(jaF (jaL l)).length<=13 * (jaO l).length:=jmj 12 (jaO l) (fun e=>h0 (by unfold jaO at e;simpa using e))
  have h2:(jaO l).length=l.length:=by unfold jaO;rw[List.length_map]
  rw[h2]at h1;omega
section
attribute [local go_sem] Oper.semAt_some
theorem Tryz.makeMapSI(W:World):(Instr.makeMap 107 none).run Tryz.prog W=.ok (.map (some W.heap.size)) (W.alloc (.map #[] 0)):=by kernel_rfl
theorem jtp(w:World)(v:Value)(l:List Pair)(hc:jb2 w)(hv:RdP w v l)(h:jaG l=0):vQ 26 #[v] w fun e w'=>∃ u n,e=.returned (.tuple #[u,.int .i64 0])/\SRow w w' u n (ja7 (jaF (jaL l))):=by
 have hm:=jaP h
 obtain⟨a,c,rfl⟩:=hv.sl;have HV:=Hd hv;have HM:=Hd hm;have HC:=Hd hc;have H:=Hd h;have HL:=Hd hm.len
 obtain⟨T,hT⟩:=vE (jaL l)
 rw[<-hT];have HTR:=Hd hT;clear hv hm hc h hT;refine (callsIn_wide (n:=0)).1 ?_;refine callsIn_of_wp_marks Tryz.func26 rfl trivial ?_ rfl;simp only[Tryz.ntmps26,List.size_toArray,List.length_cons,List.length_nil,Nat.reduceAdd,Nat.reduceSub,Array.replicate_succ,Array.replicate_zero,List.push_toArray,List.append_toArray,List.nil_append,List.cons_append];gi_wp2_with fail
 refine⟨trivial,rfl,CallsIn.mono (callsIn_wide.2 (jgs w _ l HV.o (by have:=HL.o;omega) (fun p hp=>by have:=HM.o.size p hp;omega))) ?_⟩
 rintro e w1 ⟨rfl,hE⟩;rw[H.o];have HE:=Hd hE;have hw1:=hE.size;clear hE;have hmm:(Instr.makeMap 107 none).run Tryz.prog (w1.alloc (.cells #[.slice none 0 0] 34))=.ok (.map (some (w1.heap.size+1))) ((w1.alloc (.cells #[.slice none 0 0] 34)).alloc (.map #[] 0)):=by
  rw[<-World.size_alloc w1 (.cells #[.slice none 0 0] 34)];exact Tryz.makeMapSI _
 gi_wp2_with fail
 obtain⟨W6,hW6⟩:=vE (((w1.alloc (.cells #[.slice none 0 0] 34)).alloc (.map #[] 0)).alloc (.cells #[.map (some (w1.heap.size+1))] 107))
 rw[<-hW6];have hs6:W6.heap.size=w1.heap.size+3:=by rw[hW6];simp
 have E6:Ext w1 W6:=by rw[hW6];exact (((ExtR w1).alloc _).alloc _).alloc _
 have B5:Blk W6 w1.heap.size (.cells #[.slice none 0 0] 34):=by rw[hW6];exact ((Blk.new w1 _).alloc _).alloc _
 have BM:Blk W6 (w1.heap.size+1) (.map #[] 0):=by
  rw[hW6];have:=(Blk.new (w1.alloc (.cells #[.slice none 0 0] 34)) (.map #[] 0)).alloc (.cells #[.map (some (w1.heap.size+1))] 107);rwa [World.size_alloc]at this
 have B6:Blk W6 (w1.heap.size+2) (.cells #[.map (some (w1.heap.size+1))] 107):=by
  rw[hW6];have:=Blk.new ((w1.alloc (.cells #[.slice none 0 0] 34)).alloc (.map #[] 0)) (.cells #[.map (some (w1.heap.size+1))] 107);rwa [World.size_alloc,World.size_alloc]at this
 clear hW6 hmm
 refine⟨trivial,rfl,CallsIn.mono (callsIn_wide.2 (juu W6 _ l ((HV.o.ext HE.o).ext E6) (by have:=HL.o;omega) (fun p hp=>by have:=HM.o.size p hp;omega))) ?_⟩
 rintro e w7 ⟨u,rfl,hr⟩;have HR:=Hd hr.rd;have hX7:Ext W6 w7:=hr.ext;clear hr
 obtain⟨a2,c2,hu⟩:=HR.o.sl
 subst hu;have HX7:=Hd hX7;have HB5:=Hd (B5.keeps hX7 (fun h=>h));have HBM:=Hd (BM.keeps hX7 (fun h=>h));have HB6:=Hd (B6.keeps hX7 (fun h=>h));have HE7:=Hd ((HE.o.trans E6).trans hX7);have hs7:=hX7.size;clear B5 BM B6 E6 hX7;gi_wp2_with fail
 refine⟨trivial,rfl,CallsIn.mono (callsIn_wide.2 (jjl 12 (jaO l) (jbA HM.o) (by unfold jaO;rw[List.length_map];have:=HL.o;omega) w7 _ (HC.o.ext HE7.o) HR.o)) ?_⟩
 rintro e w8 ⟨k,rfl,hk,hE⟩;have hk:=jbB.mono (A':=fun x=>w7.heap.size<=x/\x < w8.heap.size) (fun x h1 h2=>⟨h1,h2⟩) _ _ hk
 obtain⟨at0,ha1,ha2,ha3⟩:=jwX _ _ hk
 have hs8:=hE.size;have HB5':=Hd (HB5.o.keeps hE (fun h=>h));have HBM':=Hd (HBM.o.keeps hE (fun h=>h));have HB6':=Hd (HB6.o.keeps hE (fun h=>h));have HE8:=Hd (HE7.o.trans hE);have HA3:=Hd ha3;have HA2:=Hd ha2;rw[<-ha1];clear hk ha1 ha2 ha3 hE HB5 HBM HB6 HE7 HX7 HR HE;gi_wp2_with fail
 refine⟨trivial,rfl,CallsIn.mono (callsIn_wide.2 (jyB w8 at0.root)) ?_⟩
 rintro e w9 ⟨rfl,hbx,hE⟩;have hpt:at0.pt=T:=HA2.o.trans HTR.o.symm;have hlen:(jaF at0.pt).length<=1000000:=by
  rw[hpt,HTR.o];have:=jnY HM.o;have:=HL.o;omega
 have hl9:=hbx.lt
 obtain⟨A,hA⟩:∃ A:Nat->Prop,A=fun x=>w7.heap.size<=x/\x < w8.heap.size:=⟨_,rfl⟩
 have S0:NodS w w1.heap.size w9.heap.size A w8.heap.size at0 (jaF at0.pt) 0 w9:=
  ⟨HE8.o.trans hE,⟨_,0,HB5'.o.keeps hE (fun h=>h),by simpa [ja7]using World.ownsRow_nil _ _ _ _,Nat.le_refl _,fun b hb=>by cases hb⟩,⟨[],0,HBM'.o.keeps hE (fun h=>h),fun x=>by simp[jaX,cntB,cntV]⟩,HB6'.o.keeps hE (fun h=>h),hbx,by rw[hA];exact AtIs.keeps hE (fun _ _ h=>h) _ HA3.o⟩
 have HS0:=Hd S0;have hAlo:∀ x,A x->w1.heap.size+2 < x/\x < w9.heap.size:=fun x hx=>by rw[hA]at hx;omega
 have hbx9:w1.heap.size+2 < w8.heap.size:=by omega
 obtain⟨L,hLd⟩:=vE (jaF at0.pt)
 have hit:=jwV A w8.heap.size at0 hlen;rw[<-hLd]at hit hlen HS0;have HIT:=Hd hit;have HLD:=Hd hLd;have HALO:=Hd hAlo;have HPT0:=Hd hpt;clear S0 hE hbx hA HE8 HB5' HBM' HB6' HA3 HA2 hpt hLd hit hAlo;unfold ptrV;gi_wp2_with fail
 refine jei (N:=L.length) (gf:=130) (lb:=#[.pointer (some ⟨w8.heap.size,0,none⟩)]) rfl (vX 130) HIT.o
  (fun k=>rfl) (NodS w w1.heap.size w9.heap.size A w8.heap.size at0 L) (fun _ _ _=>False) (fun k W W' h e=>h.st e) (fun _ _ _ _ h _=>h) (fun k W h=>⟨h.box,h.at'⟩)
  (fun k W o h=>h.put vO vO vO vO (fun x hx=>by have:=HALO.o x hx;omega) _)
  (fun k W o h=>h.put vO vO vO vO (fun x hx=>by have:=HALO.o x hx;omega) _) (fun _ _ _ _ h=>h)
  HS0.o (fun k=>{ tmps:=#[.slice a l.length c,undef,.slice none 0 0,.int .i64 0,.int .i64 0,.pointer (some ⟨w1.heap.size,0,none⟩),.pointer (some ⟨w1.heap.size+1+1,0,none⟩),.string (L.getD k ⟨#[]⟩),.slice a l.length c,.int .i64 0,.int .i64 0,.bool false,undef,.map (some (w1.heap.size+1)),.slice a l.length c,.slice a2 (jaO l).length c2,.pointer (some ⟨at0.root,0,none⟩),.func (.func 130) #[] #[.pointer (some ⟨w8.heap.size,0,none⟩)],.string (L.getD k ⟨#[]⟩),undef,undef,undef,undef,undef,undef,undef,undef,undef,undef,undef,undef,undef],defers:=[] })
  ?hassign ?hbody ?hdone ?hstop
 case hassign =>
  intro l2 j W K hK;unfold jpm;rw[jxm];simp only[List.set_cons_zero,List.set_cons_succ];gi_wp2;exact hK
 case hbody =>
  intro l2 k W hk h hlt
  obtain⟨v,n,h1,h2,h3,h4⟩:=h.var
  obtain⟨ad,cp,rfl⟩:=jaJ h2
  obtain⟨es,ck,h5,h6⟩:=h.tab
  obtain⟨x,hx⟩:=vE (L.getD k ⟨#[]⟩)
  rw[<-hx];have hLx:L.take (k+1)=L.take k++[x]:=by
   rw[List.take_succ_eq_append_getElem hk,hx,List.getD_eq_getElem?_getD,List.getElem?_eq_getElem hk];rfl
  obtain⟨cn,hcn⟩:=vE (cntB (L.take k) x)
  have hcl:cn<=1000000:=by
   rw[hcn];unfold cntB;refine Nat.le_trans List.count_le_length ?_;rw[List.length_map,List.length_take];omega
  have e6:=h6 x;rw[<-hcn]at e6;have hlk:(Instr.lookup 107 (.map (some (w1.heap.size+1))) (.string x) false).run Tryz.prog W=.ok (.int .i64 (cn:Int)) W:=by
   have:=jcF Tryz.ES Tryz.uMapSI h5 (Tryz.zeroI W) x.data.toList false
   rw[e6]at this;unfold cntV at this
   by_cases h0:cn=0
   ·rw[if_pos h0]at this;rw[h0];exact this
   ·rw[if_neg h0]at this;exact this
  obtain⟨es2,hes2⟩:=vE (jbn es x.data.toList (.int .i64 ((cn:Int)+1)) ck)
  obtain⟨ck2,hck2⟩:=vE (if (jaX es x.data.toList).isSome then ck else ck+1)
  obtain⟨W2,hW2⟩:=vE (W.putObj (w1.heap.size+1) (.map (Tryz.ES.arr es2) ck2))
  have hmu:(Instr.mapUpdate 107 (.map (some (w1.heap.size+1))) (.string x) (.int .i64 ((cn:Int)+1))).run Tryz.prog W=.ok () W2:=by
   have:=jci Tryz.ES Tryz.uMapSI h5 x.data.toList (.int .i64 ((cn:Int)+1))
   rw[<-hes2, <-hck2, <-hW2]at this;exact this
  have B2:Blk W2 (w1.heap.size+1) (.map (Tryz.ES.arr es2) ck2):=by rw[hW2];exact h5.put_same _
  have e7:∀ y:vB,jaX es2 y.data.toList=cntV (cntB (L.take (k+1)) y):=fun y=>by
   rw[hes2,jcQ,h6 y,hLx];have hc:cntB (L.take k++[x]) y=cntB (L.take k) y+(if x.data.toList=y.data.toList then 1 else 0):=by
    unfold cntB;rw[List.map_append,List.count_append,List.map_cons,List.map_nil,List.count_singleton]
    simp
   rw[hc]
   by_cases hxy:y.data.toList=x.data.toList
   ·have hyx:y=x:=ByteArray.ext (Array.ext' hxy)
    subst hyx;rw[if_pos rfl,if_pos rfl, <-hcn];unfold cntV;rw[if_neg vO];simp
   ·rw[if_neg hxy,if_neg (fun e=>hxy e.symm)];rfl
  have hlk2:(Instr.lookup 107 (.map (some (w1.heap.size+1))) (.string x) false).run Tryz.prog W2=.ok (.int .i64 ((cn:Int)+1)) W2:=by
   have:=jcF Tryz.ES Tryz.uMapSI B2 (Tryz.zeroI W2) x.data.toList false
   rw[hes2,jcQ,if_pos rfl]at this;exact this
  have K2:jae (fun b=>b=w1.heap.size+1) W W2:=by rw[hW2];exact jae.onePut _ _ _
  have q6:W.cell? ⟨w1.heap.size+1+1,0,none⟩=some (.map (some (w1.heap.size+1))):=h.mv.cell (i:=0) vF;have M2:=h.mv.keeps K2 vO;have q62:W2.cell? ⟨w1.heap.size+1+1,0,none⟩=some (.map (some (w1.heap.size+1))):=M2.cell (i:=0) vF;have V2:=h1.keeps K2 vO;have O2:=jaW h2 K2 (fun b hb e=>by have:=h4 b hb;omega);have X2:=h.box.keeps K2 vO;have A2:=AtIs.keeps K2 (fun y hy e=>by have:=HALO.o y hy;omega) _ h.at';have E2:=h.ext.trans' K2 (fun y hy e=>by omega);have hV2:=V2.cell (i:=0) (v:=.slice ad n cp) vF;have hV2f:W2.frozen? ⟨w1.heap.size,0,none⟩=false:=V2.frozen;have HMEM:=Hd (show memB (ja7 (L.take k)) x=true↔cn≠0 from by
   rw[jfh,ja9,hcn];unfold cntB;rw[<-Nat.pos_iff_ne_zero,List.count_pos_iff,List.mem_map]
   exact⟨fun hm=>⟨x,hm,rfl⟩,fun ⟨y,hy,e⟩=>by rw[<-show y=x from ByteArray.ext (Array.ext' e)];exact hy⟩)
  have HFS:=Hd (show ja7 (L.take (k+1))=addF (ja7 (L.take k)) x by rw[hLx,jfC]);have HTAB:=Hd (show ∃ es ck,Blk W2 (w1.heap.size+1) (.map (Tryz.ES.arr es) ck)/\∀ y:vB,jaX es y.data.toList=cntV (cntB (L.take (k+1)) y)from⟨es2,ck2,B2,e7⟩);have HK2:=Hd K2;have HM2:=Hd M2;have HV2:=Hd V2;have HO2:=Hd O2;have HX2:=Hd X2;have HA2:=Hd A2;have HE2:=Hd E2;have H4:=Hd h4;clear h h1 h2 h4 h5 h6 hx hLx hcn e6 hes2 hck2 hW2 B2 e7 K2 M2 V2 O2 X2 A2 E2 HS0
  obtain⟨i0,hi,hz0,hz1,hz2⟩:=info_parts Tryz.infoStr
  by_cases hc0:cn=0
  ·subst hc0
   have hnm:memB (ja7 (L.take k)) x=false:=by
    cases hm:memB (ja7 (L.take k)) x with
    | false=>rfl
    | true=>exact absurd rfl (HMEM.o.1 hm)
   have HNM:=Hd hnm;have hlk':(Instr.lookup 107 (.map (some (w1.heap.size+1))) (.string x) false).run Tryz.prog W=.ok (.int .i64 0) W:=hlk;have hmu':(Instr.mapUpdate 107 (.map (some (w1.heap.size+1))) (.string x) (.int .i64 1)).run Tryz.prog W=.ok () W2:=hmu;have hlk2':(Instr.lookup 107 (.map (some (w1.heap.size+1))) (.string x) false).run Tryz.prog W2=.ok (.int .i64 1) W2:=hlk2;clear hnm hlk hmu hlk2;gi_wp2_with (gi_at_builtin;refine jbV _ rfl (.tmp 27) (.tmp 29) 34 rfl 9 i0 _ 1 16 Tryz.uStrs hi hz0 hz1 hz2 rfl vI (.slice ad n cp) n _ rfl (jbe HO2.o ((ExtR W2).alloc _)) ⟨W2.heap.size,0,none⟩ 1 1 [.string x] rfl rfl (jaS (Blk.new W2 _)) (by simp[Value.oneCell']) (by unfold maxLen;omega) vO ?_;intro v' w6 r1 r2 r3;obtain⟨ad',cp',rfl⟩:=jaJ r1;have hV6:=(HV2.o.alloc _).keeps r2 (fun e=>by have:=H4.o _ e;omega);have q56:w6.cell? ⟨w1.heap.size,0,none⟩=some (.slice ad n cp):=hV6.cell (i:=0) vF;have f56:w6.frozen? ⟨w1.heap.size,0,none⟩=false:=hV6.frozen)
   have hadd:ja7 (L.take (k+1))=ja7 (L.take k)++[x]:=by rw[HFS.o];unfold addF;rw[if_neg (by rw[HNM.o];simp)]
   have r1':w6.ownsRow 0 9 1 (.slice ad' (n+1) cp') (n+1) ((ja7 (L.take (k+1))).map Value.string):=by rw[hadd,List.map_append];exact r1
   have K6:jae (fun b=>(Value.slice ad n cp).ownBlock=some b) W2 w6:=((jae.refl _ W2).alloc _).trans r2;have hv':∀ b,(Value.slice ad' (n+1) cp').ownBlock=some b->w9.heap.size+2<=b:=fun b hb=>by
    rcases r3 with r3 | r3
    ·exact H4.o b (r3 ▸ hb)
    ·have h9:=r3 b hb;have:=HK2.o.size;rw[World.size_alloc]at h9;omega
   have K7:jae (fun b=>b=w1.heap.size) w6 (w6.setCell ⟨w1.heap.size,0,none⟩ (.slice ad' (n+1) cp')):=jae.oneSet w6 ⟨w1.heap.size,0,none⟩ _;have nO:∀ b,b < w9.heap.size+2->¬(Value.slice ad n cp).ownBlock=some b:=fun b hb e=>by have:=H4.o b e;omega
   refine⟨((HK2.o.mono (fun y _ e=>?_)).trans (K6.mono (fun y _ e=>?_))).trans (K7.mono (fun y _ e=>?_)),?_⟩
   ·have e:y=_:=e;show y≠_/\y≠_;omega
   ·have:=H4.o y e;show y≠_/\y≠_;omega
   ·have e:y=_:=e;show y≠_/\y≠_;omega
   ·obtain⟨es3,ck3,hT1,hT2⟩:=HTAB.o
    exact⟨(HE2.o.trans' K6 (fun y hy e=>by have:=H4.o y e;omega)).trans' K7 (fun y hy e=>by have e:y=_:=e;omega),
     ⟨_,n+1,hV6.set_same (i:=0) _,jaW r1' K7 (fun b hb e=>by have:=hv' b hb;omega),by omega,hv'⟩,
     ⟨es3,ck3,(hT1.keeps K6 (nO _ vO)).keeps K7 vO,hT2⟩,(HM2.o.keeps K6 (nO _ vO)).keeps K7 vO,(HX2.o.keeps K6 (nO _ vO)).keeps K7 vO,
     AtIs.keeps K7 (fun y hy e=>by have:=HALO.o y hy;omega) _ (AtIs.keeps K6 (fun y hy=>nO y (by have:=HALO.o y hy;omega)) _ HA2.o)⟩
  ·have hc1:¬((cn:Int)+1=1):=by omega
   have hc2:(((cn:Int)+1) == 1)=false:=by simp;omega
   have hm:=HMEM.o.2 hc0;have HNM:=Hd hm;clear hm;gi_wp2_with fail
   have hadd:ja7 (L.take (k+1))=ja7 (L.take k):=by rw[HFS.o];unfold addF;rw[if_pos HNM.o]
   refine⟨HK2.o.mono (fun y _ e=>?_),?_⟩
   ·have e:y=_:=e;show y≠_/\y≠_;omega
   ·exact⟨HE2.o,⟨_,n,HV2.o,by rw[hadd];exact HO2.o,by omega,H4.o⟩,HTAB.o,HM2.o,HX2.o,HA2.o⟩
 case hdone =>
  intro W h hd
  obtain⟨v,n,h1,h2,h3,h4⟩:=h.var
  obtain⟨ad,cp,rfl⟩:=jaJ h2
  have q5:W.cell? ⟨w1.heap.size,0,none⟩=some (.slice ad n cp):=h1.cell (i:=0) vF;rw[List.take_length,HLD.o]at h2;have H2:=Hd h2;have H4:=Hd h4;have HX:=Hd h.ext;have HD:=Hd hd;have HPT:Hid (at0.pt=T):=HPT0.o;clear h h1 h2 h4 hd HS0;gi_wp2_with fail
  refine⟨by simp,.inl ⟨_,_,rfl,run_takeDeferred HD.o,?_⟩⟩
  refine⟨_,results_tmp2 rfl _ _ _,?_⟩
  have hK:=jae.onePut W w9.heap.size (.deferred none)
  refine⟨.slice ad n cp,n,rfl,⟨_,_,rfl⟩,by rw[<-HPT.o];exact jaW H2.o hK (fun b hb e=>by have:=H4.o b hb;omega),HX.o.putObj (.inr vO) _,fun b hb=>by have:=H4.o b hb;omega⟩
 case hstop=>intro c k W _ _ h;exact h.elim
end
theorem jmi(x:vB)(r:List vB):(ja7 (x :: r))[0]?=some x:=by
 unfold ja7;rw[List.foldl_cons];have h:∀ (r acc:List vB),acc[0]?=some x->(r.foldl addF acc)[0]?=some x:=by
  intro r;induction r with
  | nil=>intro acc h;exact h
  | cons y r ih =>
   intro acc h;rw[List.foldl_cons];refine ih _ ?_;unfold addF;split
   ·exact h
   ·rw[List.getElem?_append_left (List.getElem?_eq_some_iff.1 h).1];exact h
 exact h r _ (by simp[addF,memB])
theorem jiQ(T:PT):(ja7 (jaF T))[0]?=some T.text:=by
 obtain⟨t,ks⟩:=T
 unfold jaF;exact jmi t _
theorem jjI(x y:vB):(x.toList == y.toList)=decide (x=y):=by
 by_cases h:x=y
 ·simp[h]
 ·have h3:¬ x.toList=y.toList:=fun h2=>h (jdq h2)
  simp only[h,decide_false];exact beq_eq_false_iff_ne.2 h3
theorem jbX{t:vB}:∀ {ks:List PT},t∈jaM ks↔∃ T∈ks,t∈jaF T
 | []=>by simp[jaM]
 | T :: ks=>by
  unfold jaM;rw[List.mem_append,jbX (ks:=ks)];constructor
  ·rintro (h |⟨T',h1,h2⟩)
   ·exact⟨T,List.mem_cons_self,h⟩
   ·exact⟨T',List.mem_cons_of_mem _ h1,h2⟩
  ·rintro⟨T',h1,h2⟩
   rcases List.mem_cons.1 h1 with rfl | h1
   ·exact .inl h2
   ·exact .inr ⟨T',h1,h2⟩
theorem jyA{P:Program}{f:FuncId}{args:Array Value}{w:World}{R R':Value->World->Prop}
  (h:Calls P f args w fun | .returned v,w'=>R v w' | _,_=>False) (h':Calls P f args w fun | .returned v,w'=>R' v w' | _,_=>False) (hi:P.inits.idxOf? f=none) :
  ∃ v w',R v w'/\R' v w':=by
 obtain⟨n,v,w1,e1,r1⟩:=h.done hi
 obtain⟨m,v',w2,e2,r2⟩:=h'.done hi
 have a:=runN_ended e1 m;have b:=runN_ended e2 n;rw[Nat.add_comm,a]at b;injection b with ho hw;injection ho with hv;subst hv hw
 exact⟨_,_,r1,r2⟩
theorem jsf{P:Program}{f:FuncId}{args:Array Value}{w:World}{a b:Value}{R R':World->Prop}
  (h:Calls P f args w fun e w'=>e=.returned a/\R w') (h':Calls P f args w fun e w'=>e=.returned b/\R' w') (hi:P.inits.idxOf? f=none):a=b:=by
 obtain⟨v,w',h1,h2⟩:=jyA (R:=fun v _=>v=a) (R':=fun v _=>v=b)
  (h.mono fun e w' hh=>by obtain⟨rfl,_⟩:=hh;rfl) (h'.mono fun e w' hh=>by obtain⟨rfl,_⟩:=hh;rfl) hi
 exact h1.symm.trans h2
theorem jq0{n m:jad}(h:n.V=m.V):n=m:=by
 obtain⟨k,p,v,rs⟩:=n
 obtain⟨k',p',v',rs'⟩:=m
 unfold jad.V jad.cells at h;injection h with h;have h:=congrArg Array.toList h;simp only[List.toList_toArray,List.cons.injEq,Value.int.injEq,Value.string.injEq]at h
 obtain⟨⟨_,h1⟩,h2,h3,h4⟩:=h
 have h5:rs=rs':=by
  have:∀ a b:List vB,a.map Value.string=b.map Value.string->a=b:=fun a=>by
   induction a with
   | nil=>intro b hb;cases b with | nil=>rfl | cons x y=>cases hb
   | cons x r ih =>
    intro b hb;cases b with
    | nil=>cases hb
    | cons y t =>
     simp only[List.map_cons,List.cons.injEq,Value.string.injEq]at hb;rw[hb.1,ih t hb.2]
  exact this _ _ h4
 have h1:k=k':=by omega
 subst h1 h2 h3 h5;rfl
theorem jlb(w:World){f g:Nat}{n m:jad}(hn:jbx (InlD f) n)(hm:jbx (InlD g) m)(h:jaN n=jaN m):n=m:=by
 have h1:=jhN (inlP f) w n hn;have h2:=jhN (inlP g) w m hm;rw[h]at h1
 have:=jsf h1 h2 vY
 injection this with this
 have:=congrArg Array.toList this
 simp only[List.toList_toArray,List.cons.injEq]at this;exact jq0 this.1
theorem joW{T:PT}(h:T.text.size < 32):refB T.text=T.text:=by unfold refB;rw[if_pos h]
theorem jjZ{T:PT}(h:¬ T.text.size < 32):refB T.text=jao (shaB T.text):=by unfold refB;rw[if_neg h]
theorem jox{f:Nat}{T:PT}{n:jad}(h:jeL f T n)(hs:T.text.size < 32):jaF T=[T.text]:=by
 have hk:=h.small hs
 obtain⟨x,ks⟩:=T
 have hk:ks=[]:=hk;subst hk;unfold jaF jaM;rfl
theorem jnn{T:PT}(h:¬ T.text.size < 32):jaM (jbP T)=jaF T:=by
 unfold jbP;rw[if_neg h];simp[jaM]
theorem jdK(T:PT):T.text∈jaF T:=by cases T;unfold jaF;exact List.mem_cons_self
theorem jb1{l:List Pair}(h:jaA 0 l):l.length<=1:=by
 rcases Nat.lt_or_ge l.length 2 with h2 | h2
 ·omega
 ·obtain⟨a,ha⟩:∃ a,l[0]?=some a:=⟨_,List.getElem?_eq_getElem vO⟩
  obtain⟨b,hb⟩:∃ b,l[1]?=some b:=⟨_,List.getElem?_eq_getElem vO⟩
  have hlt:=jb0 h.rise vO ha hb
  have:=(h.size b (List.mem_of_getElem? hb)).1
  rw[show b.l=[]from List.eq_nil_of_length_eq_zero (by show b.1.size=0;omega)]at hlt;exact absurd hlt (not_lt_nil _)
theorem jbt{a b:vB}(h:a.data.toList=b.data.toList):a=b:=by
 obtain⟨⟨a⟩⟩:=a
 obtain⟨⟨b⟩⟩:=b
 simp only at h;subst h;rfl
def jcB(r:vB):Option vB:=(cutN r).bind (jfZ r)
def jaU(n:jad):List vB:=n.refs.filterMap jcB
theorem jf0:jcB ⟨#[]⟩=none:=by
 unfold jcB cutN;rw[dif_neg vI];rfl
theorem jdZ{h:vB}(hs:h.size=32):jcB (jao h)=some h:=by
 obtain⟨r,h1,h2⟩:=jf1 h hs
 unfold jcB;rw[h1];exact h2
theorem jdw{I:vB->jad->Prop}(HI:InlP I){r:vB}{m:jad}(h:I r m):jcB r=none:=by
 obtain⟨q,h1,h2⟩:=HI.nohash r m h
 unfold jcB;rw[h1];exact h2
theorem jkV{f:Nat}{T:PT}{n:jad}(h:jeL f T n):(jcB (refB T.text)).toList=(jbP T).map fun k=>shaB k.text:=by
 by_cases hs:T.text.size < 32
 ·rw[jdw (inlP (f+1)) (h.may.2 hs)]
  unfold jbP;rw[if_pos hs];rfl
 ·rw[jjZ hs,jdZ (jbF _)]
  unfold jbP;rw[if_neg hs];rfl
theorem jd1(k:Nat):(jam k).filterMap jcB=[]:=by
 unfold jam;rw[List.filterMap_eq_nil_iff];intro r hr;rw[List.eq_of_mem_replicate hr,jf0]
theorem jhM{α:Type}(g:α->vB)(k:α->List PT):∀ L:List α,(∀ i∈L,(jcB (g i)).toList=(k i).map fun k=>shaB k.text)->(L.map g).filterMap jcB=(L.flatMap k).map fun k=>shaB k.text
 | [],_=>rfl
 | x :: L,h=>by
  rw[List.map_cons,List.flatMap_cons,List.map_append, <-jhM g k L fun i hi=>h i (List.mem_cons_of_mem _ hi), <-h x List.mem_cons_self,List.filterMap_cons];cases jcB (g x) <;> rfl
theorem jeR(f:Nat)(l:List Pair)(h:jaA f l):jaU (jav (jac f) l)=(jaB (jac f) l).map fun k=>shaB k.text:=by
 unfold jaU
 by_cases h0:l.length=0
 ·have e1:jav (jac f) l=jar:=by unfold jav;rw[if_pos h0]
  have e2:jaB (jac f) l=[]:=by unfold jaB;rw[if_pos vO]
  rw[e1,e2];exact jd1 16
 by_cases h1:l.length=1
 ·have e1:jav (jac f) l=⟨1,(l.getD 0 pd).1,(l.getD 0 pd).2,jam 16⟩:=by unfold jav;rw[if_neg h0,if_pos h1]
  have e2:jaB (jac f) l=[]:=by unfold jaB;rw[if_pos vO]
  rw[e1,e2];exact jd1 16
 have h2:2<=l.length:=by omega
 cases f with
 | zero=>have:=jb1 h;omega
 | succ f =>
  by_cases hk:0 < comK l
  ·have hcom:=jbu h h2
   have hok:jaA f (jal (comK l) l):=(jcv (comK l) h (fun p hp q hq=>(hcom p hp).1.trans (hcom q hq).1.symm) (fun p hp=>(hcom p hp).2)).mono vO;have hne:jal (comK l) l≠[]:=fun e=>by have:=jaH (comK l) l;rw[e]at this;simp at this;omega
   have hst:=(good f _ hok).2.1 hne;have e1:jav (jac (f+1)) l=⟨2,(l.getD 0 pd).1.extract 0 (comK l),⟨#[]⟩,refB (jac (f+1) (jal (comK l) l)).text :: jam 15⟩:=by unfold jav;rw[if_neg h0,if_neg h1,if_pos hk]
   have e2:jaB (jac (f+1)) l=jbP (jac (f+1) (jal (comK l) l)):=by unfold jaB;rw[if_neg vO,if_pos hk]
   rw[e1,e2, <-jkV hst];show (refB (jac (f+1) (jal (comK l) l)).text :: jam 15).filterMap jcB=_;rw[List.filterMap_cons,jd1];cases jcB (refB (jac (f+1) (jal (comK l) l)).text) <;> rfl
  ·have e1:(jav (jac (f+1)) l).refs=(List.range 16).map fun i=>if (cutL i l).length=0 then ⟨#[]⟩else refB (jac (f+1) (jal 1 (cutL i l))).text:=by unfold jav;rw[if_neg h0,if_neg h1,if_neg hk]
   have e2:jaB (jac (f+1)) l=(List.range 16).flatMap fun i=>if (cutL i l).length=0 then []else jbP (jac (f+1) (jal 1 (cutL i l))):=by unfold jaB;rw[if_neg vO,if_neg hk]
   rw[e1,e2];refine jhM _ _ _ fun i hi=>?_
   by_cases hc:(cutL i l).length=0
   ·rw[if_pos hc,if_pos hc,jf0];rfl
   ·rw[if_neg hc,if_neg hc]
    exact jkV ((good f _ (jeb i h)).2.1 (fun e=>by have:=jaH 1 (cutL i l);rw[e]at this;simp at this;omega))
theorem jkw{f:Nat}{l:List Pair}(h:jaA f l){K:PT}(hK:K∈jaB (jac f) l):∃ g m,f=g+1/\K=jac (g+1) m/\jaA g m/\32<=K.text.size:=by
 have held:∀ {T:PT},K∈jbP T->K=T/\32<=K.text.size:=fun {T} h=>by
  unfold jbP at h;split at h
  ·cases h
  ·rw[List.mem_singleton]at h;subst h;exact⟨rfl,by omega⟩
 unfold jaB at hK
 by_cases h1:l.length<=1
 ·rw[if_pos h1]at hK;cases hK
 rw[if_neg h1]at hK;cases f with
 | zero=>have:=jb1 h;omega
 | succ f =>
  by_cases hk:0 < comK l
  ·rw[if_pos hk]at hK
   have hcom:=jbu h vO;have hok:jaA f (jal (comK l) l):=(jcv (comK l) h (fun p hp q hq=>(hcom p hp).1.trans (hcom q hq).1.symm) (fun p hp=>(hcom p hp).2)).mono vO
   obtain⟨e,hs⟩:=held hK
   exact⟨f,_,rfl,e,hok,hs⟩
  ·rw[if_neg hk]at hK
   obtain⟨i,_,hK⟩:=List.mem_flatMap.1 hK
   split at hK
   ·cases hK
   ·obtain⟨e,hs⟩:=held hK
    exact⟨f,_,rfl,e,jeb i h,hs⟩
def jbK(t:vB)(n:jad):Prop:=t=jaN n/\∃ g,jbx (InlD g) n
structure jpe(L B:List vB):Prop where
 node:∀ t∈L,∃ n,jbK t n/\∀ h∈jaU n,∃ t'∈L,h=shaB t'
 told:∀ t∈B,32<=t.size/\∃ t'∈L,∃ n,jbK t' n/\shaB t∈jaU n
theorem jw6:∀ (f:Nat) (l:List Pair),jaA f l->jpe (jaF (jac (f+1) l)) (jaM (jaB (jac f) l)):=by
 intro f;induction f with
 | zero =>
  intro l h;have e2:jaB (jac 0) l=[]:=by have:=jb1 h;unfold jaB;rw[if_pos vO]
  have eT:jaF (jac (0+1) l)=[jaN (jav (jac 0) l)]:=by
   show jaF (.mk (jaN (jav (jac 0) l)) (jaB (jac 0) l))=_;rw[jaF,e2];simp[jaM]
  have hh:=jeR 0 l h;rw[e2]at hh;rw[eT,e2]
  refine⟨fun t ht=>?_,fun t ht=>by simp[jaM]at ht⟩
  rw[List.mem_singleton]at ht
  exact⟨_,⟨ht,0,(good 0 l h).1⟩,fun x hx=>by rw[hh]at hx;cases hx⟩
 | succ f ih =>
  intro l h;have eT:jaF (jac (f+1+1) l)=jaN (jav (jac (f+1)) l) :: jaM (jaB (jac (f+1)) l):=by
   show jaF (.mk (jaN (jav (jac (f+1)) l)) (jaB (jac (f+1)) l))=_;rw[jaF]
  have hh:=jeR (f+1) l h;have hroot:jbK (jaN (jav (jac (f+1)) l)) (jav (jac (f+1)) l):=⟨rfl,f+1,(good (f+1) l h).1⟩;have hsub:∀ {K:PT},K∈jaB (jac (f+1)) l->∀ t∈jaF K,t∈jaF (jac (f+1+1) l):=fun {K} hK t ht=>by
   rw[eT];exact List.mem_cons_of_mem _ (jbX.2 ⟨K,hK,ht⟩)
  have hkid:∀ {K:PT},K∈jaB (jac (f+1)) l->∃ m,K=jac (f+1) m/\jaA f m/\32<=K.text.size:=fun {K} hK=>by
   obtain⟨g,m,e,h1,h2,h3⟩:=jkw h hK
   obtain rfl:f=g:=by omega
   exact⟨m,h1,h2,h3⟩
  constructor
  ·intro t ht
   rw[eT]at ht;rcases List.mem_cons.1 ht with rfl | ht
   ·refine⟨_,hroot,fun x hx=>?_⟩
    rw[hh]at hx
    obtain⟨K,hK,rfl⟩:=List.mem_map.1 hx
    exact⟨_,hsub hK _ (jdK K),rfl⟩
   ·obtain⟨K,hK,ht⟩:=jbX.1 ht
    obtain⟨m,rfl,hm,_⟩:=hkid hK
    obtain⟨n,h1,h2⟩:=(ih m hm).node t ht
    exact⟨n,h1,fun x hx=>by obtain⟨t',ht',e⟩:=h2 x hx;exact⟨t',hsub hK _ ht',e⟩⟩
  ·intro t ht
   obtain⟨K,hK,ht⟩:=jbX.1 ht
   obtain⟨m,rfl,hm,h32⟩:=hkid hK
   have eK:jaF (jac (f+1) m)=jaN (jav (jac f) m) :: jaM (jaB (jac f) m):=by
    show jaF (.mk (jaN (jav (jac f) m)) (jaB (jac f) m))=_;rw[jaF]
   rw[eK]at ht;rcases List.mem_cons.1 ht with rfl | ht
   ·refine⟨h32,_,?_,_,hroot,?_⟩
    ·rw[eT];exact List.mem_cons_self
    ·rw[hh];exact List.mem_map.2 ⟨_,hK,rfl⟩
   ·obtain⟨h1,t',ht',n,h2,h3⟩:=(ih m hm).told t ht
    exact⟨h1,t',hsub hK _ ht',n,h2,h3⟩
theorem jgU(l:List vB):(ja7 l).Nodup:=by
 unfold ja7
 have:∀ (l acc:List vB),acc.Nodup->(l.foldl addF acc).Nodup:=fun l=>by
  induction l with
  | nil=>exact fun _ h=>h
  | cons x r ih =>
   intro acc h;rw[List.foldl_cons];refine ih _ ?_;unfold addF;split
   ·exact h
   ·rename_i hn
    have hm:x ∉ acc:=fun hx=>hn ((jfh acc x).2 hx);rw[List.nodup_append]
    exact⟨h,by simp,fun a ha b hb e=>by simp at hb;subst hb;subst e;exact hm ha⟩
 exact this l [] (by simp)
structure jwR(L:List vB)(top:vB):Prop where
 head:L[0]?=some top
 nodup:L.Nodup
 node:∀ t∈L,∃ n,jbK t n/\∀ h∈jaU n,∃ t'∈L,h=shaB t'
 told:∀ (i:Nat) t,L[i+1]?=some t->32<=t.size/\∃ t'∈L,∃ n,jbK t' n/\shaB t∈jaU n
theorem jkb{l:List Pair}(h:jaG l=0):jwR (ja7 (jaF (jaL l))) (jaL l).text:=by
 have hc:=jw6 12 (jaO l) (jbA (jaP h));have eT:jaF (jaL l)=(jaL l).text :: jaM (jaB (jac 12) (jaO l)):=by
  show jaF (.mk (jaN (jav (jac 12) (jaO l))) (jaB (jac 12) (jaO l)))=_;rw[jaF];rfl
 have hc:jpe (jaF (jaL l)) (jaM (jaB (jac 12) (jaO l))):=hc;have hnd:=jgU (jaF (jaL l))
 refine⟨jiQ _,hnd,fun t ht=>?_,fun i t ht=>?_⟩
 ·obtain⟨n,h1,h2⟩:=hc.node t ((ja9 _ _).1 ht)
  exact⟨n,h1,fun x hx=>by obtain⟨t',ht',e⟩:=h2 x hx;exact⟨t',(ja9 _ _).2 ht',e⟩⟩
 ·have hm:=(ja9 _ _).1 (List.mem_of_getElem? ht)
  have hne:t≠(jaL l).text:=fun e=>by
   have h0:=jiQ (jaL l)
   obtain⟨h1,e1⟩:=List.getElem?_eq_some_iff.1 ht
   obtain⟨h2,e2⟩:=List.getElem?_eq_some_iff.1 h0
   exact List.pairwise_iff_getElem.1 hnd 0 (i+1) h2 h1 vO (e2.trans (e.symm.trans e1.symm))
  rw[eT]at hm;rcases List.mem_cons.1 hm with e | hm
  ·exact absurd e hne
  ·obtain⟨h1,t',ht',n,h2⟩:=hc.told t hm
   exact⟨h1,t',(ja9 _ _).2 ht',n,h2⟩
theorem jdm(w:World){t:vB}{n m:jad}(h:jbK t n)(k:jbK t m):n=m:=by
 obtain⟨h1,f,h2⟩:=h
 obtain⟨k1,g,k2⟩:=k
 exact jlb w h2 k2 (h1.symm.trans k1)
def Inf(v t:vB):Prop:=v.data.toList <:+: t.data.toList
theorem Inf.trans{a b c:vB}(h:Inf a b)(k:Inf b c):Inf a c:=List.IsInfix.trans h k
theorem Inf.rfl'(a:vB):Inf a a:=List.infix_refl _
theorem jeD(a b:vB):Inf b (a++b):=⟨a.data.toList,[],by rw[ByteArray.data_append,Array.toList_append,List.append_nil]⟩
theorem jno(v:vB):Inf v (jao v):=by
 unfold jao;split
 ·exact Inf.rfl' v
 ·exact jeD _ _
theorem jqq{x:vB}:∀ {l:List vB},x∈l->Inf x (catB l)
 | y :: l,h=>by
  rcases List.mem_cons.1 h with rfl | h
  ·refine⟨[],(l.map (·.data.toList)).flatten,?_⟩
   show _=x.data.toList++(l.map (·.data.toList)).flatten
   simp
  ·obtain⟨s,t,e⟩:=jqq h
   have e:s++x.data.toList++t=(l.map (·.data.toList)).flatten:=e
   refine⟨y.data.toList++s,t,?_⟩
   show _=y.data.toList++(l.map (·.data.toList)).flatten;rw[<-e];simp
theorem jhd{x:vB}{l:List vB}(h:x∈l):Inf x (ja4 l):=(jqq h).trans (jeD _ _)
theorem jeL.inf{f:Nat}{T:PT}{n:jad}(h:jeL f T n){v t:vB}(ht:t∈jaF T)(hv:Inf v t):(∃ t∈jaM (jbP T),Inf v t)\/Inf v (refB T.text):=by
 by_cases hs:T.text.size < 32
 ·have hk:=h.small hs
  obtain⟨x,ks⟩:=T
  have hk:ks=[]:=hk;subst hk;unfold jaF jaM at ht;rw[List.mem_singleton]at ht;right;unfold refB;rw[if_pos hs, <-(show t=(PT.mk x []).text from ht)];exact hv
 ·left
  refine⟨t,?_,hv⟩
  unfold jbP;rw[if_neg hs,jbX]
  exact⟨T,List.mem_singleton.2 rfl,ht⟩
def jde(l:List Pair):Nat->Nat
 | 0=>0
 | n+1=>jde l n+(if (cutL n l).length=0 then 0 else 1)
theorem jgL(l:List Pair)(n:Nat):∀ d,jde l n<=jde l (n+d)
 | 0=>Nat.le_refl _
 | d+1=>by have:=jgL l n d;rw[show n+(d+1)=(n+d)+1 from rfl,jde];omega
theorem jh2{l:List Pair}{i n:Nat}(h:(cutL i l).length≠0)(hi:i < n):1<=jde l n:=by
 have:=jgL l (i+1) (n - (i+1))
 rw[show i+1+(n - (i+1))=n by omega,jde,if_neg h]at this;omega
theorem jf7{l:List Pair}{i j n:Nat}(h:(cutL i l).length≠0)(hj:(cutL j l).length≠0)(hij:i < j)(hn:j < n):2<=jde l n:=by
 have h1:=jh2 h hij
 have:=jgL l (j+1) (n - (j+1))
 rw[show j+1+(n - (j+1))=n by omega,jde,if_neg hj]at this;omega
theorem jqu(B:List Pair->PT)(l:List Pair)(hB:∀ i,(cutL i l).length≠0->(jaF (B (jal 1 (cutL i l)))).length+2<=3 * (cutL i l).length):∀ n,(jaM (ksK B l n)).length+2 * jde l n<=3 * jc4 l n
 | 0=>by simp[ksK,jaM,jc4,jde]
 | n+1=>by
  rw[jhg,jdg,List.length_append,jc4,jde]
  have:=jqu B l hB n
  by_cases h0:(cutL n l).length=0
  ·rw[if_pos h0,if_pos h0];simp[jaM];omega
  ·rw[if_neg h0,if_neg h0]
   have h1:=hB n h0;have h2:=jhT (B (jal 1 (cutL n l)));omega
theorem jkJ{l:List Pair}(h:∃ p∈l,p.l=[])(n:Nat):jc4 l n+1<=l.length:=by
 obtain⟨p,hp,e⟩:=h
 induction l with
 | nil=>cases hp
 | cons q r ih =>
  rw[jfy,List.length_cons];rcases List.mem_cons.1 hp with rfl | hp
  ·have:=jeO r n
   rw[e]
   have:hN [] n=0:=rfl
   omega
  ·have:=ih hp
   have:=jxo q.l n
   omega
theorem jp0{l:List Pair}{p:Pair}{x:UInt8}{r:List UInt8}(hp:p∈l)(hpx:p.l=x :: r):p∈cutL x.toNat l:=List.mem_filter.2 ⟨hp,by unfold jeW;rw[show p.1.data.toList=x :: r from hpx];simp⟩
theorem jfz{l:List Pair}{p:Pair}{x:UInt8}{r:List UInt8}(hp:p∈l)(hpx:p.l=x :: r):(cutL x.toNat l).length≠0:=fun h0=>by
 have:=jp0 hp hpx
 rw[List.eq_nil_of_length_eq_zero h0]at this;cases this
theorem jm8{k:Nat}{l:List Pair}{p:Pair}(h:p∈l):∃ q∈jal k l,q.2=p.2:=⟨_,List.mem_map_of_mem h,rfl⟩
structure juF(T:PT)(l:List Pair):Prop where
 all:(jaF T).length+2<=3 * l.length
 two:2<=l.length->comK l=0->(jaF T).length+3<=3 * l.length
 inf:∀ p∈l,∃ t∈jaF T,Inf p.2 t
theorem jnl(f:Nat){l:List Pair}(h:l.length=1):juF (jac (f+1) l) l:=by
 obtain⟨p,rfl⟩:=List.length_eq_one_iff.1 h
 have e:jaF (jac (f+1) [p])=[jk2 ⟨1,p.1,p.2,jam 16⟩]:=by
  show jaF (.mk (jaN (jav (jac f) [p])) (jaB (jac f) [p]))=_;have h1:jav (jac f) [p]=⟨1,p.1,p.2,jam 16⟩:=rfl;have h2:jaB (jac f) [p]=[]:=rfl;rw[h1,h2];rfl
 refine⟨by rw[e];simp,fun h2=>by simp at h2,fun q hq=>?_⟩
 rw[List.mem_singleton]at hq;subst hq;rw[e]
 refine⟨_,List.mem_singleton.2 rfl,(jno q.2).trans ?_⟩
 unfold jk2;exact jhd (by simp)
theorem grow:∀ (f:Nat) (l:List Pair),jaA f l->l≠[]->juF (jac (f+1) l) l:=by
 intro f;induction f with
 | zero =>
  intro l h hn;have h0:l.length≠0:=fun e=>hn (List.eq_nil_of_length_eq_zero e);have hl:l.length<=1:=by
   rcases Nat.lt_or_ge l.length 2 with h2 | h2
   ·omega
   ·obtain⟨a,ha⟩:∃ a,l[0]?=some a:=⟨_,List.getElem?_eq_getElem vO⟩
    obtain⟨b,hb⟩:∃ b,l[1]?=some b:=⟨_,List.getElem?_eq_getElem vO⟩
    have hlt:=jb0 h.rise vO ha hb
    have:=(h.size b (List.mem_of_getElem? hb)).1
    rw[show b.l=[]from List.eq_nil_of_length_eq_zero (by show b.1.size=0;omega)]at hlt;exact absurd hlt (not_lt_nil _)
  exact jnl 0 vO
 | succ f ih =>
  intro l h hn;have h0:l.length≠0:=fun e=>hn (List.eq_nil_of_length_eq_zero e)
  by_cases h1:l.length=1
  ·exact jnl (f+1) h1
  have h2:2<=l.length:=by omega
  have hcom:=jbu h h2;have eT:jaF (jac (f+1+1) l)=jaN (jav (jac (f+1)) l) :: jaM (jaB (jac (f+1)) l):=by
   show jaF (.mk (jaN (jav (jac (f+1)) l)) (jaB (jac (f+1)) l))=_;rw[jaF]
  by_cases hk:0 < comK l
  ·have hok:jaA f (jal (comK l) l):=(jcv (comK l) h (fun p hp q hq=>(hcom p hp).1.trans (hcom q hq).1.symm) (fun p hp=>(hcom p hp).2)).mono vO
   have hne:jal (comK l) l≠[]:=fun e=>by have:=jaH (comK l) l;rw[e]at this;simp at this;omega
   have hg:=ih _ hok hne
   obtain⟨_,i2,_⟩:=good f _ hok
   have hst:=i2 hne;have eB:jaB (jac (f+1)) l=jbP (jac (f+1) (jal (comK l) l)):=by
    unfold jaB;rw[if_neg vO,if_pos hk]
   have eN:jav (jac (f+1)) l=⟨2,(l.getD 0 pd).1.extract 0 (comK l),⟨#[]⟩,refB (jac (f+1) (jal (comK l) l)).text :: jam 15⟩:=by unfold jav;rw[if_neg h0,if_neg h1,if_pos hk]
   have hlen:=hg.two (by rw[jaH];omega) (jfU vO);rw[jaH]at hlen;have hh:=jhT (jac (f+1) (jal (comK l) l))
   refine⟨by rw[eT,eB,List.length_cons];omega,fun _ hz=>by omega,fun p hp=>?_⟩
   obtain⟨q,hq,e2⟩:=jm8 (k:=comK l) hp
   obtain⟨t,ht,hv⟩:=hg.inf q hq
   rw[e2]at hv;rw[eT,eB];rcases hst.inf ht hv with⟨t',ht',hv'⟩ | hv'
   ·exact⟨t',List.mem_cons_of_mem _ ht',hv'⟩
   ·refine⟨_,List.mem_cons_self,hv'.trans ?_⟩
    have:jaN (jav (jac (f+1)) l)=extB (jav (jac (f+1)) l):=by rw[eN];rfl
    rw[this,eN];unfold extB;exact jhd (by simp)
  ·have hkid:∀ i,(cutL i l).length≠0->jal 1 (cutL i l)≠[]:=fun i hi e=>by have:=jaH 1 (cutL i l);rw[e]at this;simp at this;omega
   have hg:∀ i,(cutL i l).length≠0->juF (jac (f+1) (jal 1 (cutL i l))) (jal 1 (cutL i l)):=fun i hi=>ih _ (jeb i h) (hkid i hi);have hst:∀ i,(cutL i l).length≠0->jeL f (jac (f+1) (jal 1 (cutL i l))) (jav (jac f) (jal 1 (cutL i l))):=fun i hi=>(good f _ (jeb i h)).2.1 (hkid i hi);have eB:jaB (jac (f+1)) l=ksK (jac (f+1)) l 16:=by
    unfold jaB;rw[if_neg vO,if_neg hk];rfl
   obtain⟨a,ha⟩:∃ a,l[0]?=some a:=⟨_,List.getElem?_eq_getElem vO⟩
   obtain⟨b,hb⟩:∃ b,l[l.length - 1]?=some b:=⟨_,List.getElem?_eq_getElem vO⟩
   have ga:l.getD 0 pd=a:=by rw[List.getD_eq_getElem?_getD,ha];rfl
   have gb:l.getD (l.length - 1) pd=b:=by rw[List.getD_eq_getElem?_getD,hb];rfl
   have ham:=List.mem_of_getElem? ha;have hbm:=List.mem_of_getElem? hb;have hlt:=jb0 h.rise vO ha hb
   obtain⟨rs,hrs⟩:=vE ((List.range 16).map fun i=>if (cutL i l).length=0 then (⟨#[]⟩:vB)else refB (jac (f+1) (jal 1 (cutL i l))).text)
   have eN:jav (jac (f+1)) l=⟨3,⟨#[]⟩,if a.1.size=0 then a.2 else ⟨#[]⟩,rs⟩:=by unfold jav;rw[if_neg h0,if_neg h1,if_neg hk,ga,hrs]
   have hlen:(jaM (jaB (jac (f+1)) l)).length+4<=3 * l.length:=by
    rw[eB];have hks:=jqu (jac (f+1)) l (fun i hi=>by have:=(hg i hi).all;rwa [jaH]at this) 16;have hkc:jaV a.l b.l=0:=by have:comK l=jaV a.l b.l:=(by unfold comK jak;rw[ga,gb]);omega
    cases hbl:b.l with
    | nil=>rw[hbl]at hlt;exact absurd hlt (not_lt_nil _)
    | cons y t =>
     have hy:=jcL (h.size b hbm).2.2.1 hbl;have cb:=jfz hbm hbl;cases hal:a.l with
     | nil =>
      have:=jkJ ⟨a,ham,hal⟩ 16
      have:=jh2 cb hy
      omega
     | cons x r =>
      have hx:=jcL (h.size a ham).2.2.1 hal;have ca:=jfz ham hal;have hxy:x≠y:=by
       intro e;rw[hal,hbl,e]at hkc;simp[jaV]at hkc
      have hne:x.toNat≠y.toNat:=fun e=>hxy (UInt8.toNat_inj.1 e)
      have:=jeO l 16
      have:2<=jde l 16:=by
       rcases Nat.lt_or_ge x.toNat y.toNat with e | e
       ·exact jf7 ca cb e hy
       ·exact jf7 cb ca vO hx
      omega
   refine⟨by rw[eT,List.length_cons];omega,fun _ _=>by rw[eT,List.length_cons];omega,fun p hp=>?_⟩
   have hnb:jaN (jav (jac (f+1)) l)=jdN (jav (jac (f+1)) l):=by rw[eN];rfl
   have hbx:jbH (jav (jac (f+1)) l)=ja0 rs (if a.1.size=0 then a.2 else ⟨#[]⟩):=by
    rw[jdl _ (by rw[eN,hrs];simp),eN]
   cases hpl:p.l with
   | nil =>
    have hpa:p=a:=by
     obtain⟨i,hi⟩:=List.getElem?_of_mem hp
     by_cases h00:i=0
     ·subst h00;rw[ha]at hi;exact (Option.some.inj hi).symm
     ·have:=jb0 h.rise vO ha hi
      rw[hpl]at this;exact absurd this (not_lt_nil _)
    subst hpa;have hz:p.1.size=0:=by show p.1.data.toList.length=0;rw[show p.1.data.toList=[]from hpl];rfl
    rw[eT]
    refine⟨_,List.mem_cons_self,(jno p.2).trans ?_⟩
    rw[hnb];unfold jdN;rw[hbx,if_pos hz];refine jhd ?_;unfold ja0;simp
   | cons x r =>
    have hx:=jcL (h.size p hp).2.2.1 hpl;have hc:=jfz hp hpl
    obtain⟨q,hq,e2⟩:=jm8 (k:=1) (jp0 hp hpl)
    obtain⟨t,ht,hv⟩:=(hg _ hc).inf q hq
    rw[e2]at hv;rw[eT,eB];rcases (hst _ hc).inf ht hv with⟨t',ht',hv'⟩ | hv'
    ·refine⟨t',List.mem_cons_of_mem _ ?_,hv'⟩
     obtain⟨T',hT',hm'⟩:=jbX.1 ht'
     refine jbX.2 ⟨T',?_,hm'⟩;unfold ksK;refine List.mem_flatMap.2 ⟨x.toNat,List.mem_range.2 hx,?_⟩;rw[if_neg hc];exact hT'
    ·refine⟨_,List.mem_cons_self,hv'.trans ?_⟩
     rw[hnb];unfold jdN;rw[hbx];refine jhd ?_;unfold ja0;refine List.mem_append.2 (.inl ?_);have hrm:refB (jac (f+1) (jal 1 (cutL x.toNat l))).text∈rs:=by
      rw[hrs];refine List.mem_map.2 ⟨x.toNat,List.mem_range.2 hx,?_⟩;rw[if_neg hc]
     refine List.mem_map.2 ⟨_,hrm,?_⟩;rw[if_neg (hst _ hc).may.1.pos]
theorem jo7{l:List Pair}(h:jaG l=0):(ja7 (jaF (jaL l))).length<=1+3 * l.length/\∀ p∈l,∃ t∈ja7 (jaF (jaL l)),Inf p.2 t:=by
 by_cases h0:l=[]
 ·subst h0
  refine⟨?_,by simp⟩
  have:=jgy (jaF (jaL []))
  have h1:=jnY (jaP h);simp at h1 ⊢;omega
 ·have hr:=jbA (jaP h)
  have hne:jaO l≠[]:=fun e=>h0 (by unfold jaO at e;simpa using e);have hg:=grow 12 (jaO l) hr hne;have h2:(jaO l).length=l.length:=by unfold jaO;rw[List.length_map]
  have h3:=hg.all;rw[h2]at h3;have h4:=jgy (jaF (jaL l));have h5:jaL l=jac (12+1) (jaO l):=rfl;rw[<-h5]at h3
  refine⟨by omega,fun p hp=>?_⟩
  obtain⟨t,ht,hv⟩:=hg.inf _ (List.mem_map_of_mem hp)
  exact⟨t,(ja9 _ _).2 ht,hv⟩
theorem jj0{f:Nat}{l:List Pair}(h:jaA f l)(hn:l≠[]):(refB (jac (f+1) l).text).size≠0:=((good f l h).2.1 hn).may.1.pos
theorem jgB(g:Nat->vB){i n:Nat}(h:i < n):((List.range n).map g).getD i ⟨#[]⟩=g i:=by
 rw[List.getD_eq_getElem?_getD,List.getElem?_map,List.getElem?_range h];rfl
theorem jna{f:Nat}{l m:List Pair}(hm:m≠[])(ho:jaA f m)(hk:jbP (jac (f+1) m) ⊆ jaB (jac (f+1)) l):∀ x∈jaF (jac (f+1) m),32<=x.size->x∈jaF (jac (f+1+1) l):=fun x hx h32=>by
 have eT:jaF (jac (f+1+1) l)=jaN (jav (jac (f+1)) l) :: jaM (jaB (jac (f+1)) l):=by
  show jaF (.mk (jaN (jav (jac (f+1)) l)) (jaB (jac (f+1)) l))=_;rw[jaF]
 rw[eT];have hst:=(good f m ho).2.1 hm
 by_cases hs:(jac (f+1) m).text.size < 32
 ·rw[jox hst hs,List.mem_singleton]at hx
  subst hx;omega
 ·refine List.mem_cons_of_mem _ (jbX.2 ⟨jac (f+1) m,hk ?_,hx⟩)
  unfold jbP;rw[if_neg hs];exact List.mem_singleton.2 rfl
section
attribute [local go_sem] Oper.semAt_some
def preB(p s:vB):Bool:=p.data.toList.isPrefixOf s.data.toList
theorem jnW:∀ (p s:List UInt8),p.isPrefixOf s=(decide (p.length<=s.length) && (s.take p.length == p))
 | [],s=>by simp
 | x :: p,[]=>by simp
 | x :: p,y :: s=>by
  have ih:=jnW p s;simp only[List.isPrefixOf,List.length_cons,List.take_succ_cons,ih,Nat.add_le_add_iff_right]
  by_cases h:x=y
  ·subst h;simp
  ·have:(y == x)=false:=by simpa using fun e=>h e.symm
   simp[h,this]
theorem jt1(s:vB)(n:Nat):(s.extract 0 n).toList=s.data.toList.take n:=by
 rw[ByteArray.toList_eq,ByteArray.data_extract,Array.toList_extract,List.extract_eq_take_drop];simp
theorem jjV(w:World)(s p:vB)(hs:s.size<=1000000)(hp:p.size<=1000000):vQ 163 #[.string s,.string p] w fun e w'=>e=.returned (.bool (preB p s))/\w'=w:=by
 have ht:=jnW p.data.toList s.data.toList;have e1:p.data.toList.length=p.size:=rfl;have e2:s.data.toList.length=s.size:=rfl;rw[e1,e2, <-jt1]at ht;have ht:preB p s=_:=ht
 by_cases hl:p.size<=s.size
 ·have b1:(p.size:Int)<=(s.size:Int):=by omega
  have b2:¬(s.size:Int) < (p.size:Int):=by omega
  have b3:((p.size:Int)).toNat=p.size:=by omega
  rw[decide_eq_true hl,Bool.true_and, <-ByteArray.toList_eq]at ht;rw[ht];clear ht e1 e2;go_enter Tryz.func163,Tryz.ntmps163;go_wp2_with fail
  go_ret
  exact⟨rfl,rfl⟩
 ·have b1:(s.size:Int) < (p.size:Int):=by omega
  rw[decide_eq_false hl,Bool.false_and]at ht;rw[ht];clear ht e1 e2;go_enter Tryz.func163,Tryz.ntmps163;go_wp2_with fail
  go_ret
  exact⟨rfl,rfl⟩
theorem jcA(w:World)(s p:vB)(hs:s.size<=1000000)(hp:p.size<=1000000):vQ 117 #[.string s,.string p] w fun e w'=>e=.returned (.bool (preB p s))/\w'=w:=by
 go_enter Tryz.func117,Tryz.ntmps117;go_wp2_with fail
 refine (jjV w s p hs hp).mono ?_;rintro e w1 ⟨rfl,rfl⟩;go_wp2_with fail
 go_ret
 exact⟨rfl,rfl⟩
theorem jus{W:World}{B:Nat}{T:TypeId}{sz:Nat}{v:Value}{n:Nat}{xs:List Value}(h:W.ownsRow B T sz v n xs){b:Nat}(hb:v.ownBlock=some b):b < W.heap.size:=by
 obtain⟨h1,h2 |⟨g,cap,cur,h2,h3,h4,h5⟩⟩:=h
 ·rw[h2.1]at hb;cases hb
 ·rw[h2]at hb
  have e:some g=some b:=hb;obtain rfl:=Option.some.inj e;exact (Array.getElem?_eq_some_iff.1 h4).1
end
theorem jq3(w:World)(v:Value)(l:List Pair)(hv:RdP w v l)(hn:l.length<=9223372036854775807)(hs:∀ p∈l,p.1.size<=9223372036854775807/\p.2.size<=9223372036854775807)(h:jaG l≠0):vR 26 #[v] w (.tuple #[.slice none 0 0,.int .i64 (jaG l)]):=by
 have hck:=jgs w v l hv hn hs
 obtain⟨a,c,rfl⟩:=hv.sl
 obtain⟨x,hx⟩:=vE (jaG l)
 rw[<-hx]at h hck ⊢;have hne:(x == 0)=false:=by simpa using h
 have HT:=Hd hck;clear hck hv hx hs;refine (callsIn_wide (n:=0)).1 ?_;refine callsIn_of_wp_marks Tryz.func26 rfl trivial ?_ rfl;simp only[Tryz.ntmps26,List.size_toArray,List.length_cons,List.length_nil,Nat.reduceAdd,Nat.reduceSub,Array.replicate_succ,Array.replicate_zero,List.push_toArray,List.append_toArray,List.nil_append,List.cons_append];gi_wp2_with fail
 refine⟨trivial,rfl,CallsIn.mono (callsIn_wide.2 HT.o) ?_⟩
 rintro e w1 ⟨rfl,hE⟩;have HE:=Hd hE;clear hE;gi_wp2_with fail
 refine⟨_,results_tmp2 rfl _ _ _,?_⟩
 exact⟨rfl,HE.o⟩
def je4(p:Pair):Bool:=decide (p.1.size<=20) && decide (p.2.size<=100)
def fewB(l:List Pair):Bool:=l.all je4 && decide (l.length<=45)
def jyj(w:World)(l:List Pair)(i:Value)(wr:World):Prop:=∃ k:Nat,k<=l.length/\k<=46/\i=.int .i64 k/\Ext w wr/\(l.take k).all je4=true
theorem jsg{l:List Pair}{k:Nat}{p:Pair}(h:l[k]?=some p):(l.take (k+1)).all je4=((l.take k).all je4 && je4 p):=by
 rw[List.take_add_one,h,List.all_append];simp
theorem jpn{l:List Pair}{k:Nat}{p:Pair}(h:l[k]?=some p)(hb:je4 p=false):fewB l=false:=by
 unfold fewB
 have:l.all je4=false:=by
  rw[Bool.eq_false_iff];intro h2
  have:=List.all_eq_true.1 h2 p (List.mem_of_getElem? h)
  rw[hb]at this;cases this
 rw[this];rfl
theorem jxj(w:World)(v:Value)(l:List Pair)(hv:RdP w v l)(hn:l.length<=9223372036854775807)(hs:∀ p∈l,p.1.size<=9223372036854775807/\p.2.size<=9223372036854775807) :
  vR 25 #[v] w (.bool (fewB l)):=by
 have HV:=Hd hv;have HS:=Hd hs
 obtain⟨a,c,rfl⟩:=hv.sl;clear hv hs
 obtain⟨R,hR⟩:=vE (fewB l)
 rw[<-hR];have HR:=Hd hR;clear hR;go_enter Tryz.func25,Tryz.ntmps25;go_wp2_with fail
 go_loopw [3] (fun i wr=>jyj w l i wr) (fun i _=>l.length - (intOf i).toNat)
 case atStart=>exact⟨0,by omega,by omega,rfl,ExtR w,rfl⟩
 case round =>
  obtain⟨k,hk,hk6,rfl,hE,hall⟩:=hrel
  have HE:=Hd hE;have HALL:=Hd hall;clear hE hall
  by_cases hlt:k < l.length
  ·have b1:(k:Int) < (l.length:Int):=by omega
   by_cases h45:k<=45
   ·have b2:(k:Int)<=45:=by omega
    obtain⟨p,hp⟩:∃ p,l[k]?=some p:=⟨_,List.getElem?_eq_getElem hlt⟩
    rcases HV.o with⟨_,_,_,h0⟩ |⟨b,o,c1,hh,hb,hc,hcell⟩
    ·rw[h0]at hlt;cases hlt
    cases hh
    obtain⟨q1,q2⟩:=hcell k p hp
    have q1:=jaa q1 HE.o;have q2:=jaa q2 HE.o;have hsp:=HS.o p (List.mem_of_getElem? hp);have HP:=Hd hp
    obtain⟨x,y⟩:=p
    simp only at q1 q2 hsp;clear hcell hb hc hp
    by_cases hx:20 < x.size
    ·have b3:(20:Int) < (x.size:Int):=by omega
     have HF:=Hd (show R=false by rw[HR.o];exact jpn HP.o (by unfold je4;simp;omega));clear hx;go_wp2_with fail
     go_ret
     exact⟨by rw[HF.o];rfl,HE.o⟩
    ·have b3:¬(20:Int) < (x.size:Int):=by omega
     by_cases hy:100 < y.size
     ·have b4:(100:Int) < (y.size:Int):=by omega
      have HF:=Hd (show R=false by rw[HR.o];exact jpn HP.o (by unfold je4;simp;omega));clear hx hy;go_wp2_with fail
      go_ret
      exact⟨by rw[HF.o];rfl,HE.o⟩
     ·have b4:¬(100:Int) < (y.size:Int):=by omega
      have HG:=Hd (show (l.take (k+1)).all je4=true by rw[jsg HP.o,HALL.o];unfold je4;simp;omega);clear hx hy;go_wp2_with fail
      go_roundw
      case rel=>exact⟨k+1,by omega,by omega,by go_num,HE.o,HG.o⟩
      case measure=>simp[intOf];omega
   ·have b2:¬(k:Int)<=45:=by omega
    have b3:¬(l.length:Int)<=45:=by omega
    have HF:=Hd (show R=false by rw[HR.o];unfold fewB;simp;omega);clear h45;go_wp2_with fail
    go_ret
    exact⟨by rw[HF.o];rfl,HE.o⟩
  ·have hkl:k=l.length:=by omega
   have b1:¬(k:Int) < (l.length:Int):=by omega
   have hall:=HALL.o;rw[hkl,List.take_length]at hall
   by_cases h45:l.length<=45
   ·have b2:(l.length:Int)<=45:=by omega
    have HF:=Hd (show R=true by rw[HR.o];unfold fewB;rw[hall];simp;omega);clear hkl hall h45;go_wp2_with fail
    go_ret
    exact⟨by rw[HF.o];rfl,HE.o⟩
   ·have b2:¬(l.length:Int)<=45:=by omega
    have HF:=Hd (show R=false by rw[HR.o];unfold fewB;simp;omega);clear hkl hall h45;go_wp2_with fail
    go_ret
    exact⟨by rw[HF.o];rfl,HE.o⟩
def jud(l:List Pair):Prop:=∀ p∈l,p.1.size<=9223372036854775807/\p.2.size<=9223372036854775807
theorem jd4(a b:vB):jdQ a b=true↔Lt a.data.toList b.data.toList:=by
 unfold jdQ;rw[ByteArray.toList_eq,ByteArray.toList_eq]
abbrev Pair.k(p:Pair):List UInt8:=p.1.data.toList
def look(m:List Pair)(k:List UInt8):Option vB:=(m.find? (fun p=>decide (k=p.k))).map (·.2)
theorem jtf(k:List UInt8):look [] k=none:=rfl
theorem jbf(q:Pair)(r:List Pair)(k:List UInt8):look (q :: r) k=if k=q.k then some q.2 else look r k:=by
 unfold look
 by_cases h:k=q.k <;> simp[List.find?_cons,h]
theorem jvr(a b:vB):(a.toList == b.toList)=decide (b.data.toList=a.data.toList):=by
 rw[ByteArray.toList_eq,ByteArray.toList_eq]
 by_cases h:b.data.toList=a.data.toList
 ·rw[h];simp
 ·rw[decide_eq_false h,Bool.eq_false_iff];intro e;exact h (eq_of_beq e).symm
def jlT(l:List Pair):Prop:=l.Pairwise fun p q=>Lt p.k q.k
theorem jeU{k:List UInt8}:∀ {m:List Pair},k ∉ m.map Pair.k->look m k=none
 | [],_=>rfl
 | q :: r,h=>by
  simp only[List.map_cons,List.mem_cons,not_or]at h;rw[jbf,if_neg h.1,jeU h.2]
theorem jk7:∀ (a b:List UInt8),Lt a b\/a=b\/Lt b a
 | [],[]=>.inr (.inl rfl)
 | [],_ :: _=>.inl jny
 | _ :: _,[]=>.inr (.inr jny)
 | a :: x,b :: y=>by
  rcases Nat.lt_trichotomy a.toNat b.toNat with h | h | h
  ·exact .inl (jbp.2 (.inl (UInt8.lt_iff_toNat_lt.2 h)))
  ·have e:=UInt8.toNat_inj.1 h
   subst e;rcases jk7 x y with h | h | h
   ·exact .inl (jbp.2 (.inr ⟨rfl,h⟩))
   ·exact .inr (.inl (by rw[h]))
   ·exact .inr (.inr (jbp.2 (.inr ⟨rfl,h⟩)))
  ·exact .inr (.inr (jbp.2 (.inl (UInt8.lt_iff_toNat_lt.2 h))))
theorem jjT{p q:Pair}(h1:p.k=q.k)(h2:p.2=q.2):p=q:=by
 obtain⟨⟨⟨a⟩⟩,b⟩:=p
 obtain⟨⟨⟨c⟩⟩,d⟩:=q
 simp only[Pair.k]at h1 h2;subst h1;subst h2;rfl
theorem jly:∀ {a b:List Pair},jlT a->jlT b->(∀ k,look a k=look b k)->a=b
 | [],[],_,_,_=>rfl
 | [],q :: b,_,_,h=>by have:=h q.k;rw[jbf,if_pos rfl]at this;cases this
 | p :: a,[],_,_,h=>by have:=h p.k;rw[jbf,if_pos rfl]at this;cases this
 | p :: a,q :: b,h1,h2,h=>by
  have hp:=List.pairwise_cons.1 h1;have hq:=List.pairwise_cons.1 h2;have out:∀ (x:List UInt8) (y:Pair) (m:List Pair),(∀ z∈m,Lt y.k z.k)->Lt x y.k->look (y :: m) x=none:=fun x y m hm hl=>by
   refine jeU fun hmem=>?_;rw[List.map_cons,List.mem_cons]at hmem;rcases hmem with e | hmem
   ·exact lt_irrefl _ (e ▸ hl)
   ·obtain⟨z,hz,e⟩:=List.mem_map.1 hmem
    exact lt_irrefl _ (jd5 _ _ _ hl (e ▸ hm z hz))
  have hk:p.k=q.k:=by
   rcases jk7 p.k q.k with e | e | e
   ·have:=h p.k
    rw[out p.k q b hq.1 e,jbf,if_pos rfl]at this;cases this
   ·exact e
   ·have:=h q.k
    rw[out q.k p a hp.1 e,jbf,if_pos rfl]at this;cases this
  have hv:p.2=q.2:=by
   have:=h p.k
   rw[jbf,if_pos rfl,jbf,if_pos hk]at this;exact Option.some.inj this
  have e:=jjT hk hv;subst e
  have:a=b:=jly hp.2 hq.2 fun k=>by
   have hh:=h k;rw[jbf,jbf]at hh
   by_cases e:k=p.k
   ·have n1:∀ m:List Pair,(∀ z∈m,Lt p.k z.k)->look m k=none:=fun m hm=>jeU fun hmem=>by
     obtain⟨z,hz,e2⟩:=List.mem_map.1 hmem
     have:=hm z hz
     rw[e2,e]at this;exact lt_irrefl _ this
    rw[n1 a hp.1,n1 b hq.1]
   ·rwa [if_neg e,if_neg e]at hh
  rw[this]
theorem jnD:∀ {a b:List UInt8},jcp a=jcp b->a=b
 | [],[],_=>rfl
 | [],y :: b,h=>by simp[jcp]at h
 | x :: a,[],h=>by simp[jcp]at h
 | x :: a,y :: b,h=>by
  have h:(x >>> 4) ::(x &&& 15) :: jcp a=(y >>> 4) ::(y &&& 15) :: jcp b:=h;injection h with h1 h;injection h with h2 h;have a1:=congrArg UInt8.toNat h1;have a2:=congrArg UInt8.toNat h2;rw[jk8,jk8]at a1;rw[jk9,jk9]at a2;rw[jnD h,show x=y from UInt8.toNat_inj.1 vO]
end Go.Proofs.YtcpnjmcipainpaaGreatDoor
