/- Parts of the proof, one behind the other: CanonJ, CanonK, CanonL, CanonM, CanonN, CanonO, TextsA, GrowA, RefPl, PreB, CanonPb, FewB, SmallA, Rises, OnlyA. Each is under no condition but those that it states. -/
import Derived.Test.YtpaacnhboilkkaaGreatDoorPt18
import Derived.Test.YtpaacnhboilkkaaGreatDoorPt10
import Derived.Test.YtpaacnhboilkkaaGreatDoorPt4
namespace Go.Proofs.YtpaacnhboilkkaaGreatDoor
set_option linter.unusedSimpArgs false
set_option linter.unusedVariables false
set_option maxRecDepth 100000
set_option maxHeartbeats 16000000
section
open Go Go.RowKit
def ksK(B:List Pair→PT)(l:List Pair)(k:Nat):List PT:=(List.range k).flatMap fun i=>if (cutL i l).length=0 then []else heldK (B (dropL 1 (cutL i l)))
theorem ksK_step(B:List Pair→PT)(l:List Pair)(k:Nat):ksK B l (k+1)=ksK B l k++(if (cutL k l).length=0 then []else heldK (B (dropL 1 (cutL k l)))):=by
 unfold ksK;rw[List.range_succ,List.flatMap_append];simp
def BldRel(w:World)(bn:Nat)(B:List Pair→PT)(l:List Pair)(rs:List ByteArray)(i:Value)(wr:World):Prop:=∃ k:Nat,k≤16∧i=.int .i64 k∧∃ u bs,HoldS w wr w.heap.size bn ⟨#[]⟩ (ksK B l k) u bs∧bs.length≤k∧Blk wr bn (.cells (brN rs k).cells.toArray 144)
theorem wp_callop{P:Program}{o:Oper}{a:Act}{w:World}{K:Act→World→Prop}{Q:Exit→Act→World→Prop}{f:FuncId}{args:Array Value}(hv:(execOp a.eval o).run P w=.ok (.enter f args) w)(h:Calls P f args w (fun e w2=>∃ v,e=.returned v∧K (a.put o.dst v) w2)):o.wp P a w K Q:=by
 unfold Oper.wp;rw[hv]
 exact h.mono fun e w2 ⟨v,he,hk⟩=>by subst he;exact hk
theorem Tryz.enterCut:∀ args w,(callFunc 119 args).run Tryz.prog w=.ok (.enter 119 args) w:=fun _ _=>by kernel_rfl
theorem Tryz.enterWithout:∀ args w,(callFunc 118 args).run Tryz.prog w=.ok (.enter 118 args) w:=fun _ _=>by kernel_rfl
theorem Tryz.enterHold:∀ args w,(callFunc 117 args).run Tryz.prog w=.ok (.enter 117 args) w:=fun _ _=>by kernel_rfl
theorem build_branch(f:Nat)(l:List Pair)(h2:2≤l.length)(hln:l.length≤1000)(hok:RowsOk (f+1) l)(hk:¬ 0 < comK l)(HB:∀ i,(cutL i l).length≠0→BuildC (dropL 1 (cutL i l)) (buildT (f+1) (dropL 1 (cutL i l)))):BuildC l (buildT (f+1+1) l):=by
 intro w v hc hv
 obtain⟨a,ha⟩:∃ a,l[0]?=some a:=⟨_,List.getElem?_eq_getElem (by omega)⟩
 obtain⟨z,hz⟩:∃ z,l[l.length - 1]?=some z:=⟨_,List.getElem?_eq_getElem (by omega)⟩
 have ga:l.getD 0 pd=a:=by rw[List.getD_eq_getElem?_getD,ha];rfl
 have gz:l.getD (l.length - 1) pd=z:=by rw[List.getD_eq_getElem?_getD,hz];rfl
 obtain⟨sa1,sa2,sa3,sa4,sa5⟩:=hok.size a (List.mem_of_getElem? ha)
 obtain⟨sz1,sz2,sz3,sz4,sz5⟩:=hok.size z (List.mem_of_getElem? hz)
 have hgood:=(good (f+1) l hok).1
 have hrd:=hv
 rcases hv with⟨_,_,_,h0⟩ |⟨b,o,c,rfl,hb,hcl,hcell⟩
 ·rw[h0]at h2;simp at h2
 obtain⟨q1,q1v⟩:=hcell 0 a ha
 rw[Nat.zero_mul,Nat.add_zero]at q1 q1v
 obtain⟨q2,_⟩:=hcell (l.length - 1) z hz
 obtain⟨kk,hkk⟩:∃ kk,kk=comK l:=⟨_,rfl⟩
 have hkc:kk=commonN a.1 z.1:=by rw[hkk];unfold comK;rw[ga,gz]
 obtain⟨x,y⟩:=a
 obtain⟨xb,yb⟩:=z
 simp only at sa1 sa2 sa3 sa4 sa5 sz1 sz2 sz3 sz4 sz5 q1 q1v q2 hkc
 obtain⟨rs,hrs⟩:∃ rs,rs=(List.range 16).map fun i=>if (cutL i l).length=0 then (⟨#[]⟩:ByteArray)else refB (buildT (f+1) (dropL 1 (cutL i l))).text:=⟨_,rfl⟩
 obtain⟨val,hval⟩:∃ val,val=(if x.size=0 then y else (⟨#[]⟩:ByteArray)):=⟨_,rfl⟩
 have hn:nodeF (buildT (f+1)) l=⟨3,⟨#[]⟩,val,rs⟩:=by unfold nodeF;rw[if_neg (by omega),if_neg (by omega),if_neg hk,ga,hrs,hval]
 rw[hn]at hgood
 have ht:buildT (f+1+1) l=.mk (nodeB ⟨3,⟨#[]⟩,val,rs⟩) (ksK (buildT (f+1)) l 16):=by
  show PT.mk (nodeB (nodeF _ l)) (belowF _ l)=_
  rw[hn];unfold belowF;rw[if_neg (by omega),if_neg hk];rfl
 obtain⟨T,hT⟩:∃ T,T=buildT (f+1+1) l:=⟨_,rfl⟩
 rw[←hT]at ht ⊢
 have hrl:rs.length=16:=by rw[hrs];simp
 have hri:∀ i,i < 16→rs[i]?=some (if (cutL i l).length=0 then (⟨#[]⟩:ByteArray)else refB (buildT (f+1) (dropL 1 (cutL i l))).text):=fun i hi=>by
  rw[hrs,List.getElem?_map,List.getElem?_range hi];rfl
 have hkid:∀ i,(cutL i l).length≠0→KidOk (buildT (f+1) (dropL 1 (cutL i l))):=fun i hi =>
  (((good f _ (sub_ok i hok)).2.1 (fun e=>by have:=dropL_len 1 (cutL i l);rw[e]at this;simp at this;omega)).kid)
 have hsz:∀ p∈l,p.1.size≤1000000:=fun p hp=>by have:=(hok.size p hp).2.1;omega
 have hcs:∀ i,∀ p∈cutL i l,1≤p.1.size∧p.1.size≤1000000:=fun i p hp=>by
  obtain⟨hm,a',r',e',_⟩:=cutL_mem hp
  exact⟨by show 1≤p.1.data.toList.length;rw[show p.1.data.toList=a' :: r' from e'];simp,hsz p hm⟩
 have hcn:∀ i,(cutL i l).length≤1000:=fun i=>Nat.le_trans (List.length_filter_le _ _) hln
 have c0:((l.length:Int) == 0)=false:=by simp;exact fun e=>by rw[e]at h2;simp at h2
 have c1:¬(l.length:Int)=0:=by omega
 have c2:((l.length:Int) == 1)=false:=by simp;omega
 have c3:¬(l.length:Int)=1:=by omega
 have c4:(0:Int)≤(l.length:Int) - 1:=by omega
 have c5:(l.length:Int) - 1 < (l.length:Int):=by omega
 have c6:((l.length:Int) - 1).toNat=l.length - 1:=by omega
 have c7:(0:Int) < (l.length:Int):=by omega
 have d7:0 < l.length:=by omega
 rw[←hkk]at hk
 have d0:¬ 0 < kk:=hk
 have e0:¬(0:Int) < (kk:Int):=by omega
 have HT:=Hd ht
 have Q1:=Hd q1
 have Q1V:=Hd q1v
 have Q2:=Hd q2
 have HKK:=Hd hkc
 have HG:=Hd hgood
 have HRD:=Hd hrd
 have HSZ:=Hd hsz
 have HCS:=Hd hcs
 have HCN:=Hd hcn
 have HKID:=Hd hkid
 have HRI:=Hd hri
 have HRL:=Hd hrl
 have HVAL:=Hd hval
 have HBB:=Hd HB
 have HC:=Hd hc
 clear hc ha hz ga gz hok hgood hrd hcell q1 q1v q2 hkk hkc hsz hcs hcn hkid hri hrl hval hrs hn ht hT HB sa3 sz3
 obtain⟨W1,hW1⟩:∃ W1,W1=w.alloc (.cells #[.string ⟨#[]⟩,.slice none 0 0] 160):=⟨_,rfl⟩
 go_enter Tryz.func69,Tryz.ntmps69
 go_wp2_with (refine wpList_new Tryz.allocNode rfl rfl ?_;intro W3 hB3 hE3;refine wpList_fill (vs:=emptyN.cells) rfl rfl rfl rfl hB3 rfl Tryz.szNode (NodeT.one _) ?_;intro W4 hB4 hE4;simp only[World.size_alloc]at hB4 hE4)
 have hE34:Ext W1 W4:=by
  rw[←hW1]at hE3
  exact hE3.trans' hE4 (fun x hx e=>by have e:x=w.heap.size+1:=e;rw[hW1,World.size_alloc]at hx;omega)
 have hh:=hold0 w W1 W4 (w.heap.size+1) hW1 hE34 (by rw[hW1,World.size_alloc]) hB4.lt
 have HH0:=Hd hh
 have HB4:=Hd hB4
 have HX:=Hd hh.row.ext
 clear hE3 hE4 hB3 hW1 hB4 hE34 hh
 refine wp_region_mixK [0,1,2,3,4,5,6,7,8,9,10,11,12,13] Ext ExtR ExtT (by kernel_rfl) (by kernel_rfl) (by kernel_rfl) ?_
 iterate 3 (refine mixk_pure _ rfl (by kernel_rfl) rfl rfl (fun K hK=>?_);go_big_quiet_op;refine hK _ ?_;clear hK K)
 refine mixk_load ⟨b,o,none⟩ _ rfl (by kernel_rfl) rfl rfl (fun w1 h1=>run_load_plain Tryz.uStr rfl (cell_ext (cell_ext (by exact Q1.out) (HX.out.trans (drewE _))) h1)) ?_
 simp only[Act.put,sA,sB,sC]
 iterate 6 (refine mixk_pure _ rfl (by kernel_rfl) rfl rfl (fun K hK=>?_);go_big_quiet_op;refine hK _ ?_;clear hK K)
 refine mixk_load ⟨b,o+(l.length - 1) * 2,none⟩ _ rfl (by kernel_rfl) rfl rfl (fun w1 h1=>run_load_plain Tryz.uStr rfl (cell_ext (cell_ext (by exact Q2.out) (HX.out.trans (drewE _))) h1)) ?_
 simp only[Act.put,sA,sB,sC]
 refine mixk_call _ 116 #[.string x,.string xb] (.int .i64 (kk:Nat)) rfl (by kernel_rfl) rfl (fun w1=>exec_call Tryz.enterCommon (by kernel_rfl)) (fun w1 h1=>by rw[HKK.out];exact (common_c w1 x xb (by omega) (by omega)).mono (fun e w2 ⟨h1,n,h2⟩=>⟨h1,by rw[h2];exact (ExtR w1).drewN n⟩)) ?_
 simp only[Act.put,sA,sB,sC]
 iterate 2 (refine mixk_pure _ rfl (by kernel_rfl) rfl rfl (fun K hK=>?_);go_big_quiet_op;refine hK _ ?_;clear hK K)
 refine mixk_end (by kernel_rfl) (fun w5 he=>?_)
 have hX5:=(drewE W4).trans he
 have HH5:=Hd (HH0.out.ext hX5)
 have HB5:=Hd (HB4.out.keeps hX5 (fun h=>h))
 have HX:=Hd (HX.out.trans hX5)
 clear he hX5 HH0 HB4
 have q0:=HB5.out.cell (i:=0) (v:=.int .i64 0) (by rfl)
 have f0:w5.frozen? ⟨w.heap.size+1,0,none⟩=false:=HB5.out.frozen
 have K6:=Keeps.oneSet w5 ⟨w.heap.size+1,0,none⟩ (.int .i64 3)
 have HH6:=Hd (HH5.out.other K6)
 have HB6:Hid (Blk (w5.setCell ⟨w.heap.size+1,0,none⟩ (.int .i64 3)) (w.heap.size+1) (.cells (brN rs 0).cells.toArray 144)):=Hd (HB5.out.set_same (i:=0) (.int .i64 3))
 clear K6 HB5 HH5 HX
 go_wp2_with fail
 go_loopw [11] (fun i wr=>BldRel w (w.heap.size+1) (buildT (f+1)) l rs i wr) (fun i _=>16 - (intOf i).toNat)
 case atStart=>exact⟨0,by omega,rfl,_,[],HH6.out,by simp,HB6.out⟩
 case round =>
  obtain⟨k,hk16,rfl,u,bs,hH,hbs,hB⟩:=hrel
  obtain⟨au,cu,hu⟩:=hH.row.sl
  subst hu
  have HH:=Hd hH
  have HB:=Hd hB
  have HX:=Hd hH.row.ext
  clear hH hB
  by_cases hlt:k < 16
  ·have b1:(k:Int) < 16:=by omega
   have hwb:=HH.out.ml
   have QI:=Hd (show (wr.alloc (.cells #[.int .i64 (k:Int)] 3)).cell? ⟨wr.heap.size,0,none⟩=some (.int .i64 (k:Int))from(Blk.new wr _).cell (by rfl))
   have hno:=ownNe HH.out.row
   have hwp:w.heap.size < wr.heap.size:=HH.out.blk.lt
   have NF:=Hd (show ¬(wr.heap.size=w.heap.size∨wr.heap.size=w.heap.size+1∨(Value.slice au bs.length cu).ownBlock=some wr.heap.size)from fun h=>by
    rcases h with h | h | h
    ·omega
    ·omega
    ·exact hno h)
   clear hno
   go_wp2_with fail
   refine wp_region_mixD [0,1,2,3,7,4,5,6,8,9] [4,5,6,9] Ext (Keeps (fun x=>x=w.heap.size∨x=w.heap.size+1∨(Value.slice au bs.length cu).ownBlock=some x)) ExtR ExtT (fun x y z h k=>Keeps.trans h k) (fun x y h=>h.mono (fun _ _ h=>h.elim)) (by kernel_rfl) (by kernel_rfl) (by kernel_rfl) ?_
   refine mixd_load ⟨wr.heap.size,0,none⟩ _ rfl (by kernel_rfl) rfl rfl (fun w2 h2=>run_load_plain Tryz.uInt rfl (cell_keeps (by exact QI.out) h2 (by exact NF.out))) ?_
   simp only[Act.put,sA,sB,sC]
   iterate 4 (refine mixd_pure _ rfl (by kernel_rfl) rfl rfl (fun K hK=>?_);go_big_quiet_op;refine hK _ ?_;clear hK K)
   refine mixd_hard _ rfl (by kernel_rfl) rfl (fun w1 he K hK=>?_)
   have hX1:=(((ExtR wr).alloc (.cells #[.int .i64 (k:Int)] 3)).trans (drewE _)).trans he
   have hI1:=cell_ext (cell_ext QI.out (drewE _)) he
   refine wp_callop (exec_call Tryz.enterCut (by kernel_rfl)) ((ccut_c w1 _ wr.heap.size k l (HRD.out.ext (HX.out.trans hX1)) (by omega) HSZ.out (by omega) hI1).mono ?_)
   rintro e w2 ⟨v2,n2,rfl,hr2⟩
   have HR2:=Hd hr2.rd
   have HX2:=Hd (hX1.trans hr2.ext)
   refine⟨_,rfl,hK _ _ (hr2.ext.mono (fun _ _ h=>h.elim)) ?_⟩
   obtain⟨a2,c2,hv2⟩:=hr2.rd.sl
   subst hv2
   clear hK K he hX1 hI1 hr2
   simp only[Act.put,sA,sB,sC]
   refine mixd_hard _ rfl (by kernel_rfl) rfl (fun w3 he K hK=>?_)
   refine wp_callop (exec_call Tryz.enterWithout (by kernel_rfl)) ((without_c w3 _ 1 (cutL k l) (HR2.out.ext he) (by have:=HCN.out k;omega) (HCS.out k)).mono ?_)
   rintro e w4 ⟨v4,rfl,hr4⟩
   have HR4:=Hd hr4.rd
   have HX4:=Hd ((HX2.out.trans he).trans hr4.ext)
   refine⟨_,rfl,hK _ _ (hr4.ext.mono (fun _ _ h=>h.elim)) ?_⟩
   obtain⟨a4,c4',hv4⟩:=hr4.rd.sl
   subst hv4
   clear hK K he hr4 HR2 HX2
   simp only[Act.put,sA,sB,sC]
   refine mixd_hard _ rfl (by kernel_rfl) rfl (fun w5' he K hK=>?_)
   have HX5:=Hd (HX4.out.trans he)
   have HR5:=Hd (HR4.out.ext he)
   have HH5:=Hd (HH.out.ext HX5.out)
   have hC5:=HC.out.ext (HX.out.trans HX5.out)
   obtain⟨rk,hrk⟩:∃ rk,rk=(if (cutL k l).length=0 then (⟨#[]⟩:ByteArray)else refB (buildT (f+1) (dropL 1 (cutL k l))).text):=⟨_,rfl⟩
   refine wp_callop (f:=117) (args:=#[ptrV w.heap.size,.slice a4 (dropL 1 (cutL k l)).length c4']) (exec_call Tryz.enterHold (by kernel_rfl)) ((show Calls _ _ _ _ (fun e w'=>∃ u' bs',e=.returned (.string rk)∧HoldS w w' w.heap.size (w.heap.size+1) ⟨#[]⟩ (ksK (buildT (f+1)) l (k+1)) u' bs'∧bs'.length≤bs.length+1∧Ext w w'∧Keeps (fun x=>x=w.heap.size∨(Value.slice au bs.length cu).ownBlock=some x) w5' w')from ?hold).mono ?_)
   case hold =>
    rw[ksK_step]
    by_cases hc0:(cutL k l).length=0
    ·rw[hrk,if_pos hc0,if_pos hc0,List.append_nil,dropL_len,hc0]
     refine (hold_nil w5' w.heap.size a4 c4').mono ?_
     rintro e w6 ⟨rfl,rfl⟩
     exact⟨_,bs,rfl,HH5.out,by omega,HH5.out.row.ext,Keeps.refl _ _⟩
    ·rw[hrk,if_neg hc0,if_neg hc0]
     exact hold_c hC5 HH5.out (by omega) _ (dropL 1 (cutL k l)) HR5.out (fun e=>hc0 (by have:=dropL_len 1 (cutL k l);rw[e]at this;simpa using this.symm)) (by rw[dropL_len];have:=HCN.out k;omega) _ (HKID.out k hc0) (HBB.out k hc0 w5' _ hC5 HR5.out)
   rintro e w6 ⟨u6,bs6,rfl,h6,hb6,hE6,hk6⟩
   refine⟨_,rfl,hK _ _ (hk6.mono (fun x _ h=>h.elim .inl (fun h=>.inr (.inr h)))) ?_⟩
   have hB6:=(HB.out.keeps HX5.out (fun h=>h)).keeps hk6 (fun h=>by
    rcases h with h | h
    ·omega
    ·exact HH.out.mb h)
   have HB6:=Hd hB6
   have HH6:=Hd h6
   have HRK:=Hd ((HRI.out k hlt).trans (by rw[←hrk]))
   clear hK K he h6 hE6 hk6 hB6 hC5 hrk HR4 HR5 HH5
   simp only[Act.put,sA,sB,sC]
   (refine mixd_pure _ rfl (by kernel_rfl) rfl rfl (fun K hK=>?_);go_big_quiet_op;refine hK _ ?_;clear hK K)
   refine mixd_hard _ rfl (by kernel_rfl) rfl (fun w7 he K hK=>?_)
   have hB7:=HB6.out.keeps he (fun h=>h)
   obtain⟨old,q7⟩:∃ v,w7.cell? ⟨w.heap.size+1,3+k,none⟩=some v:=⟨_,hB7.cellL (List.getElem?_eq_getElem (by rw[NodeT.cells_len _ (brN_len HRL.out hk16)];omega))⟩
   have f7:w7.frozen? ⟨w.heap.size+1,3+k,none⟩=false:=hB7.frozen
   have hB8:=hB7.set_same (i:=3+k) (.string rk)
   rw[show (brN rs k).cells.toArray.setIfInBounds (3+k) (.string rk)=((brN rs k).cells.set (3+k) (.string rk)).toArray by simp,brN_set HRL.out hlt rk HRK.out]at hB8
   have HB8:=Hd hB8
   have K8:=Keeps.oneSet w7 ⟨w.heap.size+1,3+k,none⟩ (.string rk)
   have HH8:=Hd ((HH6.out.ext he).other K8)
   have HD8:=Hd (K8.mono (G:=fun x=>x=w.heap.size∨x=w.heap.size+1∨(Value.slice au bs.length cu).ownBlock=some x) (fun x _ e=>.inr (.inl e)))
   clear he hB7 hB8 K8 HB6 HH6
   go_simp
   refine hK _ _ HD8.out ?_
   clear hK K q7 f7
   refine mixd_end (by kernel_rfl) (fun w9 he=>?_)
   have HH9:=Hd (HH8.out.ext he)
   have HB9:=Hd (HB8.out.keeps he (fun h=>h))
   clear he HH8 HB8 HD8
   go_wp2_with fail
   go_roundw
   case rel=>exact⟨k+1,by omega,by go_num,u6,bs6,HH9.out,by omega,HB9.out⟩
   case measure=>simp[intOf];omega
  ·have hk16':k=16:=by omega
   subst hk16'
   have e16:brN rs 16=⟨3,⟨#[]⟩,⟨#[]⟩,rs⟩:=by unfold brN noRefs;rw[List.take_of_length_le (by have:=HRL.out;omega)];simp
   have hB:=HB.out
   rw[e16]at hB
   have q1:=cell_ext Q1.out HX.out
   by_cases hx0:x.size=0
   ·have hxe:=ba_empty hx0
    have hv:val=y:=by rw[HVAL.out,if_pos hx0]
    have q1v:=cell_ext Q1V.out HX.out
    subst hxe
    have q2:wr.cell? ⟨w.heap.size+1,2,none⟩=some (.string ⟨#[]⟩):=hB.cellL (by rfl)
    have f2:wr.frozen? ⟨w.heap.size+1,2,none⟩=false:=hB.frozen
    have hB2:=hB.set_same (i:=2) (.string y)
    rw[show (NodeT.cells ⟨3,⟨#[]⟩,⟨#[]⟩,rs⟩).toArray.setIfInBounds 2 (.string y)=(NodeT.cells ⟨3,⟨#[]⟩,y,rs⟩).toArray by simp[NodeT.cells]]at hB2
    have HB11:=Hd (show Blk (wr.setCell ⟨w.heap.size+1,2,none⟩ (.string y)) (w.heap.size+1) (.cells (NodeT.cells ⟨3,⟨#[]⟩,val,rs⟩).toArray 144)from by rw[hv];exact hB2)
    have HH:=Hd (HH.out.other (Keeps.oneSet wr ⟨w.heap.size+1,2,none⟩ (.string y)))
    have HV:=Hd hv
    clear hB hB2 e16 hv
    go_wp2_with (refine wpList_load_known 144 (.tmp 4) rfl rfl _ _ rfl (run_load_api _ _ ⟨3,⟨#[]⟩,val,rs⟩ HRL.out HB11.out) ?_)
    refine (nput_c (inlP _) _ ⟨3,⟨#[]⟩,val,rs⟩ HG.out).mono ?_
    rintro e w9 ⟨rfl,hE⟩
    have h9:=HH.out.ext hE
    have q0:w9.cell? ⟨w.heap.size,0,none⟩=some (.string ⟨#[]⟩):=h9.blk.cell (i:=0) (by rfl)
    have f0:w9.frozen? ⟨w.heap.size,0,none⟩=false:=h9.blk.frozen
    have H9:=Hd (h9.setText (nodeB ⟨3,⟨#[]⟩,val,rs⟩))
    obtain⟨tx,htx⟩:∃ tx,tx=nodeB ⟨3,⟨#[]⟩,val,rs⟩:=⟨_,rfl⟩
    rw[←htx]at H9 ⊢
    have HTX:=Hd htx
    clear h9 hE htx
    go_wp2_with fail
    go_ret
    exact⟨w.heap.size,rfl,by rw[HT.out, ←HTX.out];exact H9.out.part,H9.out.row.ext⟩
   ·have hne:=ne_empty (s:=x) (by omega)
    have hv:val=⟨#[]⟩:=by rw[HVAL.out,if_neg hx0]
    rw[←hv]at hB
    have HB11:=Hd (show Blk wr (w.heap.size+1) (.cells (NodeT.cells ⟨3,⟨#[]⟩,val,rs⟩).toArray 144)from by rw[hv]at hB ⊢;exact hB)
    have HV:=Hd hv
    clear hB e16 hv
    go_wp2_with (refine wpList_load_known 144 (.tmp 4) rfl rfl _ _ rfl (run_load_api _ _ ⟨3,⟨#[]⟩,val,rs⟩ HRL.out HB11.out) ?_)
    refine (nput_c (inlP _) _ ⟨3,⟨#[]⟩,val,rs⟩ HG.out).mono ?_
    rintro e w9 ⟨rfl,hE⟩
    have h9:=HH.out.ext hE
    have q0:w9.cell? ⟨w.heap.size,0,none⟩=some (.string ⟨#[]⟩):=h9.blk.cell (i:=0) (by rfl)
    have f0:w9.frozen? ⟨w.heap.size,0,none⟩=false:=h9.blk.frozen
    have H9:=Hd (h9.setText (nodeB ⟨3,⟨#[]⟩,val,rs⟩))
    obtain⟨tx,htx⟩:∃ tx,tx=nodeB ⟨3,⟨#[]⟩,val,rs⟩:=⟨_,rfl⟩
    rw[←htx]at H9 ⊢
    have HTX:=Hd htx
    clear h9 hE htx
    go_wp2_with fail
    go_ret
    exact⟨w.heap.size,rfl,by rw[HT.out, ←HTX.out];exact H9.out.part,H9.out.row.ext⟩
theorem build_c:∀ (f:Nat) (l:List Pair),RowsOk f l→l.length≤1000→BuildC l (buildT (f+1) l)
 | f,l,hok,hln=>by
  by_cases h0:l.length=0
  ·exact build_zero f l h0
  by_cases h1:l.length=1
  ·exact build_one f l h1 hok
  have h2:2≤l.length:=by omega
  cases f with
  | zero =>
   exfalso
   obtain⟨a,ha⟩:∃ a,l[0]?=some a:=⟨_,List.getElem?_eq_getElem (by omega)⟩
   obtain⟨b,hb⟩:∃ b,l[1]?=some b:=⟨_,List.getElem?_eq_getElem (by omega)⟩
   have hlt:=pair_get hok.rise (by omega) ha hb
   have:=(hok.size b (List.mem_of_getElem? hb)).1
   rw[show b.l=[]from List.eq_nil_of_length_eq_zero (by show b.1.size=0;omega)]at hlt
   exact not_lt_nil _ hlt
  | succ f =>
   by_cases hk:0 < comK l
   ·exact build_ext f l h2 hln hok hk (build_c f _ ((dropL_ok (comK l) hok (fun p hp q hq=>((com_all hok h2 p hp).1).trans (com_all hok h2 q hq).1.symm) (fun p hp=>(com_all hok h2 p hp).2)).mono (by omega)) (by rw[dropL_len];exact hln))
   ·exact build_branch f l h2 hln hok hk (fun i _=>build_c f _ (sub_ok i hok) (by rw[dropL_len];exact Nat.le_trans (List.length_filter_le _ _) hln))
theorem nib_hi(b:UInt8):(b >>> 4).toNat=b.toNat / 16:=by
 have:∀ c:Fin 256,(UInt8.ofNat c.1 >>> 4).toNat=c.1 / 16:=by decide
 have h:=this ⟨b.toNat,b.toNat_lt⟩
 simpa using h
theorem nib_lo(b:UInt8):(b &&& 15).toNat=b.toNat % 16:=by
 have:∀ c:Fin 256,(UInt8.ofNat c.1 &&& 15).toNat=c.1 % 16:=by decide
 have h:=this ⟨b.toNat,b.toNat_lt⟩
 simpa using h
theorem lt_path:∀ (a b:List UInt8),Lt a b→Lt (pathL a) (pathL b)
 | a,[],h=>absurd h (not_lt_nil _)
 | [],y :: b,_=>rfl
 | x :: a,y :: b,h=>by
  show Lt ((x >>> 4) ::(x &&& 15) :: pathL a) ((y >>> 4) ::(y &&& 15) :: pathL b)
  have hx:=nib_hi x
  have hy:=nib_hi y
  have lx:=nib_lo x
  have ly:=nib_lo y
  rcases lt_cons.1 h with h |⟨he,h2⟩
  ·have h:=UInt8.lt_iff_toNat_lt.1 h
   by_cases hh:x.toNat / 16 < y.toNat / 16
   ·exact lt_cons.2 (.inl (UInt8.lt_iff_toNat_lt.2 (by omega)))
   ·refine lt_cons.2 (.inr ⟨UInt8.toNat_inj.1 (by omega),lt_cons.2 (.inl (UInt8.lt_iff_toNat_lt.2 (by omega)))⟩)
  ·subst he;exact lt_cons.2 (.inr ⟨rfl,lt_cons.2 (.inr ⟨rfl,lt_path a b h2⟩)⟩)
theorem path_valid(s:ByteArray):validN (pathB s)=true:=by
 unfold validN pathB
 rw[List.all_eq_true]
 intro x hx
 have hx:x∈pathL s.data.toList:=hx
 unfold pathL at hx
 obtain⟨b,_,hb⟩:=List.mem_flatMap.1 hx
 have h1:=nib_hi b
 have h2:=nib_lo b
 have h3:=b.toNat_lt
 have h15:(15:UInt8).toNat=15:=rfl
 refine decide_eq_true (UInt8.le_iff_toNat_le.2 ?_)
 rcases List.mem_cons.1 hb with rfl | hb
 ·omega
 ·rw[List.mem_singleton.1 hb];omega
theorem path_size(s:ByteArray):(pathB s).size=2 * s.size:=by
 show (pathL s.data.toList).length=2 * s.data.toList.length
 unfold pathL
 induction s.data.toList with
 | nil=>rfl
 | cons x r ih=>rw[List.flatMap_cons,List.length_append,ih,List.length_cons,List.length_cons,List.length_cons,List.length_nil];omega
structure MapOk(l:List Pair):Prop where
 size:∀ p∈l,0 < p.1.size∧p.1.size≤6∧0 < p.2.size∧p.2.size≤80
 rise:l.Pairwise fun p q=>Lt p.l q.l
 len:l.length≤40
theorem lt_trans':∀ (a b c:List UInt8),Lt a b→Lt b c→Lt a c
 | a,b,[],_,h=>absurd h (not_lt_nil _)
 | a,[],z :: c,h,_=>absurd h (not_lt_nil _)
 | [],y :: b,z :: c,_,_=>rfl
 | x :: a,y :: b,z :: c,h1,h2=>by
  rcases lt_cons.1 h1 with h |⟨rfl,h⟩
  ·rcases lt_cons.1 h2 with h' |⟨rfl,h'⟩
   ·exact lt_cons.2 (.inl (UInt8.lt_trans h h'))
   ·exact lt_cons.2 (.inl h)
  ·rcases lt_cons.1 h2 with h' |⟨rfl,h'⟩
   ·exact lt_cons.2 (.inl h')
   ·exact lt_cons.2 (.inr ⟨rfl,lt_trans' a b c h h'⟩)
theorem check_ok{l:List Pair}(h:checkN l=0):MapOk l:=by
 unfold checkN at h
 split at h
 ·cases h
 rename_i hb
 split at h
 ·cases h
 rename_i hl
 have hbad:∀ i,i < l.length→badN l i=false:=fun i hi=>by
  cases hbi:badN l i with
  | false=>rfl
  | true=>exact absurd (List.any_eq_true.2 ⟨i,List.mem_range.2 hi,hbi⟩) hb
 refine⟨fun p hp=>?_,?_,by omega⟩
 ·obtain⟨i,hi⟩:=List.getElem?_of_mem hp
  have h1:=hbad i (List.getElem?_eq_some_iff.1 hi).1
  have hg:l.getD i (⟨#[]⟩,⟨#[]⟩)=p:=by rw[List.getD_eq_getElem?_getD,hi];rfl
  unfold badN at h1
  rw[hg]at h1
  simp only[Bool.or_eq_false_iff,Bool.not_eq_false']at h1
  have h2:=h1.1.1
  have h3:=h1.1.2
  unfold keyedB at h2
  unfold valuedB at h3
  simp only[decide_eq_true_eq]at h2 h3
  exact⟨h2.1,h2.2,h3.1,h3.2⟩
 ·have step:∀ i,i+1 < l.length→Lt (l.getD i pd).l (l.getD (i+1) pd).l:=fun i hi=>by
   have h1:=hbad (i+1) hi
   unfold badN at h1
   simp only[Bool.or_eq_false_iff,Bool.and_eq_false_iff,Bool.not_eq_false']at h1
   rcases h1.2 with h2 | h2
   ·simp at h2
   ·rw[Nat.add_sub_cancel]at h2
    have:Op.bytesLess (l.getD i pd).1.toList (l.getD (i+1) pd).1.toList=true:=h2
    rw[ByteArray.toList_eq,ByteArray.toList_eq]at this
    exact this
  rw[List.pairwise_iff_getElem]
  intro i j hi hj hij
  have e:∀ k (hk:k < l.length),l.getD k pd=l[k]:=fun k hk=>by rw[List.getD_eq_getElem?_getD,List.getElem?_eq_getElem hk];rfl
  have key:∀ d,∀ i,i+d+1 < l.length→Lt (l.getD i pd).l (l.getD (i+d+1) pd).l:=by
   intro d
   induction d with
   | zero=>exact fun i hi=>step i hi
   | succ d ih=>exact fun i hi=>lt_trans' _ _ _ (ih i (by omega)) (step (i+d+1) hi)
  have:=key (j - i - 1) i (by omega)
  rw[show i+(j - i - 1)+1=j by omega,e i hi,e j hj]at this
  exact this
theorem rows_ok{l:List Pair}(h:MapOk l):RowsOk 12 (rowsL l):=by
 refine⟨fun p hp=>?_,?_⟩
 ·obtain⟨q,hq,rfl⟩:=List.mem_map.1 hp
  obtain⟨h1,h2,h3,h4⟩:=h.size q hq
  have hs:=path_size q.1
  exact⟨by show (pathB q.1).size≤_;omega,by show (pathB q.1).size≤_;omega,path_valid _,h3,h4⟩
 ·unfold rowsL
  rw[List.pairwise_map]
  exact h.rise.imp fun {p q} h=>lt_path _ _ h
def trieT(l:List Pair):PT:=buildT 13 (rowsL l)
end
section
open Go Go.RowKit
attribute [local go_sem] Oper.semAt_some
inductive AT where
 | mk (b:Nat) (text:ByteArray) (v:Value) (kids:List AT)
def AT.root:AT→Nat | .mk b _ _ _=>b
mutual
def AtIs(A:Nat→Prop):AT→World→Prop
 | .mk b t v ks,W=>A b∧Blk W b (.cells #[.string t,v] 160)∧RdQ A W v (ks.map AT.root)∧AtsIs A ks W
def AtsIs(A:Nat→Prop):List AT→World→Prop
 | [],_=>True
 | k :: ks,W=>AtIs A k W∧AtsIs A ks W
end
mutual
def AT.pt:AT→PT
 | .mk _ t _ ks=>.mk t (AT.pts ks)
def AT.pts:List AT→List PT
 | []=>[]
 | k :: ks=>AT.pt k :: AT.pts ks
end
mutual
def flatT:PT→List ByteArray
 | .mk t ks=>t :: flatTs ks
def flatTs:List PT→List ByteArray
 | []=>[]
 | k :: ks=>flatT k++flatTs ks
end
mutual
theorem at_of{A:Nat→Prop}{W:World}:∀ (T:PT) (b:Nat),PartAt A T b W→∃ a:AT,a.root=b∧a.pt=T∧AtIs A a W
 | .mk t ks,b,h=>by
  unfold PartAt at h
  obtain⟨h1,v,bs,h2,h3,h4⟩:=h
  obtain⟨al,e1,e2,e3⟩:=ats_of ks bs h4
  exact⟨.mk b t v al,rfl,by unfold AT.pt;rw[e2],by unfold AtIs;exact⟨h1,h2,by rw[e1];exact h3,e3⟩⟩
theorem ats_of{A:Nat→Prop}{W:World}:∀ (ks:List PT) (bs:List Nat),PartsAt A ks bs W→∃ al:List AT,al.map AT.root=bs∧AT.pts al=ks∧AtsIs A al W
 | [],bs,h=>by
  unfold PartsAt at h;subst h
  exact⟨[],rfl,by unfold AT.pts;rfl,by unfold AtsIs;trivial⟩
 | x :: ks,bs,h=>by
  unfold PartsAt at h
  obtain⟨b,r,rfl,h2,h3⟩:=h
  obtain⟨a,e1,e2,e3⟩:=at_of x b h2
  obtain⟨al,e4,e5,e6⟩:=ats_of ks r h3
  exact⟨a :: al,by rw[List.map_cons,e1,e4],by unfold AT.pts;rw[e2,e5],by unfold AtsIs;exact⟨e3,e6⟩⟩
end
mutual
theorem AtIs.keeps{A:Nat→Prop}{F:BSet}{W W':World}(k:Keeps F W W')(hF:∀ x,A x→¬ F x):∀ (a:AT),AtIs A a W→AtIs A a W'
 | .mk b t v ks,h=>by
  unfold AtIs at *
  obtain⟨h1,h2,h3,h4⟩:=h
  exact⟨h1,h2.keeps k (hF b h1),h3.keeps k hF,AtsIs.keeps k hF ks h4⟩
theorem AtsIs.keeps{A:Nat→Prop}{F:BSet}{W W':World}(k:Keeps F W W')(hF:∀ x,A x→¬ F x):∀ (ks:List AT),AtsIs A ks W→AtsIs A ks W'
 | [],_=>by unfold AtsIs;trivial
 | x :: ks,h=>by
  unfold AtsIs at *
  exact⟨AtIs.keeps k hF x h.1,AtsIs.keeps k hF ks h.2⟩
end
theorem AtsIs.get{A:Nat→Prop}{W:World}:∀ (ks:List AT) (j:Nat) (a:AT),AtsIs A ks W→ks[j]?=some a→AtIs A a W
 | [],j,a,_,h=>by simp at h
 | x :: ks,0,a,h,hj=>by simp at hj;subst hj;unfold AtsIs at h;exact h.1
 | x :: ks,j+1,a,h,hj=>by unfold AtsIs at h;exact AtsIs.get ks j a h.2 (by simpa using hj)
theorem flat_take:∀ (ks:List AT) (j:Nat) (a:AT),ks[j]?=some a→flatTs (AT.pts (ks.take (j+1)))=flatTs (AT.pts (ks.take j))++flatT a.pt
 | [],j,a,h=>by simp at h
 | x :: ks,0,a,h=>by
  simp at h;subst h
  simp[AT.pts,flatTs]
 | x :: ks,j+1,a,h=>by
  have:=flat_take ks j a (by simpa using h)
  simp only[List.take_succ_cons,AT.pts,flatTs,this,List.append_assoc]
theorem flat_pre:∀ (ks:List AT) (j:Nat),∃ r,flatTs (AT.pts ks)=flatTs (AT.pts (ks.take j))++r
 | ks,0=>⟨flatTs (AT.pts ks),by simp[AT.pts,flatTs]⟩
 | [],j+1=>⟨[],by simp[AT.pts,flatTs]⟩
 | x :: ks,j+1=>by
  obtain⟨r,h⟩:=flat_pre ks j
  exact⟨r,by simp only[List.take_succ_cons,AT.pts,flatTs,h,List.append_assoc]⟩
def Begins(L m:List ByteArray)(p:Nat):Prop:=∀ j x,m[j]?=some x→L[p+j]?=some x
theorem Begins.left{L m n:List ByteArray}{p:Nat}(h:Begins L (m++n) p):Begins L m p:=fun j x hx=>h j x (by rw[List.getElem?_append_left (List.getElem?_eq_some_iff.1 hx).1];exact hx)
theorem Begins.right{L m n:List ByteArray}{p:Nat}(h:Begins L (m++n) p):Begins L n (p+m.length):=fun j x hx=>by
 have:=h (m.length+j) x (by rw[List.getElem?_append_right (by omega),Nat.add_sub_cancel_left];exact hx)
 rw[Nat.add_assoc];exact this
theorem Begins.le{L m:List ByteArray}{p:Nat}(h:Begins L m p)(hm:m≠[]):p+m.length≤L.length:=by
 have hl:0 < m.length:=List.length_pos_iff.2 hm
 have:=h (m.length - 1) _ (List.getElem?_eq_getElem (by omega))
 have:=(List.getElem?_eq_some_iff.1 this).1
 omega
theorem flat_pos(T:PT):1≤(flatT T).length:=by cases T;unfold flatT;simp
theorem flat_len:∀ (ks:List AT),ks.length≤(flatTs (AT.pts ks)).length
 | []=>by simp
 | x :: ks=>by
  have:=flat_len ks
  have:=flat_pos x.pt
  simp only[AT.pts,flatTs,List.length_append,List.length_cons];omega
def TellPost(C Cx:Nat→World→Prop)(n N:Nat)(e:Ending)(W':World):Prop:=(e=.returned (.bool true)∧C n W')∨(e=.returned (.bool false)∧∃ q,0 < q∧q≤N∧Cx q W')
def TellRel(C:Nat→World→Prop)(p:Nat)(ks:List AT)(v:Value)(wr:World):Prop:=∃ j:Nat,j≤ks.length∧v=.int .i64 j∧C (p+1+(flatTs (AT.pts (ks.take j))).length) wr
theorem tell_step(A:Nat→Prop)(l:Nat)(C Cx:Nat→World→Prop)(hC:∀ k,St (C k))(L:List ByteArray)(hLn:L.length≤1000000)
  (hY:∀ j W',j < L.length→C j W'→YieldE Tryz.prog l #[.string (L.getD j ⟨#[]⟩)] W' (C (j+1)) (Cx (j+1)))
  (b:Nat) (t:ByteArray) (v:Value) (ks:List AT)
  (IHk:∀ a∈ks,∀ (p:Nat) (W:World),Begins L (flatT a.pt) p→(∀ j W',C j W'→AtIs A a W')→C p W →
   CallsIn Fence.wide 0 Tryz.prog 123 #[ptrV a.root,.func (.yield l) #[] #[]] W (TellPost C Cx (p+(flatT a.pt).length) L.length))
  (p:Nat) (W:World) (hL:Begins L (flatT (AT.mk b t v ks).pt) p) (hS:∀ j W',C j W'→AtIs A (.mk b t v ks) W') (h0:C p W) :
   CallsIn Fence.wide 0 Tryz.prog 123 #[ptrV b,.func (.yield l) #[] #[]] W (TellPost C Cx (p+(flatT (AT.mk b t v ks).pt).length) L.length):=by
  have e1:flatT (AT.pt (.mk b t v ks))=t :: flatTs (AT.pts ks):=by unfold AT.pt flatT;rfl
  rw[e1]at hL ⊢
  have hp:p < L.length:=by have:=hL 0 t rfl;exact (List.getElem?_eq_some_iff.1 this).1
  have hg:L.getD p ⟨#[]⟩=t:=by rw[List.getD_eq_getElem?_getD];have:=hL 0 t rfl;rw[Nat.add_zero]at this;rw[this];rfl
  have hS':∀ j W',C j W'→Blk W' b (.cells #[.string t,v] 160)∧RdQ A W' v (ks.map AT.root)∧AtsIs A ks W':=fun j W' h=>by
   have:=hS j W' h;unfold AtIs at this;exact this.2
  obtain⟨fn,tm,asg,bd,hyr,hrd⟩:=hY p W hp h0
  rw[hg]at hyr
  have q0:=(hS' p W h0).1.cell (i:=0) (v:=.string t) (by rfl)
  obtain⟨av,cv,hv⟩:=(hS' p W h0).2.1.sl
  rw[List.length_map]at hv
  subst hv
  have hkl:ks.length≤1000000:=by
   have h1:=flat_len ks
   have h2:=hL.le (by simp)
   simp only[List.length_cons]at h2
   omega
  have HRD:=Hd hrd
  have HS:=Hd hS'
  have HY:=Hd hY
  have HC:=Hd hC
  have HIK:=Hd IHk
  have HL:=Hd hL
  clear hS' hS hrd hg h0 e1 hL hY hC IHk
  unfold ptrV
  refine callsIn_of_wp Tryz.func123 rfl trivial ?_ rfl
  simp only[Tryz.ntmps123,List.size_toArray,List.length_cons,List.length_nil,Nat.reduceAdd,Nat.reduceSub,Array.replicate_succ,Array.replicate_zero,List.push_toArray,List.append_toArray,List.nil_append,List.cons_append]
  gi_wp2_with fail
  refine⟨rfl,HRD.out.mono ?_⟩
  rintro e w5 (⟨rfl,C5⟩ |⟨rfl,C5⟩)
  ·have q1:=(HS.out _ _ C5).1.cell (i:=1) (v:=.slice av ks.length cv) (by rfl)
   have HC5:=Hd C5
   clear C5 q0 hyr
   gi_wp2_with fail
   gi_loopw [19] (fun v wr=>TellRel C p ks v wr) (fun v _=>ks.length - (intOf v).toNat)
   case atStart=>exact⟨0,by omega,rfl,by simpa [AT.pts,flatTs]using HC5.out⟩
   case round =>
    obtain⟨j,hj,rfl,hCj⟩:=hrel
    by_cases hlt:j < ks.length
    ·obtain⟨hb1,hq1,ha1⟩:=HS.out _ _ hCj
     obtain⟨a,ha⟩:∃ a,ks[j]?=some a:=⟨_,List.getElem?_eq_getElem hlt⟩
     have hmem:a∈ks:=List.mem_of_getElem? ha
     have hft:=flat_take ks j a ha
     obtain⟨rest,hpre⟩:=flat_pre ks (j+1)
     have hbeg:Begins L (flatT a.pt) (p+1+(flatTs (AT.pts (ks.take j))).length):=by
      have h1:Begins L ([t]++(flatTs (AT.pts (ks.take j))++(flatT a.pt++rest))) p:=by
       have:=HL.out
       rw[hpre,hft,List.append_assoc]at this;exact this
      exact (h1.right.right).left
     rcases hq1 with⟨_,h0⟩ |⟨g,c,hh,_,_,_,_,hcell⟩
     ·rw[List.map_eq_nil_iff]at h0;rw[h0]at hlt;cases hlt
     obtain⟨rfl,hx1,hx2⟩:=Value.slice.inj hh
     clear hx1 hx2
     have qj:wr.cell? ⟨g,j,none⟩=some (ptrV a.root):=hcell j a.root (by rw[List.getElem?_map,ha];rfl)
     obtain⟨ar,har⟩:∃ ar,ar=a.root:=⟨_,rfl⟩
     rw[←har]at qj
     have b1:(j:Int) < (ks.length:Int):=by omega
     have ih:=HIK.out a hmem _ wr hbeg (fun j' W' h=>AtsIs.get ks j a (HS.out j' W' h).2.2 ha) hCj
     rw[←har]at ih
     have IH:=Hd ih
     have HFT:=Hd hft
     unfold ptrV at qj
     clear hb1 ha1 hcell hh hpre hbeg ih hft hCj ha har q1 hmem HC5
     gi_wp2_with fail
     refine⟨trivial,rfl,IH.out.mono ?_⟩
     rintro e w6 (⟨rfl,C6⟩ |⟨rfl,q',hq1,hq2,C6⟩)
     ·have HC6:=Hd C6
      clear C6
      gi_wp2_with fail
      go_roundw
      case rel=>exact⟨j+1,by omega,by go_num,by rw[HFT.out,List.length_append, ←Nat.add_assoc];exact HC6.out⟩
      case measure=>simp[intOf];omega
     ·have HC6:=Hd C6
      clear C6
      gi_wp2_with fail
      go_ret
      exact .inr ⟨rfl,q',hq1,hq2,HC6.out⟩
    ·have hjk:j=ks.length:=by omega
     subst hjk
     rw[List.take_length]at hCj
     have HC6:=Hd hCj
     clear hCj
     gi_wp2_with fail
     go_ret
     exact .inl ⟨rfl,by rw[show p+((flatTs (AT.pts ks)).length+1)=p+1+(flatTs (AT.pts ks)).length by omega];exact HC6.out⟩
  ·have HC5:=Hd C5
   clear C5 q0 hyr
   gi_wp2_with fail
   go_ret
   exact .inr ⟨rfl,p+1,by omega,by omega,HC5.out⟩
theorem tell_it(A:Nat→Prop)(l:Nat)(C Cx:Nat→World→Prop)(hC:∀ k,St (C k))(L:List ByteArray)(hLn:L.length≤1000000)
  (hY:∀ j W',j < L.length→C j W'→YieldE Tryz.prog l #[.string (L.getD j ⟨#[]⟩)] W' (C (j+1)) (Cx (j+1))) :
  ∀ (a:AT) (p:Nat) (W:World),Begins L (flatT a.pt) p→(∀ j W',C j W'→AtIs A a W')→C p W →
   CallsIn Fence.wide 0 Tryz.prog 123 #[ptrV a.root,.func (.yield l) #[] #[]] W (TellPost C Cx (p+(flatT a.pt).length) L.length)
 | .mk b t v ks,p,W,hL,hS,h0=>tell_step A l C Cx hC L hLn hY b t v ks (fun a ha=>tell_it A l C Cx hC L hLn hY a) p W hL hS h0
termination_by a=>SizeOf.sizeOf a
decreasing_by
 have:=List.sizeOf_lt_of_mem ha
 simp
 omega
def allVals(L:List ByteArray)(k:Nat):Array Value:=#[.string (L.getD k ⟨#[]⟩)]
theorem all_it(A:Nat→Prop)(bx:Nat)(a:AT)(hLn:(flatT a.pt).length≤1000000):IterE Tryz.prog 122 #[.pointer (some ⟨bx,0,none⟩)] (flatT a.pt).length (allVals (flatT a.pt)) (fun W=>Blk W bx (.cells #[ptrV a.root] 104)∧AtIs A a W):=by
 intro l C Cx hC hCx hS W hY h0
 have hT:=tell_it A l C Cx hC (flatT a.pt) hLn (fun j W' hj hc=>hY j W' hj hc) a 0 W (fun j x hx=>by rw[Nat.zero_add];exact hx) (fun j W' h=>(hS j W' h).2) h0
 have q0:=(hS 0 W h0).1.cell (i:=0) (v:=ptrV a.root) (by rfl)
 have HT:=Hd hT
 clear hT hY hC hCx hS h0
 unfold ptrV at q0
 obtain⟨r,hr⟩:∃ r,r=a.root:=⟨_,rfl⟩
 rw[←hr]at q0 HT
 have HR:=Hd hr
 clear hr
 refine callsIn_of_wp Tryz.func122 rfl trivial ?_ rfl
 simp only[Tryz.ntmps122,List.size_toArray,List.length_cons,List.length_nil,Nat.reduceAdd,Nat.reduceSub,Array.replicate_succ,Array.replicate_zero,List.push_toArray,List.append_toArray,List.nil_append,List.cons_append]
 gi_wp2_with fail
 refine⟨trivial,rfl,HT.out.mono ?_⟩
 rintro e w5 (⟨rfl,C5⟩ |⟨rfl,q',hq1,hq2,C6⟩)
 ·have HC5:=Hd C5
  clear C5
  gi_wp2_with fail
  refine bodyPost_end (results_none rfl _ _ _) rfl ?_
  exact⟨⟨_,rfl⟩,.inl (by have:=HC5.out;rw[Nat.zero_add]at this;exact this)⟩
 ·have HC6:=Hd C6
  clear C6
  gi_wp2_with fail
  refine bodyPost_end (results_none rfl _ _ _) rfl ?_
  exact⟨⟨_,rfl⟩,.inr ⟨q',hq2,hq1,HC6.out⟩⟩
theorem all_c(w:World)(k:Nat):Calls Tryz.prog 71 #[ptrV k] w fun e w'=>e=.returned (.func (.func 122) #[] #[.pointer (some ⟨w.heap.size,0,none⟩)])∧Blk w' w.heap.size (.cells #[ptrV k] 104)∧Ext w w':=by
 unfold ptrV
 go_enter Tryz.func71,Tryz.ntmps71
 go_wp2_with fail
 go_ret
 exact⟨rfl,Blk.new w _,(ExtR w).alloc _⟩
def memB(acc:List ByteArray)(x:ByteArray):Bool:=(acc.map (·.data.toList)).contains x.data.toList
theorem memB_iff(acc:List ByteArray)(x:ByteArray):memB acc x=true↔x∈acc:=by
 unfold memB
 rw[List.contains_iff_mem,List.mem_map]
 exact⟨fun ⟨y,hy,e⟩=>by rw[←show y=x from ByteArray.ext (Array.ext' e)];exact hy,fun h=>⟨x,h,rfl⟩⟩
def addF(acc:List ByteArray)(x:ByteArray):List ByteArray:=if memB acc x=true then acc else acc++[x]
def firsts(l:List ByteArray):List ByteArray:=l.foldl addF []
theorem addF_mem(acc:List ByteArray)(x y:ByteArray):y∈addF acc x↔y∈acc∨y=x:=by
 unfold addF;split
 ·rename_i h;exact⟨.inl,fun h'=>h'.elim id (fun e=>e ▸ (memB_iff _ _).1 h)⟩
 ·simp
theorem firsts_mem(l:List ByteArray)(y:ByteArray):y∈firsts l↔y∈l:=by
 unfold firsts
 suffices ∀ acc,y∈l.foldl addF acc↔y∈acc∨y∈l by simpa using this []
 induction l with
 | nil=>intro acc;simp
 | cons x r ih=>intro acc;rw[List.foldl_cons,ih,addF_mem,List.mem_cons];exact or_assoc
theorem firsts_snoc(l:List ByteArray)(x:ByteArray):firsts (l++[x])=addF (firsts l) x:=by
 unfold firsts;rw[List.foldl_append];rfl
theorem firsts_len(l:List ByteArray):(firsts l).length≤l.length:=by
 unfold firsts
 suffices ∀ acc,(l.foldl addF acc).length≤acc.length+l.length by simpa using this []
 induction l with
 | nil=>intro acc;simp
 | cons x r ih =>
  intro acc
  rw[List.foldl_cons,List.length_cons]
  have h1:=ih (addF acc x)
  have h2:(addF acc x).length≤acc.length+1:=by unfold addF;split <;> simp
  omega
theorem entGet_put{K:Type}[DecidableEq K](k:K)(v:Value)(n:Nat)(k':K):∀ (l:List (Ent K)),entGet (entPut l k v n) k'=if k'=k then some v else entGet l k'
 | []=>by
  by_cases h:k'=k
  ·subst h;simp[entPut,entGet]
  ·simp[entPut,entGet,h]
 | x :: r=>by
  have ih:=entGet_put k v n k' r
  unfold entPut
  by_cases hk:k=x.1
  ·rw[if_pos hk]
   by_cases h:k'=k
   ·subst h;simp[entGet]
   ·have h2:¬ k'=x.1:=fun e=>h (e.trans hk.symm)
    simp[entGet,h,h2]
  ·rw[if_neg hk]
   by_cases h:k'=x.1
   ·have h2:¬ k'=k:=fun e=>hk (e.symm.trans h)
    rw[if_neg h2];simp[entGet,h]
   ·have e1:∀ l,entGet (x :: l) k'=entGet l k':=fun l=>by simp[entGet,h]
    rw[e1,e1,ih]
def cntB(l:List ByteArray)(x:ByteArray):Nat:=(l.map (·.data.toList)).count x.data.toList
def cntV(n:Nat):Option Value:=if n=0 then none else some (.int .i64 (n:Int))
theorem Tryz.uMapSI:Tryz.prog.underlying 101=some (.map 9 3):=by kernel_rfl
noncomputable abbrev Tryz.ES:KeyEnc Tryz.prog 9 (List UInt8):=keyStr Tryz.uStr
theorem Tryz.zeroI(w:World):(zeroValue 3).run Tryz.prog w=.ok (.int .i64 0) w:=by kernel_rfl
structure NodS(w:World)(g m:Nat)(A:Nat→Prop)(bx:Nat)(a:AT)(L:List ByteArray)(k:Nat)(W:World):Prop where
 ext:Ext w W
 var:∃ v n,Blk W g (.cells #[v] 34)∧W.ownsRow 0 9 1 v n ((firsts (L.take k)).map Value.string)∧n≤k∧∀ b,v.ownBlock=some b→m+2≤b
 tab:∃ es ck,Blk W (g+1) (.map (Tryz.ES.arr es) ck)∧∀ x:ByteArray,entGet es x.data.toList=cntV (cntB (L.take k) x)
 mv:Blk W (g+2) (.cells #[.map (some (g+1))] 101)
 box:Blk W bx (.cells #[ptrV a.root] 104)
 at':AtIs A a W
theorem NodS.st{w:World}{g m:Nat}{A:Nat→Prop}{bx:Nat}{a:AT}{L:List ByteArray}{k:Nat}{W W':World}(h:NodS w g m A bx a L k W)(e:Ext W W'):NodS w g m A bx a L k W':=
 let ⟨v,n,h1,h2,h3,h4⟩:=h.var
 let ⟨es,ck,h5,h6⟩:=h.tab
 ⟨h.ext.trans e,⟨v,n,h1.keeps e (fun h=>h),own_ext h2 e,h3,h4⟩,⟨es,ck,h5.keeps e (fun h=>h),h6⟩,h.mv.keeps e (fun h=>h),h.box.keeps e (fun h=>h),AtIs.keeps e (fun _ _ h=>h) a h.at'⟩
theorem NodS.put{w:World}{g m:Nat}{A:Nat→Prop}{bx:Nat}{a:AT}{L:List ByteArray}{k:Nat}{W:World}(h:NodS w g m A bx a L k W){r:Nat}(hr:w.heap.size≤r)(h1:g+2 < r)(h2:r < m+2)(h3:bx≠r)(h4:∀ x,A x→x≠r)(o:Obj):NodS w g m A bx a L k (W.putObj r o):=
 let ⟨v,n,h5,h6,h7,h8⟩:=h.var
 let ⟨es,ck,h9,h10⟩:=h.tab
 ⟨h.ext.putObj (.inr hr) _,⟨v,n,h5.put_other (by omega) _,own_keeps h6 (Keeps.onePut W r o) (fun b hb e=>by have:=h8 b hb;omega),h7,h8⟩,⟨es,ck,h9.put_other (by omega) _,h10⟩,h.mv.put_other (by omega) _,h.box.put_other h3 _,
  AtIs.keeps (Keeps.onePut W r o) (fun x hx e=>h4 x hx e) a h.at'⟩
end
section
open Go Go.RowKit
def cutSum(l:List Pair):Nat→Nat
 | 0=>0
 | n+1=>cutSum l n+(cutL n l).length
def hN(L:List UInt8)(n:Nat):Nat:=match L with | []=>0 | a :: _=>if a.toNat < n then 1 else 0
theorem hN_step(p:Pair)(n:Nat):hN p.l (n+1)=hN p.l n+(if pickB n p=true then 1 else 0):=by
 have hpb:pickB n p=match p.l with | []=>false | a :: _=>a.toNat == n:=rfl
 rw[hpb]
 cases p.l with
 | nil=>rfl
 | cons a r =>
  simp only[hN,beq_iff_eq]
  by_cases h1:a.toNat=n
  ·rw[if_pos (by omega),if_neg (by omega),if_pos h1]
  ·by_cases h3:a.toNat < n
   ·rw[if_pos (by omega),if_pos h3,if_neg h1]
   ·rw[if_neg (by omega),if_neg h3,if_neg h1]
theorem hN_le(L:List UInt8)(n:Nat):hN L n≤1:=by
 cases L with
 | nil=>exact Nat.zero_le _
 | cons a r=>simp only[hN];split <;> omega
theorem cutSum_cons(p:Pair)(l:List Pair):∀ n,cutSum (p :: l) n=cutSum l n+hN p.l n
 | 0=>by
  have:hN p.l 0=0:=by cases p.l <;> simp[hN]
  rw[this];rfl
 | n+1=>by
  have h:(cutL n (p :: l)).length=(cutL n l).length+(if pickB n p=true then 1 else 0):=by
   unfold cutL;rw[List.filter_cons];split <;> simp
  unfold cutSum
  rw[cutSum_cons p l n,h,hN_step]
  omega
theorem cutSum_le:∀ (l:List Pair) (n:Nat),cutSum l n≤l.length
 | [],n=>by
  have:∀ n,cutSum [] n=0:=fun n=>by induction n with
   | zero=>rfl
   | succ n ih=>unfold cutSum;rw[ih];rfl
  rw[this];exact Nat.zero_le _
 | p :: l,n=>by
  rw[cutSum_cons,List.length_cons]
  have:=cutSum_le l n
  have:=hN_le p.l n
  omega
theorem flatTs_append:∀ (a b:List PT),flatTs (a++b)=flatTs a++flatTs b
 | [],b=>by simp[flatTs]
 | x :: a,b=>by simp only[List.cons_append,flatTs,flatTs_append a b,List.append_assoc]
theorem held_le(T:PT):(flatTs (heldK T)).length≤(flatT T).length:=by
 unfold heldK;split <;> simp[flatTs]
theorem ks_le(B:List Pair→PT)(F:Nat)(l:List Pair)(hB:∀ i,(cutL i l).length≠0→(flatT (B (dropL 1 (cutL i l)))).length≤F * (cutL i l).length):∀ n,(flatTs (ksK B l n)).length≤F * cutSum l n
 | 0=>by simp[ksK,flatTs,cutSum]
 | n+1=>by
  rw[ksK_step,flatTs_append,List.length_append]
  unfold cutSum
  rw[Nat.mul_add]
  have:=ks_le B F l hB n
  by_cases h0:(cutL n l).length=0
  ·rw[if_pos h0];simp[flatTs];omega
  ·rw[if_neg h0]
   have h1:=hB n h0
   have h2:=held_le (B (dropL 1 (cutL n l)))
   omega
theorem flat_le:∀ (f:Nat) (l:List Pair),l≠[]→(flatT (buildT (f+1) l)).length≤(f+1) * l.length
 | f,l,hl=>by
  have hlen:1≤l.length:=List.length_pos_iff.2 hl
  show (flatT (.mk (nodeB (nodeF (buildT f) l)) (belowF (buildT f) l))).length≤_
  unfold flatT
  rw[List.length_cons]
  have key:(flatTs (belowF (buildT f) l)).length≤f * l.length:=by
   unfold belowF
   split
   ·simp[flatTs]
   ·split
    ·cases f with
     | zero =>
      have h:=held_le (buildT 0 (dropL (comK l) l))
      have h0:heldK (buildT 0 (dropL (comK l) l))=[]:=rfl
      rw[h0];simp[flatTs]
     | succ f =>
      have h:=held_le (buildT (f+1) (dropL (comK l) l))
      have ih:=flat_le f (dropL (comK l) l) (fun e=>by have:=dropL_len (comK l) l;rw[e]at this;simp at this;omega)
      rw[dropL_len]at ih
      omega
    ·cases f with
     | zero =>
      have:∀ n,ksK (buildT 0) l n=[]:=fun n=>by
       induction n with
       | zero=>rfl
       | succ n ih =>
        rw[ksK_step,ih]
        split
        ·rfl
        ·rfl
      have h16:=this 16
      unfold ksK at h16
      rw[h16];simp[flatTs]
     | succ f =>
      have h:=ks_le (buildT (f+1)) (f+1) l (fun i hi=>by
       have ih:=flat_le f (dropL 1 (cutL i l)) (fun e=>by have:=dropL_len 1 (cutL i l);rw[e]at this;simp at this;omega)
       rwa [dropL_len]at ih) 16
      have h2:=Nat.mul_le_mul_left (f+1) (cutSum_le l 16)
      have h3:ksK (buildT (f+1)) l 16=(List.range 16).flatMap fun i=>if (cutL i l).length=0 then []else heldK (buildT (f+1) (dropL 1 (cutL i l))):=rfl
      rw[←h3];exact Nat.le_trans h h2
  have:(f+1) * l.length=f * l.length+l.length:=by rw[Nat.succ_mul]
  omega
theorem trie_len{l:List Pair}(h:MapOk l):(flatT (trieT l)).length≤13 * l.length+1:=by
 by_cases h0:l=[]
 ·subst h0
  show (flatT (.mk (nodeB (nodeF (buildT 12) [])) (belowF (buildT 12) []))).length≤_
  have:belowF (buildT 12) []=[]:=rfl
  rw[this];simp[flatT,flatTs]
 ·have h1:(flatT (trieT l)).length≤13 * (rowsL l).length:=flat_le 12 (rowsL l) (fun e=>h0 (by unfold rowsL at e;simpa using e))
  have h2:(rowsL l).length=l.length:=by unfold rowsL;rw[List.length_map]
  rw[h2]at h1;omega
end
section
open Go Go.RowKit
attribute [local go_sem] Oper.semAt_some
theorem Tryz.makeMapSI(W:World):(Instr.makeMap 101 none).run Tryz.prog W=.ok (.map (some W.heap.size)) (W.alloc (.map #[] 0)):=by kernel_rfl
theorem Tryz.enterAll1:∀ args w,(callFunc 122 args).run Tryz.prog w=.ok (.enter 122 args) w:=fun _ _=>by kernel_rfl
theorem nodes_ok(w:World)(v:Value)(l:List Pair)(hc:Cubes w)(hv:RdP w v l)(h:checkN l=0):Calls Tryz.prog 26 #[v] w fun e w'=>∃ u n,e=.returned (.tuple #[u,.int .i64 0])∧SRow w w' u n (firsts (flatT (trieT l))):=by
 have hm:=check_ok h
 obtain⟨a,c,hsl⟩:=hv.sl
 subst hsl
 have HV:=Hd hv
 have HM:=Hd hm
 have HC:=Hd hc
 have H:=Hd h
 have HL:=Hd hm.len
 obtain⟨T,hT⟩:∃ T,T=trieT l:=⟨_,rfl⟩
 rw[←hT]
 have HTR:=Hd hT
 clear hv hm hc h hT
 rw[←callsIn_wide (n:=0)]
 refine callsIn_of_wp_marks Tryz.func26 rfl trivial ?_ rfl
 simp only[Tryz.ntmps26,List.size_toArray,List.length_cons,List.length_nil,Nat.reduceAdd,Nat.reduceSub,Array.replicate_succ,Array.replicate_zero,List.push_toArray,List.append_toArray,List.nil_append,List.cons_append]
 gi_wp2_with fail
 refine⟨trivial,rfl,CallsIn.mono (callsIn_wide.2 (check_c w _ l HV.out (by have:=HL.out;omega) (fun p hp=>by have:=HM.out.size p hp;omega))) ?_⟩
 rintro e w1 ⟨rfl,hE⟩
 rw[H.out]
 have HE:=Hd hE
 have hw1:=hE.size
 clear hE
 have hmm:(Instr.makeMap 101 none).run Tryz.prog (w1.alloc (.cells #[.slice none 0 0] 34))=.ok (.map (some (w1.heap.size+1))) ((w1.alloc (.cells #[.slice none 0 0] 34)).alloc (.map #[] 0)):=by
  rw[←World.size_alloc w1 (.cells #[.slice none 0 0] 34)];exact Tryz.makeMapSI _
 gi_wp2_with fail
 obtain⟨W6,hW6⟩:∃ W6,W6=((w1.alloc (.cells #[.slice none 0 0] 34)).alloc (.map #[] 0)).alloc (.cells #[.map (some (w1.heap.size+1))] 101):=⟨_,rfl⟩
 rw[←hW6]
 have hs6:W6.heap.size=w1.heap.size+3:=by rw[hW6];simp
 have E6:Ext w1 W6:=by rw[hW6];exact (((ExtR w1).alloc _).alloc _).alloc _
 have B5:Blk W6 w1.heap.size (.cells #[.slice none 0 0] 34):=by rw[hW6];exact ((Blk.new w1 _).alloc _).alloc _
 have BM:Blk W6 (w1.heap.size+1) (.map #[] 0):=by
  rw[hW6];have:=(Blk.new (w1.alloc (.cells #[.slice none 0 0] 34)) (.map #[] 0)).alloc (.cells #[.map (some (w1.heap.size+1))] 101);rwa [World.size_alloc]at this
 have B6:Blk W6 (w1.heap.size+2) (.cells #[.map (some (w1.heap.size+1))] 101):=by
  rw[hW6];have:=Blk.new ((w1.alloc (.cells #[.slice none 0 0] 34)).alloc (.map #[] 0)) (.cells #[.map (some (w1.heap.size+1))] 101);rwa [World.size_alloc,World.size_alloc]at this
 clear hW6 hmm
 refine⟨trivial,rfl,CallsIn.mono (callsIn_wide.2 (rows_c W6 _ l ((HV.out.ext HE.out).ext E6) (by have:=HL.out;omega) (fun p hp=>by have:=HM.out.size p hp;omega))) ?_⟩
 rintro e w7 ⟨u,rfl,hr⟩
 have HR:=Hd hr.rd
 have hX7:Ext W6 w7:=hr.ext
 clear hr
 obtain⟨a2,c2,hu⟩:=HR.out.sl
 subst hu
 have HX7:=Hd hX7
 have HB5:=Hd (B5.keeps hX7 (fun h=>h))
 have HBM:=Hd (BM.keeps hX7 (fun h=>h))
 have HB6:=Hd (B6.keeps hX7 (fun h=>h))
 have HE7:=Hd ((HE.out.trans E6).trans hX7)
 have hs7:=hX7.size
 clear B5 BM B6 E6 hX7
 gi_wp2_with fail
 refine⟨trivial,rfl,CallsIn.mono (callsIn_wide.2 (build_c 12 (rowsL l) (rows_ok HM.out) (by unfold rowsL;rw[List.length_map];have:=HL.out;omega) w7 _ (HC.out.ext HE7.out) HR.out)) ?_⟩
 rintro e w8 ⟨k,rfl,hk,hE⟩
 have hk:=PartAt.mono (A':=fun x=>w7.heap.size≤x∧x < w8.heap.size) (fun x h1 h2=>⟨h1,h2⟩) _ _ hk
 obtain⟨at0,ha1,ha2,ha3⟩:=at_of _ _ hk
 have hs8:=hE.size
 have HB5':=Hd (HB5.out.keeps hE (fun h=>h))
 have HBM':=Hd (HBM.out.keeps hE (fun h=>h))
 have HB6':=Hd (HB6.out.keeps hE (fun h=>h))
 have HE8:=Hd (HE7.out.trans hE)
 have HA3:=Hd ha3
 have HA2:=Hd ha2
 rw[←ha1]
 clear hk ha1 ha2 ha3 hE HB5 HBM HB6 HE7 HX7 HR HE
 gi_wp2_with fail
 refine⟨trivial,rfl,CallsIn.mono (callsIn_wide.2 (all_c w8 at0.root)) ?_⟩
 rintro e w9 ⟨rfl,hbx,hE⟩
 have hpt:at0.pt=T:=HA2.out.trans HTR.out.symm
 have hlen:(flatT at0.pt).length≤1000000:=by
  rw[hpt,HTR.out];have:=trie_len HM.out;have:=HL.out;omega
 have hl9:=hbx.lt
 obtain⟨A,hA⟩:∃ A:Nat→Prop,A=fun x=>w7.heap.size≤x∧x < w8.heap.size:=⟨_,rfl⟩
 have S0:NodS w w1.heap.size w9.heap.size A w8.heap.size at0 (flatT at0.pt) 0 w9:=
  ⟨HE8.out.trans hE,⟨_,0,HB5'.out.keeps hE (fun h=>h),by simpa [firsts]using World.ownsRow_nil _ _ _ _,Nat.le_refl _,fun b hb=>by cases hb⟩,⟨[],0,HBM'.out.keeps hE (fun h=>h),fun x=>by simp[entGet,cntB,cntV]⟩,HB6'.out.keeps hE (fun h=>h),hbx,by rw[hA];exact AtIs.keeps hE (fun _ _ h=>h) _ HA3.out⟩
 have HS0:=Hd S0
 have hAlo:∀ x,A x→w1.heap.size+2 < x∧x < w9.heap.size:=fun x hx=>by rw[hA]at hx;omega
 have hbx9:w1.heap.size+2 < w8.heap.size:=by omega
 obtain⟨L,hLd⟩:∃ L,L=flatT at0.pt:=⟨_,rfl⟩
 have hit:=all_it A w8.heap.size at0 hlen
 rw[←hLd]at hit hlen HS0
 have HIT:=Hd hit
 have HLD:=Hd hLd
 have HALO:=Hd hAlo
 have HPT0:=Hd hpt
 clear S0 hE hbx hA HE8 HB5' HBM' HB6' HA3 HA2 hpt hLd hit hAlo
 unfold ptrV
 gi_wp2_with fail
 refine wp_rangeE (N:=L.length) (gf:=122) (lb:=#[.pointer (some ⟨w8.heap.size,0,none⟩)]) rfl Tryz.enterAll1 HIT.out
  (fun k=>rfl) (NodS w w1.heap.size w9.heap.size A w8.heap.size at0 L) (fun _ _ _=>False) (fun k W W' h e=>h.st e) (fun _ _ _ _ h _=>h) (fun k W h=>⟨h.box,h.at'⟩)
  (fun k W o h=>h.put (by omega) (by omega) (by omega) (by omega) (fun x hx=>by have:=HALO.out x hx;omega) _)
  (fun k W o h=>h.put (by omega) (by omega) (by omega) (by omega) (fun x hx=>by have:=HALO.out x hx;omega) _) (fun _ _ _ _ h=>h)
  HS0.out (fun k=>{ tmps:=#[.slice a l.length c,undef,.slice none 0 0,.int .i64 0,.int .i64 0,.pointer (some ⟨w1.heap.size,0,none⟩),.pointer (some ⟨w1.heap.size+1+1,0,none⟩),.string (L.getD k ⟨#[]⟩),.slice a l.length c,.int .i64 0,.int .i64 0,.bool false,undef,.map (some (w1.heap.size+1)),.slice a l.length c,.slice a2 (rowsL l).length c2,.pointer (some ⟨at0.root,0,none⟩),.func (.func 122) #[] #[.pointer (some ⟨w8.heap.size,0,none⟩)],.string (L.getD k ⟨#[]⟩),undef,undef,undef,undef,undef,undef,undef,undef,undef,undef,undef,undef,undef],defers:=[] })
  ?hassign ?hbody ?hdone ?hstop
 case hassign =>
  intro l2 j W K hK
  unfold allVals
  rw[fold1]
  simp only[List.set_cons_zero,List.set_cons_succ]
  gi_wp2
  exact hK
 case hbody =>
  intro l2 k W hk h hlt
  obtain⟨v,n,h1,h2,h3,h4⟩:=h.var
  obtain⟨ad,cp,rfl⟩:=row_slice h2
  obtain⟨es,ck,h5,h6⟩:=h.tab
  obtain⟨x,hx⟩:∃ x,x=L.getD k ⟨#[]⟩:=⟨_,rfl⟩
  rw[←hx]
  have hLx:L.take (k+1)=L.take k++[x]:=by
   rw[List.take_succ_eq_append_getElem hk,hx,List.getD_eq_getElem?_getD,List.getElem?_eq_getElem hk];rfl
  obtain⟨cn,hcn⟩:∃ cn,cn=cntB (L.take k) x:=⟨_,rfl⟩
  have hcl:cn≤1000000:=by
   rw[hcn];unfold cntB
   refine Nat.le_trans List.count_le_length ?_
   rw[List.length_map,List.length_take];omega
  have e6:=h6 x
  rw[←hcn]at e6
  have hlk:(Instr.lookup 101 (.map (some (w1.heap.size+1))) (.string x) false).run Tryz.prog W=.ok (.int .i64 (cn:Int)) W:=by
   have:=run_lookup Tryz.ES Tryz.uMapSI h5 (Tryz.zeroI W) x.data.toList false
   rw[e6]at this
   unfold cntV at this
   by_cases h0:cn=0
   ·rw[if_pos h0]at this;rw[h0];exact this
   ·rw[if_neg h0]at this;exact this
  obtain⟨es2,hes2⟩:∃ es2,es2=entPut es x.data.toList (.int .i64 ((cn:Int)+1)) ck:=⟨_,rfl⟩
  obtain⟨ck2,hck2⟩:∃ ck2,ck2=(if (entGet es x.data.toList).isSome then ck else ck+1):=⟨_,rfl⟩
  obtain⟨W2,hW2⟩:∃ W2,W2=W.putObj (w1.heap.size+1) (.map (Tryz.ES.arr es2) ck2):=⟨_,rfl⟩
  have hmu:(Instr.mapUpdate 101 (.map (some (w1.heap.size+1))) (.string x) (.int .i64 ((cn:Int)+1))).run Tryz.prog W=.ok () W2:=by
   have:=run_mapUpdate Tryz.ES Tryz.uMapSI h5 x.data.toList (.int .i64 ((cn:Int)+1))
   rw[←hes2, ←hck2, ←hW2]at this;exact this
  have B2:Blk W2 (w1.heap.size+1) (.map (Tryz.ES.arr es2) ck2):=by rw[hW2];exact h5.put_same _
  have e7:∀ y:ByteArray,entGet es2 y.data.toList=cntV (cntB (L.take (k+1)) y):=fun y=>by
   rw[hes2,entGet_put,h6 y,hLx]
   have hc:cntB (L.take k++[x]) y=cntB (L.take k) y+(if x.data.toList=y.data.toList then 1 else 0):=by
    unfold cntB
    rw[List.map_append,List.count_append,List.map_cons,List.map_nil,List.count_singleton]
    simp
   rw[hc]
   by_cases hxy:y.data.toList=x.data.toList
   ·have hyx:y=x:=ByteArray.ext (Array.ext' hxy)
    subst hyx
    rw[if_pos rfl,if_pos rfl, ←hcn]
    unfold cntV;rw[if_neg (by omega)];simp
   ·rw[if_neg hxy,if_neg (fun e=>hxy e.symm)];rfl
  have hlk2:(Instr.lookup 101 (.map (some (w1.heap.size+1))) (.string x) false).run Tryz.prog W2=.ok (.int .i64 ((cn:Int)+1)) W2:=by
   have:=run_lookup Tryz.ES Tryz.uMapSI B2 (Tryz.zeroI W2) x.data.toList false
   rw[hes2,entGet_put,if_pos rfl]at this
   exact this
  have K2:Keeps (fun b=>b=w1.heap.size+1) W W2:=by rw[hW2];exact Keeps.onePut _ _ _
  have q6:W.cell? ⟨w1.heap.size+1+1,0,none⟩=some (.map (some (w1.heap.size+1))):=h.mv.cell (i:=0) (by rfl)
  have M2:=h.mv.keeps K2 (by omega)
  have q62:W2.cell? ⟨w1.heap.size+1+1,0,none⟩=some (.map (some (w1.heap.size+1))):=M2.cell (i:=0) (by rfl)
  have V2:=h1.keeps K2 (by omega)
  have O2:=own_keeps h2 K2 (fun b hb e=>by have:=h4 b hb;omega)
  have X2:=h.box.keeps K2 (by omega)
  have A2:=AtIs.keeps K2 (fun y hy e=>by have:=HALO.out y hy;omega) _ h.at'
  have E2:=h.ext.trans' K2 (fun y hy e=>by omega)
  have hV2:=V2.cell (i:=0) (v:=.slice ad n cp) (by rfl)
  have hV2f:W2.frozen? ⟨w1.heap.size,0,none⟩=false:=V2.frozen
  have HMEM:=Hd (show memB (firsts (L.take k)) x=true↔cn≠0 from by
   rw[memB_iff,firsts_mem,hcn]
   unfold cntB
   rw[←Nat.pos_iff_ne_zero,List.count_pos_iff,List.mem_map]
   exact⟨fun hm=>⟨x,hm,rfl⟩,fun ⟨y,hy,e⟩=>by rw[←show y=x from ByteArray.ext (Array.ext' e)];exact hy⟩)
  have HFS:=Hd (show firsts (L.take (k+1))=addF (firsts (L.take k)) x by rw[hLx,firsts_snoc])
  have HTAB:=Hd (show ∃ es ck,Blk W2 (w1.heap.size+1) (.map (Tryz.ES.arr es) ck)∧∀ y:ByteArray,entGet es y.data.toList=cntV (cntB (L.take (k+1)) y)from⟨es2,ck2,B2,e7⟩)
  have HK2:=Hd K2
  have HM2:=Hd M2
  have HV2:=Hd V2
  have HO2:=Hd O2
  have HX2:=Hd X2
  have HA2:=Hd A2
  have HE2:=Hd E2
  have H4:=Hd h4
  clear h h1 h2 h4 h5 h6 hx hLx hcn e6 hes2 hck2 hW2 B2 e7 K2 M2 V2 O2 X2 A2 E2 HS0
  obtain⟨i0,hi,hz0,hz1,hz2⟩:=info_parts Tryz.infoStr
  by_cases hc0:cn=0
  ·subst hc0
   have hnm:memB (firsts (L.take k)) x=false:=by
    cases hm:memB (firsts (L.take k)) x with
    | false=>rfl
    | true=>exact absurd rfl (HMEM.out.1 hm)
   have HNM:=Hd hnm
   have hlk':(Instr.lookup 101 (.map (some (w1.heap.size+1))) (.string x) false).run Tryz.prog W=.ok (.int .i64 0) W:=hlk
   have hmu':(Instr.mapUpdate 101 (.map (some (w1.heap.size+1))) (.string x) (.int .i64 1)).run Tryz.prog W=.ok () W2:=hmu
   have hlk2':(Instr.lookup 101 (.map (some (w1.heap.size+1))) (.string x) false).run Tryz.prog W2=.ok (.int .i64 1) W2:=hlk2
   clear hnm hlk hmu hlk2
   gi_wp2_with (gi_at_builtin;refine wpListIn_append_any _ rfl (.tmp 27) (.tmp 29) 34 rfl 9 i0 _ 1 16 Tryz.uStrs hi hz0 hz1 hz2 rfl (by decide) (.slice ad n cp) n _ rfl (own_ext HO2.out ((ExtR W2).alloc _)) ⟨W2.heap.size,0,none⟩ 1 1 [.string x] rfl rfl (news_blk (Blk.new W2 _)) (by simp[Value.oneCell']) (by unfold maxLen;omega) (by omega) ?_;intro v' w6 r1 r2 r3;obtain⟨ad',cp',rfl⟩:=row_slice r1;have hV6:=(HV2.out.alloc _).keeps r2 (fun e=>by have:=H4.out _ e;omega);have q56:w6.cell? ⟨w1.heap.size,0,none⟩=some (.slice ad n cp):=hV6.cell (i:=0) (by rfl);have f56:w6.frozen? ⟨w1.heap.size,0,none⟩=false:=hV6.frozen)
   have hadd:firsts (L.take (k+1))=firsts (L.take k)++[x]:=by rw[HFS.out];unfold addF;rw[if_neg (by rw[HNM.out];simp)]
   have r1':w6.ownsRow 0 9 1 (.slice ad' (n+1) cp') (n+1) ((firsts (L.take (k+1))).map Value.string):=by rw[hadd,List.map_append];exact r1
   have K6:Keeps (fun b=>(Value.slice ad n cp).ownBlock=some b) W2 w6:=((Keeps.refl _ W2).alloc _).trans r2
   have hv':∀ b,(Value.slice ad' (n+1) cp').ownBlock=some b→w9.heap.size+2≤b:=fun b hb=>by
    rcases r3 with r3 | r3
    ·exact H4.out b (r3 ▸ hb)
    ·have h9:=r3 b hb;have:=HK2.out.size;rw[World.size_alloc]at h9;omega
   have K7:Keeps (fun b=>b=w1.heap.size) w6 (w6.setCell ⟨w1.heap.size,0,none⟩ (.slice ad' (n+1) cp')):=Keeps.oneSet w6 ⟨w1.heap.size,0,none⟩ _
   have nO:∀ b,b < w9.heap.size+2→¬(Value.slice ad n cp).ownBlock=some b:=fun b hb e=>by have:=H4.out b e;omega
   refine⟨((HK2.out.mono (fun y _ e=>?_)).trans (K6.mono (fun y _ e=>?_))).trans (K7.mono (fun y _ e=>?_)),?_⟩
   ·have e:y=_:=e;show y≠_∧y≠_;omega
   ·have:=H4.out y e;show y≠_∧y≠_;omega
   ·have e:y=_:=e;show y≠_∧y≠_;omega
   ·obtain⟨es3,ck3,hT1,hT2⟩:=HTAB.out
    exact⟨(HE2.out.trans' K6 (fun y hy e=>by have:=H4.out y e;omega)).trans' K7 (fun y hy e=>by have e:y=_:=e;omega),
     ⟨_,n+1,hV6.set_same (i:=0) _,own_keeps r1' K7 (fun b hb e=>by have:=hv' b hb;omega),by omega,hv'⟩,
     ⟨es3,ck3,(hT1.keeps K6 (nO _ (by omega))).keeps K7 (by omega),hT2⟩,(HM2.out.keeps K6 (nO _ (by omega))).keeps K7 (by omega),(HX2.out.keeps K6 (nO _ (by omega))).keeps K7 (by omega),
     AtIs.keeps K7 (fun y hy e=>by have:=HALO.out y hy;omega) _ (AtIs.keeps K6 (fun y hy=>nO y (by have:=HALO.out y hy;omega)) _ HA2.out)⟩
  ·have hc1:¬((cn:Int)+1=1):=by omega
   have hc2:(((cn:Int)+1) == 1)=false:=by simp;omega
   have hm:=HMEM.out.2 hc0
   have HNM:=Hd hm
   clear hm
   gi_wp2_with fail
   have hadd:firsts (L.take (k+1))=firsts (L.take k):=by rw[HFS.out];unfold addF;rw[if_pos HNM.out]
   refine⟨HK2.out.mono (fun y _ e=>?_),?_⟩
   ·have e:y=_:=e;show y≠_∧y≠_;omega
   ·exact⟨HE2.out,⟨_,n,HV2.out,by rw[hadd];exact HO2.out,by omega,H4.out⟩,HTAB.out,HM2.out,HX2.out,HA2.out⟩
 case hdone =>
  intro W h hd
  obtain⟨v,n,h1,h2,h3,h4⟩:=h.var
  obtain⟨ad,cp,rfl⟩:=row_slice h2
  have q5:W.cell? ⟨w1.heap.size,0,none⟩=some (.slice ad n cp):=h1.cell (i:=0) (by rfl)
  rw[List.take_length,HLD.out]at h2
  have H2:=Hd h2
  have H4:=Hd h4
  have HX:=Hd h.ext
  have HD:=Hd hd
  have HPT:=Hd (show at0.pt=T from HPT0.out)
  clear h h1 h2 h4 hd HS0
  gi_wp2_with fail
  refine⟨by simp,.inl ⟨_,_,rfl,run_takeDeferred HD.out,?_⟩⟩
  refine⟨_,results_tmp2 rfl _ _ _,?_⟩
  have hK:=Keeps.onePut W w9.heap.size (.deferred none)
  refine⟨.slice ad n cp,n,rfl,⟨_,_,rfl⟩,by rw[←HPT.out];exact own_keeps H2.out hK (fun b hb e=>by have:=H4.out b hb;omega),HX.out.putObj (.inr (by omega)) _,fun b hb=>by have:=H4.out b hb;omega⟩
 case hstop=>intro c k W _ _ h;exact h.elim
end
section
open Go Go.RowKit
theorem firsts_head(x:ByteArray)(r:List ByteArray):(firsts (x :: r))[0]?=some x:=by
 unfold firsts
 rw[List.foldl_cons]
 have h:∀ (r acc:List ByteArray),acc[0]?=some x→(r.foldl addF acc)[0]?=some x:=by
  intro r
  induction r with
  | nil=>intro acc h;exact h
  | cons y r ih =>
   intro acc h
   rw[List.foldl_cons]
   refine ih _ ?_
   unfold addF
   split
   ·exact h
   ·rw[List.getElem?_append_left (List.getElem?_eq_some_iff.1 h).1];exact h
 exact h r _ (by simp[addF,memB])
theorem flatT_head(T:PT):(firsts (flatT T))[0]?=some T.text:=by
 obtain⟨t,ks⟩:=T
 unfold flatT
 exact firsts_head t _
theorem nbeq_sha(x y:ByteArray):(x.toList == y.toList)=decide (x=y):=by
 by_cases h:x=y
 ·simp[h]
 ·have h3:¬ x.toList=y.toList:=fun h2=>h (toList_inj h2)
  simp only[h,decide_false];exact beq_eq_false_iff_ne.2 h3
theorem flatTs_mem{t:ByteArray}:∀ {ks:List PT},t∈flatTs ks↔∃ T∈ks,t∈flatT T
 | []=>by simp[flatTs]
 | T :: ks=>by
  unfold flatTs
  rw[List.mem_append,flatTs_mem (ks:=ks)]
  constructor
  ·rintro (h |⟨T',h1,h2⟩)
   ·exact⟨T,List.mem_cons_self,h⟩
   ·exact⟨T',List.mem_cons_of_mem _ h1,h2⟩
  ·rintro⟨T',h1,h2⟩
   rcases List.mem_cons.1 h1 with rfl | h1
   ·exact .inl h2
   ·exact .inr ⟨T',h1,h2⟩
theorem agree{P:Program}{f:FuncId}{args:Array Value}{w:World}{R R':Value→World→Prop}
  (h:Calls P f args w fun | .returned v,w'=>R v w' | _,_=>False) (h':Calls P f args w fun | .returned v,w'=>R' v w' | _,_=>False) (hi:P.inits.idxOf? f=none) :
  ∃ v w',R v w'∧R' v w':=by
 obtain⟨n,v,w1,e1,r1⟩:=h.done hi
 obtain⟨m,v',w2,e2,r2⟩:=h'.done hi
 have a:=runN_ended e1 m
 have b:=runN_ended e2 n
 rw[Nat.add_comm,a]at b
 injection b with ho hw
 injection ho with hv
 subst hv hw
 exact⟨_,_,r1,r2⟩
theorem agree_eq{P:Program}{f:FuncId}{args:Array Value}{w:World}{a b:Value}{R R':World→Prop}
  (h:Calls P f args w fun e w'=>e=.returned a∧R w') (h':Calls P f args w fun e w'=>e=.returned b∧R' w') (hi:P.inits.idxOf? f=none):a=b:=by
 obtain⟨v,w',h1,h2⟩:=agree (R:=fun v _=>v=a) (R':=fun v _=>v=b)
  (h.mono fun e w' hh=>by obtain⟨rfl,_⟩:=hh;rfl) (h'.mono fun e w' hh=>by obtain⟨rfl,_⟩:=hh;rfl) hi
 exact h1.symm.trans h2
theorem nodeV_inj{n m:NodeT}(h:n.V=m.V):n=m:=by
 obtain⟨k,p,v,rs⟩:=n
 obtain⟨k',p',v',rs'⟩:=m
 unfold NodeT.V NodeT.cells at h
 injection h with h
 have h:=congrArg Array.toList h
 simp only[List.toList_toArray,List.cons.injEq,Value.int.injEq,Value.string.injEq]at h
 obtain⟨⟨_,h1⟩,h2,h3,h4⟩:=h
 have h5:rs=rs':=by
  have:∀ a b:List ByteArray,a.map Value.string=b.map Value.string→a=b:=fun a=>by
   induction a with
   | nil=>intro b hb;cases b with | nil=>rfl | cons x y=>cases hb
   | cons x r ih =>
    intro b hb
    cases b with
    | nil=>cases hb
    | cons y t =>
     simp only[List.map_cons,List.cons.injEq,Value.string.injEq]at hb
     rw[hb.1,ih t hb.2]
  exact this _ _ h4
 have h1:k=k':=by omega
 subst h1 h2 h3 h5;rfl
theorem nodeB_inj(w:World){f g:Nat}{n m:NodeT}(hn:GoodW (InlD f) n)(hm:GoodW (InlD g) m)(h:nodeB n=nodeB m):n=m:=by
 have h1:=get_c4 (inlP f) w n hn
 have h2:=get_c4 (inlP g) w m hm
 rw[h]at h1
 have:=agree_eq h1 h2 (by kernel_rfl)
 injection this with this
 have:=congrArg Array.toList this
 simp only[List.toList_toArray,List.cons.injEq]at this
 exact nodeV_inj this.1
theorem refB_small{T:PT}(h:T.text.size < 32):refB T.text=T.text:=by unfold refB;rw[if_pos h]
theorem refB_big{T:PT}(h:¬ T.text.size < 32):refB T.text=textB (shaB T.text):=by unfold refB;rw[if_neg h]
theorem flat_small{f:Nat}{T:PT}{n:NodeT}(h:Stands f T n)(hs:T.text.size < 32):flatT T=[T.text]:=by
 have hk:=h.small hs
 obtain⟨x,ks⟩:=T
 have hk:ks=[]:=hk
 subst hk
 unfold flatT flatTs;rfl
theorem held_big{T:PT}(h:¬ T.text.size < 32):flatTs (heldK T)=flatT T:=by
 unfold heldK;rw[if_neg h];simp[flatTs]
theorem text_mem(T:PT):T.text∈flatT T:=by cases T;unfold flatT;exact List.mem_cons_self
theorem rows_one{l:List Pair}(h:RowsOk 0 l):l.length≤1:=by
 rcases Nat.lt_or_ge l.length 2 with h2 | h2
 ·omega
 ·obtain⟨a,ha⟩:∃ a,l[0]?=some a:=⟨_,List.getElem?_eq_getElem (by omega)⟩
  obtain⟨b,hb⟩:∃ b,l[1]?=some b:=⟨_,List.getElem?_eq_getElem (by omega)⟩
  have hlt:=pair_get h.rise (by omega) ha hb
  have:=(h.size b (List.mem_of_getElem? hb)).1
  rw[show b.l=[]from List.eq_nil_of_length_eq_zero (by show b.1.size=0;omega)]at hlt
  exact absurd hlt (not_lt_nil _)
theorem ba_ext{a b:ByteArray}(h:a.data.toList=b.data.toList):a=b:=by
 obtain⟨⟨a⟩⟩:=a
 obtain⟨⟨b⟩⟩:=b
 simp only at h
 subst h;rfl
def hashR(r:ByteArray):Option ByteArray:=(cutN r).bind (hashB r)
def hashesT(n:NodeT):List ByteArray:=n.refs.filterMap hashR
theorem hashR_nil:hashR ⟨#[]⟩=none:=by
 unfold hashR cutN
 rw[dif_neg (by decide)];rfl
theorem hashR_text{h:ByteArray}(hs:h.size=32):hashR (textB h)=some h:=by
 obtain⟨r,h1,h2⟩:=hash_text h hs
 unfold hashR;rw[h1];exact h2
theorem hashR_inl{I:ByteArray→NodeT→Prop}(HI:InlP I){r:ByteArray}{m:NodeT}(h:I r m):hashR r=none:=by
 obtain⟨q,h1,h2⟩:=HI.nohash r m h
 unfold hashR;rw[h1];exact h2
theorem hashR_kid{f:Nat}{T:PT}{n:NodeT}(h:Stands f T n):(hashR (refB T.text)).toList=(heldK T).map fun k=>shaB k.text:=by
 by_cases hs:T.text.size < 32
 ·rw[hashR_inl (inlP (f+1)) (h.may.2 hs)]
  unfold heldK;rw[if_pos hs];rfl
 ·rw[refB_big hs,hashR_text (shaB_size _)]
  unfold heldK;rw[if_neg hs];rfl
theorem hashes_no(k:Nat):(noRefs k).filterMap hashR=[]:=by
 unfold noRefs
 rw[List.filterMap_eq_nil_iff]
 intro r hr
 rw[List.eq_of_mem_replicate hr,hashR_nil]
theorem filter_flat{α:Type}(g:α→ByteArray)(k:α→List PT):∀ L:List α,(∀ i∈L,(hashR (g i)).toList=(k i).map fun k=>shaB k.text)→(L.map g).filterMap hashR=(L.flatMap k).map fun k=>shaB k.text
 | [],_=>rfl
 | x :: L,h=>by
  rw[List.map_cons,List.flatMap_cons,List.map_append, ←filter_flat g k L fun i hi=>h i (List.mem_cons_of_mem _ hi), ←h x List.mem_cons_self,List.filterMap_cons]
  cases hashR (g x) <;> rfl
theorem hashes_below(f:Nat)(l:List Pair)(h:RowsOk f l):hashesT (nodeF (buildT f) l)=(belowF (buildT f) l).map fun k=>shaB k.text:=by
 unfold hashesT
 by_cases h0:l.length=0
 ·have e1:nodeF (buildT f) l=emptyN:=by unfold nodeF;rw[if_pos h0]
  have e2:belowF (buildT f) l=[]:=by unfold belowF;rw[if_pos (by omega)]
  rw[e1,e2];exact hashes_no 16
 by_cases h1:l.length=1
 ·have e1:nodeF (buildT f) l=⟨1,(l.getD 0 pd).1,(l.getD 0 pd).2,noRefs 16⟩:=by unfold nodeF;rw[if_neg h0,if_pos h1]
  have e2:belowF (buildT f) l=[]:=by unfold belowF;rw[if_pos (by omega)]
  rw[e1,e2];exact hashes_no 16
 have h2:2≤l.length:=by omega
 cases f with
 | zero=>have:=rows_one h;omega
 | succ f =>
  by_cases hk:0 < comK l
  ·have hcom:=com_all h h2
   have hok:RowsOk f (dropL (comK l) l):=(dropL_ok (comK l) h (fun p hp q hq=>(hcom p hp).1.trans (hcom q hq).1.symm) (fun p hp=>(hcom p hp).2)).mono (by omega)
   have hne:dropL (comK l) l≠[]:=fun e=>by have:=dropL_len (comK l) l;rw[e]at this;simp at this;omega
   have hst:=(good f _ hok).2.1 hne
   have e1:nodeF (buildT (f+1)) l=⟨2,(l.getD 0 pd).1.extract 0 (comK l),⟨#[]⟩,refB (buildT (f+1) (dropL (comK l) l)).text :: noRefs 15⟩:=by unfold nodeF;rw[if_neg h0,if_neg h1,if_pos hk]
   have e2:belowF (buildT (f+1)) l=heldK (buildT (f+1) (dropL (comK l) l)):=by unfold belowF;rw[if_neg (by omega),if_pos hk]
   rw[e1,e2, ←hashR_kid hst]
   show (refB (buildT (f+1) (dropL (comK l) l)).text :: noRefs 15).filterMap hashR=_
   rw[List.filterMap_cons,hashes_no]
   cases hashR (refB (buildT (f+1) (dropL (comK l) l)).text) <;> rfl
  ·have e1:(nodeF (buildT (f+1)) l).refs=(List.range 16).map fun i=>if (cutL i l).length=0 then ⟨#[]⟩else refB (buildT (f+1) (dropL 1 (cutL i l))).text:=by unfold nodeF;rw[if_neg h0,if_neg h1,if_neg hk]
   have e2:belowF (buildT (f+1)) l=(List.range 16).flatMap fun i=>if (cutL i l).length=0 then []else heldK (buildT (f+1) (dropL 1 (cutL i l))):=by unfold belowF;rw[if_neg (by omega),if_neg hk]
   rw[e1,e2]
   refine filter_flat _ _ _ fun i hi=>?_
   by_cases hc:(cutL i l).length=0
   ·rw[if_pos hc,if_pos hc,hashR_nil];rfl
   ·rw[if_neg hc,if_neg hc]
    exact hashR_kid ((good f _ (sub_ok i h)).2.1 (fun e=>by have:=dropL_len 1 (cutL i l);rw[e]at this;simp at this;omega))
theorem below_kid{f:Nat}{l:List Pair}(h:RowsOk f l){K:PT}(hK:K∈belowF (buildT f) l):∃ g m,f=g+1∧K=buildT (g+1) m∧RowsOk g m∧32≤K.text.size:=by
 have held:∀ {T:PT},K∈heldK T→K=T∧32≤K.text.size:=fun {T} h=>by
  unfold heldK at h
  split at h
  ·cases h
  ·rw[List.mem_singleton]at h;subst h;exact⟨rfl,by omega⟩
 unfold belowF at hK
 by_cases h1:l.length≤1
 ·rw[if_pos h1]at hK;cases hK
 rw[if_neg h1]at hK
 cases f with
 | zero=>have:=rows_one h;omega
 | succ f =>
  by_cases hk:0 < comK l
  ·rw[if_pos hk]at hK
   have hcom:=com_all h (by omega)
   have hok:RowsOk f (dropL (comK l) l):=(dropL_ok (comK l) h (fun p hp q hq=>(hcom p hp).1.trans (hcom q hq).1.symm) (fun p hp=>(hcom p hp).2)).mono (by omega)
   obtain⟨e,hs⟩:=held hK
   exact⟨f,_,rfl,e,hok,hs⟩
  ·rw[if_neg hk]at hK
   obtain⟨i,_,hK⟩:=List.mem_flatMap.1 hK
   split at hK
   ·cases hK
   ·obtain⟨e,hs⟩:=held hK
    exact⟨f,_,rfl,e,sub_ok i h,hs⟩
def IsNode(t:ByteArray)(n:NodeT):Prop:=t=nodeB n∧∃ g,GoodW (InlD g) n
structure ClosedP(L B:List ByteArray):Prop where
 node:∀ t∈L,∃ n,IsNode t n∧∀ h∈hashesT n,∃ t'∈L,h=shaB t'
 told:∀ t∈B,32≤t.size∧∃ t'∈L,∃ n,IsNode t' n∧shaB t∈hashesT n
theorem closed:∀ (f:Nat) (l:List Pair),RowsOk f l→ClosedP (flatT (buildT (f+1) l)) (flatTs (belowF (buildT f) l)):=by
 intro f
 induction f with
 | zero =>
  intro l h
  have e2:belowF (buildT 0) l=[]:=by have:=rows_one h;unfold belowF;rw[if_pos (by omega)]
  have eT:flatT (buildT (0+1) l)=[nodeB (nodeF (buildT 0) l)]:=by
   show flatT (.mk (nodeB (nodeF (buildT 0) l)) (belowF (buildT 0) l))=_
   rw[flatT,e2];simp[flatTs]
  have hh:=hashes_below 0 l h
  rw[e2]at hh
  rw[eT,e2]
  refine⟨fun t ht=>?_,fun t ht=>by simp[flatTs]at ht⟩
  rw[List.mem_singleton]at ht
  exact⟨_,⟨ht,0,(good 0 l h).1⟩,fun x hx=>by rw[hh]at hx;cases hx⟩
 | succ f ih =>
  intro l h
  have eT:flatT (buildT (f+1+1) l)=nodeB (nodeF (buildT (f+1)) l) :: flatTs (belowF (buildT (f+1)) l):=by
   show flatT (.mk (nodeB (nodeF (buildT (f+1)) l)) (belowF (buildT (f+1)) l))=_
   rw[flatT]
  have hh:=hashes_below (f+1) l h
  have hroot:IsNode (nodeB (nodeF (buildT (f+1)) l)) (nodeF (buildT (f+1)) l):=⟨rfl,f+1,(good (f+1) l h).1⟩
  have hsub:∀ {K:PT},K∈belowF (buildT (f+1)) l→∀ t∈flatT K,t∈flatT (buildT (f+1+1) l):=fun {K} hK t ht=>by
   rw[eT];exact List.mem_cons_of_mem _ (flatTs_mem.2 ⟨K,hK,ht⟩)
  have hkid:∀ {K:PT},K∈belowF (buildT (f+1)) l→∃ m,K=buildT (f+1) m∧RowsOk f m∧32≤K.text.size:=fun {K} hK=>by
   obtain⟨g,m,e,h1,h2,h3⟩:=below_kid h hK
   obtain rfl:f=g:=by omega
   exact⟨m,h1,h2,h3⟩
  constructor
  ·intro t ht
   rw[eT]at ht
   rcases List.mem_cons.1 ht with rfl | ht
   ·refine⟨_,hroot,fun x hx=>?_⟩
    rw[hh]at hx
    obtain⟨K,hK,rfl⟩:=List.mem_map.1 hx
    exact⟨_,hsub hK _ (text_mem K),rfl⟩
   ·obtain⟨K,hK,ht⟩:=flatTs_mem.1 ht
    obtain⟨m,rfl,hm,_⟩:=hkid hK
    obtain⟨n,h1,h2⟩:=(ih m hm).node t ht
    exact⟨n,h1,fun x hx=>by obtain⟨t',ht',e⟩:=h2 x hx;exact⟨t',hsub hK _ ht',e⟩⟩
  ·intro t ht
   obtain⟨K,hK,ht⟩:=flatTs_mem.1 ht
   obtain⟨m,rfl,hm,h32⟩:=hkid hK
   have eK:flatT (buildT (f+1) m)=nodeB (nodeF (buildT f) m) :: flatTs (belowF (buildT f) m):=by
    show flatT (.mk (nodeB (nodeF (buildT f) m)) (belowF (buildT f) m))=_
    rw[flatT]
   rw[eK]at ht
   rcases List.mem_cons.1 ht with rfl | ht
   ·refine⟨h32,_,?_,_,hroot,?_⟩
    ·rw[eT];exact List.mem_cons_self
    ·rw[hh];exact List.mem_map.2 ⟨_,hK,rfl⟩
   ·obtain⟨h1,t',ht',n,h2,h3⟩:=(ih m hm).told t ht
    exact⟨h1,t',hsub hK _ ht',n,h2,h3⟩
theorem firsts_nodup(l:List ByteArray):(firsts l).Nodup:=by
 unfold firsts
 have:∀ (l acc:List ByteArray),acc.Nodup→(l.foldl addF acc).Nodup:=fun l=>by
  induction l with
  | nil=>exact fun _ h=>h
  | cons x r ih =>
   intro acc h
   rw[List.foldl_cons]
   refine ih _ ?_
   unfold addF
   split
   ·exact h
   ·rename_i hn
    have hm:x ∉ acc:=fun hx=>hn ((memB_iff acc x).2 hx)
    rw[List.nodup_append]
    exact⟨h,by simp,fun a ha b hb e=>by simp at hb;subst hb;subst e;exact hm ha⟩
 exact this l [] (by simp)
structure TextsP(L:List ByteArray)(top:ByteArray):Prop where
 head:L[0]?=some top
 nodup:L.Nodup
 node:∀ t∈L,∃ n,IsNode t n∧∀ h∈hashesT n,∃ t'∈L,h=shaB t'
 told:∀ (i:Nat) t,L[i+1]?=some t→32≤t.size∧∃ t'∈L,∃ n,IsNode t' n∧shaB t∈hashesT n
theorem texts{l:List Pair}(h:checkN l=0):TextsP (firsts (flatT (trieT l))) (trieT l).text:=by
 have hc:=closed 12 (rowsL l) (rows_ok (check_ok h))
 have eT:flatT (trieT l)=(trieT l).text :: flatTs (belowF (buildT 12) (rowsL l)):=by
  show flatT (.mk (nodeB (nodeF (buildT 12) (rowsL l))) (belowF (buildT 12) (rowsL l)))=_
  rw[flatT];rfl
 have hc:ClosedP (flatT (trieT l)) (flatTs (belowF (buildT 12) (rowsL l))):=hc
 have hnd:=firsts_nodup (flatT (trieT l))
 refine⟨flatT_head _,hnd,fun t ht=>?_,fun i t ht=>?_⟩
 ·obtain⟨n,h1,h2⟩:=hc.node t ((firsts_mem _ _).1 ht)
  exact⟨n,h1,fun x hx=>by obtain⟨t',ht',e⟩:=h2 x hx;exact⟨t',(firsts_mem _ _).2 ht',e⟩⟩
 ·have hm:=(firsts_mem _ _).1 (List.mem_of_getElem? ht)
  have hne:t≠(trieT l).text:=fun e=>by
   have h0:=flatT_head (trieT l)
   obtain⟨h1,e1⟩:=List.getElem?_eq_some_iff.1 ht
   obtain⟨h2,e2⟩:=List.getElem?_eq_some_iff.1 h0
   exact List.pairwise_iff_getElem.1 hnd 0 (i+1) h2 h1 (by omega) (e2.trans (e.symm.trans e1.symm))
  rw[eT]at hm
  rcases List.mem_cons.1 hm with e | hm
  ·exact absurd e hne
  ·obtain⟨h1,t',ht',n,h2⟩:=hc.told t hm
   exact⟨h1,t',(firsts_mem _ _).2 ht',n,h2⟩
theorem isNode_inj(w:World){t:ByteArray}{n m:NodeT}(h:IsNode t n)(k:IsNode t m):n=m:=by
 obtain⟨h1,f,h2⟩:=h
 obtain⟨k1,g,k2⟩:=k
 exact nodeB_inj w h2 k2 (h1.symm.trans k1)
def Inf(v t:ByteArray):Prop:=v.data.toList <:+: t.data.toList
theorem Inf.trans{a b c:ByteArray}(h:Inf a b)(k:Inf b c):Inf a c:=List.IsInfix.trans h k
theorem Inf.rfl'(a:ByteArray):Inf a a:=List.infix_refl _
theorem inf_append_right(a b:ByteArray):Inf b (a++b):=⟨a.data.toList,[],by rw[ByteArray.data_append,Array.toList_append,List.append_nil]⟩
theorem inf_text(v:ByteArray):Inf v (textB v):=by
 unfold textB;split
 ·exact Inf.rfl' v
 ·exact inf_append_right _ _
theorem inf_cat{x:ByteArray}:∀ {l:List ByteArray},x∈l→Inf x (catB l)
 | y :: l,h=>by
  rcases List.mem_cons.1 h with rfl | h
  ·refine⟨[],(l.map (·.data.toList)).flatten,?_⟩
   show _=x.data.toList++(l.map (·.data.toList)).flatten
   simp
  ·obtain⟨s,t,e⟩:=inf_cat h
   have e:s++x.data.toList++t=(l.map (·.data.toList)).flatten:=e
   refine⟨y.data.toList++s,t,?_⟩
   show _=y.data.toList++(l.map (·.data.toList)).flatten
   rw[←e];simp
theorem inf_list{x:ByteArray}{l:List ByteArray}(h:x∈l):Inf x (listB l):=(inf_cat h).trans (inf_append_right _ _)
theorem Stands.inf{f:Nat}{T:PT}{n:NodeT}(h:Stands f T n){v t:ByteArray}(ht:t∈flatT T)(hv:Inf v t):(∃ t∈flatTs (heldK T),Inf v t)∨Inf v (refB T.text):=by
 by_cases hs:T.text.size < 32
 ·have hk:=h.small hs
  obtain⟨x,ks⟩:=T
  have hk:ks=[]:=hk
  subst hk
  unfold flatT flatTs at ht
  rw[List.mem_singleton]at ht
  right
  unfold refB;rw[if_pos hs, ←(show t=(PT.mk x []).text from ht)];exact hv
 ·left
  refine⟨t,?_,hv⟩
  unfold heldK;rw[if_neg hs,flatTs_mem]
  exact⟨T,List.mem_singleton.2 rfl,ht⟩
def partsN(l:List Pair):Nat→Nat
 | 0=>0
 | n+1=>partsN l n+(if (cutL n l).length=0 then 0 else 1)
theorem parts_mono(l:List Pair)(n:Nat):∀ d,partsN l n≤partsN l (n+d)
 | 0=>Nat.le_refl _
 | d+1=>by have:=parts_mono l n d;rw[show n+(d+1)=(n+d)+1 from rfl,partsN];omega
theorem parts_one{l:List Pair}{i n:Nat}(h:(cutL i l).length≠0)(hi:i < n):1≤partsN l n:=by
 have:=parts_mono l (i+1) (n - (i+1))
 rw[show i+1+(n - (i+1))=n by omega,partsN,if_neg h]at this
 omega
theorem parts_two{l:List Pair}{i j n:Nat}(h:(cutL i l).length≠0)(hj:(cutL j l).length≠0)(hij:i < j)(hn:j < n):2≤partsN l n:=by
 have h1:=parts_one h hij
 have:=parts_mono l (j+1) (n - (j+1))
 rw[show j+1+(n - (j+1))=n by omega,partsN,if_neg hj]at this
 omega
theorem ks_grow(B:List Pair→PT)(l:List Pair)(hB:∀ i,(cutL i l).length≠0→(flatT (B (dropL 1 (cutL i l)))).length+2≤3 * (cutL i l).length):∀ n,(flatTs (ksK B l n)).length+2 * partsN l n≤3 * cutSum l n
 | 0=>by simp[ksK,flatTs,cutSum,partsN]
 | n+1=>by
  rw[ksK_step,flatTs_append,List.length_append,cutSum,partsN]
  have:=ks_grow B l hB n
  by_cases h0:(cutL n l).length=0
  ·rw[if_pos h0,if_pos h0];simp[flatTs];omega
  ·rw[if_neg h0,if_neg h0]
   have h1:=hB n h0
   have h2:=held_le (B (dropL 1 (cutL n l)))
   omega
theorem cutSum_lt{l:List Pair}(h:∃ p∈l,p.l=[])(n:Nat):cutSum l n+1≤l.length:=by
 obtain⟨p,hp,e⟩:=h
 induction l with
 | nil=>cases hp
 | cons q r ih =>
  rw[cutSum_cons,List.length_cons]
  rcases List.mem_cons.1 hp with rfl | hp
  ·have:=cutSum_le r n
   rw[e]
   have:hN [] n=0:=rfl
   omega
  ·have:=ih hp
   have:=hN_le q.l n
   omega
theorem cut_in{l:List Pair}{p:Pair}{x:UInt8}{r:List UInt8}(hp:p∈l)(hpx:p.l=x :: r):p∈cutL x.toNat l:=List.mem_filter.2 ⟨hp,by unfold pickB;rw[show p.1.data.toList=x :: r from hpx];simp⟩
theorem cut_len{l:List Pair}{p:Pair}{x:UInt8}{r:List UInt8}(hp:p∈l)(hpx:p.l=x :: r):(cutL x.toNat l).length≠0:=fun h0=>by
 have:=cut_in hp hpx
 rw[List.eq_nil_of_length_eq_zero h0]at this;cases this
theorem drop_mem{k:Nat}{l:List Pair}{p:Pair}(h:p∈l):∃ q∈dropL k l,q.2=p.2:=⟨_,List.mem_map_of_mem h,rfl⟩
structure GrowP(T:PT)(l:List Pair):Prop where
 all:(flatT T).length+2≤3 * l.length
 two:2≤l.length→comK l=0→(flatT T).length+3≤3 * l.length
 inf:∀ p∈l,∃ t∈flatT T,Inf p.2 t
theorem grow_one(f:Nat){l:List Pair}(h:l.length=1):GrowP (buildT (f+1) l) l:=by
 obtain⟨p,rfl⟩:=List.length_eq_one_iff.1 h
 have e:flatT (buildT (f+1) [p])=[leafB ⟨1,p.1,p.2,noRefs 16⟩]:=by
  show flatT (.mk (nodeB (nodeF (buildT f) [p])) (belowF (buildT f) [p]))=_
  have h1:nodeF (buildT f) [p]=⟨1,p.1,p.2,noRefs 16⟩:=rfl
  have h2:belowF (buildT f) [p]=[]:=rfl
  rw[h1,h2];rfl
 refine⟨by rw[e];simp,fun h2=>by simp at h2,fun q hq=>?_⟩
 rw[List.mem_singleton]at hq;subst hq
 rw[e]
 refine⟨_,List.mem_singleton.2 rfl,(inf_text q.2).trans ?_⟩
 unfold leafB;exact inf_list (by simp)
theorem grow:∀ (f:Nat) (l:List Pair),RowsOk f l→l≠[]→GrowP (buildT (f+1) l) l:=by
 intro f
 induction f with
 | zero =>
  intro l h hn
  have h0:l.length≠0:=fun e=>hn (List.eq_nil_of_length_eq_zero e)
  have hl:l.length≤1:=by
   rcases Nat.lt_or_ge l.length 2 with h2 | h2
   ·omega
   ·obtain⟨a,ha⟩:∃ a,l[0]?=some a:=⟨_,List.getElem?_eq_getElem (by omega)⟩
    obtain⟨b,hb⟩:∃ b,l[1]?=some b:=⟨_,List.getElem?_eq_getElem (by omega)⟩
    have hlt:=pair_get h.rise (by omega) ha hb
    have:=(h.size b (List.mem_of_getElem? hb)).1
    rw[show b.l=[]from List.eq_nil_of_length_eq_zero (by show b.1.size=0;omega)]at hlt
    exact absurd hlt (not_lt_nil _)
  exact grow_one 0 (by omega)
 | succ f ih =>
  intro l h hn
  have h0:l.length≠0:=fun e=>hn (List.eq_nil_of_length_eq_zero e)
  by_cases h1:l.length=1
  ·exact grow_one (f+1) h1
  have h2:2≤l.length:=by omega
  have hcom:=com_all h h2
  have eT:flatT (buildT (f+1+1) l)=nodeB (nodeF (buildT (f+1)) l) :: flatTs (belowF (buildT (f+1)) l):=by
   show flatT (.mk (nodeB (nodeF (buildT (f+1)) l)) (belowF (buildT (f+1)) l))=_
   rw[flatT]
  by_cases hk:0 < comK l
  ·have hok:RowsOk f (dropL (comK l) l):=(dropL_ok (comK l) h (fun p hp q hq=>(hcom p hp).1.trans (hcom q hq).1.symm) (fun p hp=>(hcom p hp).2)).mono (by omega)
   have hne:dropL (comK l) l≠[]:=fun e=>by have:=dropL_len (comK l) l;rw[e]at this;simp at this;omega
   have hg:=ih _ hok hne
   obtain⟨_,i2,_⟩:=good f _ hok
   have hst:=i2 hne
   have eB:belowF (buildT (f+1)) l=heldK (buildT (f+1) (dropL (comK l) l)):=by
    unfold belowF;rw[if_neg (by omega),if_pos hk]
   have eN:nodeF (buildT (f+1)) l=⟨2,(l.getD 0 pd).1.extract 0 (comK l),⟨#[]⟩,refB (buildT (f+1) (dropL (comK l) l)).text :: noRefs 15⟩:=by unfold nodeF;rw[if_neg h0,if_neg h1,if_pos hk]
   have hlen:=hg.two (by rw[dropL_len];omega) (comK_drop (by omega))
   rw[dropL_len]at hlen
   have hh:=held_le (buildT (f+1) (dropL (comK l) l))
   refine⟨by rw[eT,eB,List.length_cons];omega,fun _ hz=>by omega,fun p hp=>?_⟩
   obtain⟨q,hq,e2⟩:=drop_mem (k:=comK l) hp
   obtain⟨t,ht,hv⟩:=hg.inf q hq
   rw[e2]at hv
   rw[eT,eB]
   rcases hst.inf ht hv with⟨t',ht',hv'⟩ | hv'
   ·exact⟨t',List.mem_cons_of_mem _ ht',hv'⟩
   ·refine⟨_,List.mem_cons_self,hv'.trans ?_⟩
    have:nodeB (nodeF (buildT (f+1)) l)=extB (nodeF (buildT (f+1)) l):=by rw[eN];rfl
    rw[this,eN];unfold extB;exact inf_list (by simp)
  ·have hkid:∀ i,(cutL i l).length≠0→dropL 1 (cutL i l)≠[]:=fun i hi e=>by have:=dropL_len 1 (cutL i l);rw[e]at this;simp at this;omega
   have hg:∀ i,(cutL i l).length≠0→GrowP (buildT (f+1) (dropL 1 (cutL i l))) (dropL 1 (cutL i l)):=fun i hi=>ih _ (sub_ok i h) (hkid i hi)
   have hst:∀ i,(cutL i l).length≠0→Stands f (buildT (f+1) (dropL 1 (cutL i l))) (nodeF (buildT f) (dropL 1 (cutL i l))):=fun i hi=>(good f _ (sub_ok i h)).2.1 (hkid i hi)
   have eB:belowF (buildT (f+1)) l=ksK (buildT (f+1)) l 16:=by
    unfold belowF;rw[if_neg (by omega),if_neg hk];rfl
   obtain⟨a,ha⟩:∃ a,l[0]?=some a:=⟨_,List.getElem?_eq_getElem (by omega)⟩
   obtain⟨b,hb⟩:∃ b,l[l.length - 1]?=some b:=⟨_,List.getElem?_eq_getElem (by omega)⟩
   have ga:l.getD 0 pd=a:=by rw[List.getD_eq_getElem?_getD,ha];rfl
   have gb:l.getD (l.length - 1) pd=b:=by rw[List.getD_eq_getElem?_getD,hb];rfl
   have ham:=List.mem_of_getElem? ha
   have hbm:=List.mem_of_getElem? hb
   have hlt:=pair_get h.rise (by omega) ha hb
   obtain⟨rs,hrs⟩:∃ rs,rs=(List.range 16).map fun i=>if (cutL i l).length=0 then (⟨#[]⟩:ByteArray)else refB (buildT (f+1) (dropL 1 (cutL i l))).text:=⟨_,rfl⟩
   have eN:nodeF (buildT (f+1)) l=⟨3,⟨#[]⟩,if a.1.size=0 then a.2 else ⟨#[]⟩,rs⟩:=by unfold nodeF;rw[if_neg h0,if_neg h1,if_neg hk,ga,hrs]
   have hlen:(flatTs (belowF (buildT (f+1)) l)).length+4≤3 * l.length:=by
    rw[eB]
    have hks:=ks_grow (buildT (f+1)) l (fun i hi=>by have:=(hg i hi).all;rwa [dropL_len]at this) 16
    have hkc:common a.l b.l=0:=by have:comK l=common a.l b.l:=(by unfold comK commonN;rw[ga,gb]);omega
    cases hbl:b.l with
    | nil=>rw[hbl]at hlt;exact absurd hlt (not_lt_nil _)
    | cons y t =>
     have hy:=nib_lt (h.size b hbm).2.2.1 hbl
     have cb:=cut_len hbm hbl
     cases hal:a.l with
     | nil =>
      have:=cutSum_lt ⟨a,ham,hal⟩ 16
      have:=parts_one cb hy
      omega
     | cons x r =>
      have hx:=nib_lt (h.size a ham).2.2.1 hal
      have ca:=cut_len ham hal
      have hxy:x≠y:=by
       intro e
       rw[hal,hbl,e]at hkc
       simp[common]at hkc
      have hne:x.toNat≠y.toNat:=fun e=>hxy (UInt8.toNat_inj.1 e)
      have:=cutSum_le l 16
      have:2≤partsN l 16:=by
       rcases Nat.lt_or_ge x.toNat y.toNat with e | e
       ·exact parts_two ca cb e hy
       ·exact parts_two cb ca (by omega) hx
      omega
   refine⟨by rw[eT,List.length_cons];omega,fun _ _=>by rw[eT,List.length_cons];omega,fun p hp=>?_⟩
   have hnb:nodeB (nodeF (buildT (f+1)) l)=branchB (nodeF (buildT (f+1)) l):=by rw[eN];rfl
   have hbx:branchL (nodeF (buildT (f+1)) l)=branchX rs (if a.1.size=0 then a.2 else ⟨#[]⟩):=by
    rw[branchL_eq _ (by rw[eN,hrs];simp),eN]
   cases hpl:p.l with
   | nil =>
    have hpa:p=a:=by
     obtain⟨i,hi⟩:=List.getElem?_of_mem hp
     by_cases h00:i=0
     ·subst h00;rw[ha]at hi;exact (Option.some.inj hi).symm
     ·have:=pair_get h.rise (by omega) ha hi
      rw[hpl]at this;exact absurd this (not_lt_nil _)
    subst hpa
    have hz:p.1.size=0:=by show p.1.data.toList.length=0;rw[show p.1.data.toList=[]from hpl];rfl
    rw[eT]
    refine⟨_,List.mem_cons_self,(inf_text p.2).trans ?_⟩
    rw[hnb];unfold branchB
    rw[hbx,if_pos hz]
    refine inf_list ?_
    unfold branchX;simp
   | cons x r =>
    have hx:=nib_lt (h.size p hp).2.2.1 hpl
    have hc:=cut_len hp hpl
    obtain⟨q,hq,e2⟩:=drop_mem (k:=1) (cut_in hp hpl)
    obtain⟨t,ht,hv⟩:=(hg _ hc).inf q hq
    rw[e2]at hv
    rw[eT,eB]
    rcases (hst _ hc).inf ht hv with⟨t',ht',hv'⟩ | hv'
    ·refine⟨t',List.mem_cons_of_mem _ ?_,hv'⟩
     obtain⟨T',hT',hm'⟩:=flatTs_mem.1 ht'
     refine flatTs_mem.2 ⟨T',?_,hm'⟩
     unfold ksK
     refine List.mem_flatMap.2 ⟨x.toNat,List.mem_range.2 hx,?_⟩
     rw[if_neg hc];exact hT'
    ·refine⟨_,List.mem_cons_self,hv'.trans ?_⟩
     rw[hnb];unfold branchB
     rw[hbx]
     refine inf_list ?_
     unfold branchX
     refine List.mem_append.2 (.inl ?_)
     have hrm:refB (buildT (f+1) (dropL 1 (cutL x.toNat l))).text∈rs:=by
      rw[hrs]
      refine List.mem_map.2 ⟨x.toNat,List.mem_range.2 hx,?_⟩
      rw[if_neg hc]
     refine List.mem_map.2 ⟨_,hrm,?_⟩
     rw[if_neg (hst _ hc).may.1.pos]
theorem trie_grows{l:List Pair}(h:checkN l=0):(firsts (flatT (trieT l))).length≤1+3 * l.length∧∀ p∈l,∃ t∈firsts (flatT (trieT l)),Inf p.2 t:=by
 by_cases h0:l=[]
 ·subst h0
  refine⟨?_,by simp⟩
  have:=firsts_len (flatT (trieT []))
  have h1:=trie_len (check_ok h)
  simp at h1 ⊢;omega
 ·have hr:=rows_ok (check_ok h)
  have hne:rowsL l≠[]:=fun e=>h0 (by unfold rowsL at e;simpa using e)
  have hg:=grow 12 (rowsL l) hr hne
  have h2:(rowsL l).length=l.length:=by unfold rowsL;rw[List.length_map]
  have h3:=hg.all
  rw[h2]at h3
  have h4:=firsts_len (flatT (trieT l))
  have h5:trieT l=buildT (12+1) (rowsL l):=rfl
  rw[←h5]at h3
  refine⟨by omega,fun p hp=>?_⟩
  obtain⟨t,ht,hv⟩:=hg.inf _ (List.mem_map_of_mem hp)
  exact⟨t,(firsts_mem _ _).2 ht,hv⟩
theorem ref_pos{f:Nat}{l:List Pair}(h:RowsOk f l)(hn:l≠[]):(refB (buildT (f+1) l).text).size≠0:=((good f l h).2.1 hn).may.1.pos
theorem getD_range(g:Nat→ByteArray){i n:Nat}(h:i < n):((List.range n).map g).getD i ⟨#[]⟩=g i:=by
 rw[List.getD_eq_getElem?_getD,List.getElem?_map,List.getElem?_range h];rfl
theorem flat_kid{f:Nat}{l m:List Pair}(hm:m≠[])(ho:RowsOk f m)(hk:heldK (buildT (f+1) m) ⊆ belowF (buildT (f+1)) l):∀ x∈flatT (buildT (f+1) m),32≤x.size→x∈flatT (buildT (f+1+1) l):=fun x hx h32=>by
 have eT:flatT (buildT (f+1+1) l)=nodeB (nodeF (buildT (f+1)) l) :: flatTs (belowF (buildT (f+1)) l):=by
  show flatT (.mk (nodeB (nodeF (buildT (f+1)) l)) (belowF (buildT (f+1)) l))=_
  rw[flatT]
 rw[eT]
 have hst:=(good f m ho).2.1 hm
 by_cases hs:(buildT (f+1) m).text.size < 32
 ·rw[flat_small hst hs,List.mem_singleton]at hx
  subst hx;omega
 ·refine List.mem_cons_of_mem _ (flatTs_mem.2 ⟨buildT (f+1) m,hk ?_,hx⟩)
  unfold heldK;rw[if_neg hs];exact List.mem_singleton.2 rfl
end
section
open Go Go.RowKit
attribute [local go_sem] Oper.semAt_some
def preB(p s:ByteArray):Bool:=p.data.toList.isPrefixOf s.data.toList
theorem take_pre:∀ (p s:List UInt8),p.isPrefixOf s=(decide (p.length≤s.length) && (s.take p.length == p))
 | [],s=>by simp
 | x :: p,[]=>by simp
 | x :: p,y :: s=>by
  have ih:=take_pre p s
  simp only[List.isPrefixOf,List.length_cons,List.take_succ_cons,ih,Nat.add_le_add_iff_right]
  by_cases h:x=y
  ·subst h;simp
  ·have:(y == x)=false:=by simpa using fun e=>h e.symm
   simp[h,this]
theorem take_ext(s:ByteArray)(n:Nat):(s.extract 0 n).toList=s.data.toList.take n:=by
 rw[ByteArray.toList_eq,ByteArray.data_extract,Array.toList_extract,List.extract_eq_take_drop];simp
theorem prefix_c(w:World)(s p:ByteArray)(hs:s.size≤1000000)(hp:p.size≤1000000):Calls Tryz.prog 148 #[.string s,.string p] w fun e w'=>e=.returned (.bool (preB p s))∧w'=w:=by
 have ht:=take_pre p.data.toList s.data.toList
 have e1:p.data.toList.length=p.size:=rfl
 have e2:s.data.toList.length=s.size:=rfl
 rw[e1,e2, ←take_ext]at ht
 have ht:preB p s=_:=ht
 by_cases hl:p.size≤s.size
 ·have b1:(p.size:Int)≤(s.size:Int):=by omega
  have b2:¬(s.size:Int) < (p.size:Int):=by omega
  have b3:((p.size:Int)).toNat=p.size:=by omega
  rw[decide_eq_true hl,Bool.true_and, ←ByteArray.toList_eq]at ht
  rw[ht]
  clear ht e1 e2
  go_enter Tryz.func148,Tryz.ntmps148
  go_wp2_with fail
  go_ret
  exact⟨rfl,rfl⟩
 ·have b1:(s.size:Int) < (p.size:Int):=by omega
  rw[decide_eq_false hl,Bool.false_and]at ht
  rw[ht]
  clear ht e1 e2
  go_enter Tryz.func148,Tryz.ntmps148
  go_wp2_with fail
  go_ret
  exact⟨rfl,rfl⟩
theorem hasPrefix_c(w:World)(s p:ByteArray)(hs:s.size≤1000000)(hp:p.size≤1000000):Calls Tryz.prog 109 #[.string s,.string p] w fun e w'=>e=.returned (.bool (preB p s))∧w'=w:=by
 go_enter Tryz.func109,Tryz.ntmps109
 go_wp2_with fail
 refine (prefix_c w s p hs hp).mono ?_
 rintro e w1 ⟨rfl,rfl⟩
 go_wp2_with fail
 go_ret
 exact⟨rfl,rfl⟩
theorem own_lt{W:World}{B:Nat}{T:TypeId}{sz:Nat}{v:Value}{n:Nat}{xs:List Value}(h:W.ownsRow B T sz v n xs){b:Nat}(hb:v.ownBlock=some b):b < W.heap.size:=by
 obtain⟨h1,h2 |⟨g,cap,cur,h2,h3,h4,h5⟩⟩:=h
 ·rw[h2.1]at hb;cases hb
 ·rw[h2]at hb
  have e:some g=some b:=hb
  obtain rfl:=Option.some.inj e
  exact (Array.getElem?_eq_some_iff.1 h4).1
end
section
open Go Go.RowKit
theorem nodes_bad(w:World)(v:Value)(l:List Pair)(hv:RdP w v l)(hn:l.length≤9223372036854775807)(hs:∀ p∈l,p.1.size≤9223372036854775807∧p.2.size≤9223372036854775807)(h:checkN l≠0):Calls Tryz.prog 26 #[v] w fun e w'=>e=.returned (.tuple #[.slice none 0 0,.int .i64 (checkN l)])∧Ext w w':=by
 have hck:=check_c w v l hv hn hs
 obtain⟨a,c,hsl⟩:=hv.sl
 subst hsl
 obtain⟨x,hx⟩:∃ x,x=checkN l:=⟨_,rfl⟩
 rw[←hx]at h hck ⊢
 have hne:(x == 0)=false:=by simpa using h
 have HT:=Hd hck
 clear hck hv hx hs
 rw[←callsIn_wide (n:=0)]
 refine callsIn_of_wp_marks Tryz.func26 rfl trivial ?_ rfl
 simp only[Tryz.ntmps26,List.size_toArray,List.length_cons,List.length_nil,Nat.reduceAdd,Nat.reduceSub,Array.replicate_succ,Array.replicate_zero,List.push_toArray,List.append_toArray,List.nil_append,List.cons_append]
 gi_wp2_with fail
 refine⟨trivial,rfl,CallsIn.mono (callsIn_wide.2 HT.out) ?_⟩
 rintro e w1 ⟨rfl,hE⟩
 have HE:=Hd hE
 clear hE
 gi_wp2_with fail
 refine⟨_,results_tmp2 rfl _ _ _,?_⟩
 exact⟨rfl,HE.out⟩
def shortB(p:Pair):Bool:=decide (p.1.size≤20) && decide (p.2.size≤100)
def fewB(l:List Pair):Bool:=l.all shortB && decide (l.length≤45)
def FwRel(w:World)(l:List Pair)(i:Value)(wr:World):Prop:=∃ k:Nat,k≤l.length∧k≤46∧i=.int .i64 k∧Ext w wr∧(l.take k).all shortB=true
theorem all_step{l:List Pair}{k:Nat}{p:Pair}(h:l[k]?=some p):(l.take (k+1)).all shortB=((l.take k).all shortB && shortB p):=by
 rw[List.take_add_one,h,List.all_append];simp
theorem all_not{l:List Pair}{k:Nat}{p:Pair}(h:l[k]?=some p)(hb:shortB p=false):fewB l=false:=by
 unfold fewB
 have:l.all shortB=false:=by
  rw[Bool.eq_false_iff];intro h2
  have:=List.all_eq_true.1 h2 p (List.mem_of_getElem? h)
  rw[hb]at this;cases this
 rw[this];rfl
theorem few5_c(w:World)(v:Value)(l:List Pair)(hv:RdP w v l)(hn:l.length≤9223372036854775807)(hs:∀ p∈l,p.1.size≤9223372036854775807∧p.2.size≤9223372036854775807) :
  Calls Tryz.prog 25 #[v] w fun e w'=>e=.returned (.bool (fewB l))∧Ext w w':=by
 have HV:=Hd hv
 have HS:=Hd hs
 obtain⟨a,c,hsl⟩:=hv.sl
 subst hsl
 clear hv hs
 obtain⟨R,hR⟩:∃ R,R=fewB l:=⟨_,rfl⟩
 rw[←hR]
 have HR:=Hd hR
 clear hR
 go_enter Tryz.func25,Tryz.ntmps25
 go_wp2_with fail
 go_loopw [3] (fun i wr=>FwRel w l i wr) (fun i _=>l.length - (intOf i).toNat)
 case atStart=>exact⟨0,by omega,by omega,rfl,ExtR w,rfl⟩
 case round =>
  obtain⟨k,hk,hk6,rfl,hE,hall⟩:=hrel
  have HE:=Hd hE
  have HALL:=Hd hall
  clear hE hall
  by_cases hlt:k < l.length
  ·have b1:(k:Int) < (l.length:Int):=by omega
   by_cases h45:k≤45
   ·have b2:(k:Int)≤45:=by omega
    obtain⟨p,hp⟩:∃ p,l[k]?=some p:=⟨_,List.getElem?_eq_getElem hlt⟩
    rcases HV.out with⟨_,_,_,h0⟩ |⟨b,o,c1,hh,hb,hc,hcell⟩
    ·rw[h0]at hlt;cases hlt
    cases hh
    obtain⟨q1,q2⟩:=hcell k p hp
    have q1:=cell_ext q1 HE.out
    have q2:=cell_ext q2 HE.out
    have hsp:=HS.out p (List.mem_of_getElem? hp)
    have HP:=Hd hp
    obtain⟨x,y⟩:=p
    simp only at q1 q2 hsp
    clear hcell hb hc hp
    by_cases hx:20 < x.size
    ·have b3:(20:Int) < (x.size:Int):=by omega
     have HF:=Hd (show R=false by rw[HR.out];exact all_not HP.out (by unfold shortB;simp;omega))
     clear hx
     go_wp2_with fail
     go_ret
     exact⟨by rw[HF.out];rfl,HE.out⟩
    ·have b3:¬(20:Int) < (x.size:Int):=by omega
     by_cases hy:100 < y.size
     ·have b4:(100:Int) < (y.size:Int):=by omega
      have HF:=Hd (show R=false by rw[HR.out];exact all_not HP.out (by unfold shortB;simp;omega))
      clear hx hy
      go_wp2_with fail
      go_ret
      exact⟨by rw[HF.out];rfl,HE.out⟩
     ·have b4:¬(100:Int) < (y.size:Int):=by omega
      have HG:=Hd (show (l.take (k+1)).all shortB=true by rw[all_step HP.out,HALL.out];unfold shortB;simp;omega)
      clear hx hy
      go_wp2_with fail
      go_roundw
      case rel=>exact⟨k+1,by omega,by omega,by go_num,HE.out,HG.out⟩
      case measure=>simp[intOf];omega
   ·have b2:¬(k:Int)≤45:=by omega
    have b3:¬(l.length:Int)≤45:=by omega
    have HF:=Hd (show R=false by rw[HR.out];unfold fewB;simp;omega)
    clear h45
    go_wp2_with fail
    go_ret
    exact⟨by rw[HF.out];rfl,HE.out⟩
  ·have hkl:k=l.length:=by omega
   have b1:¬(k:Int) < (l.length:Int):=by omega
   have hall:=HALL.out
   rw[hkl,List.take_length]at hall
   by_cases h45:l.length≤45
   ·have b2:(l.length:Int)≤45:=by omega
    have HF:=Hd (show R=true by rw[HR.out];unfold fewB;rw[hall];simp;omega)
    clear hkl hall h45
    go_wp2_with fail
    go_ret
    exact⟨by rw[HF.out];rfl,HE.out⟩
   ·have b2:¬(l.length:Int)≤45:=by omega
    have HF:=Hd (show R=false by rw[HR.out];unfold fewB;simp;omega)
    clear hkl hall h45
    go_wp2_with fail
    go_ret
    exact⟨by rw[HF.out];rfl,HE.out⟩
def SmallP(l:List Pair):Prop:=∀ p∈l,p.1.size≤9223372036854775807∧p.2.size≤9223372036854775807
theorem lessB_iff(a b:ByteArray):lessB a b=true↔Lt a.data.toList b.data.toList:=by
 unfold lessB;rw[ByteArray.toList_eq,ByteArray.toList_eq]
abbrev Pair.k(p:Pair):List UInt8:=p.1.data.toList
def look(m:List Pair)(k:List UInt8):Option ByteArray:=(m.find? (fun p=>decide (k=p.k))).map (·.2)
theorem look_cons(q:Pair)(r:List Pair)(k:List UInt8):look (q :: r) k=if k=q.k then some q.2 else look r k:=by
 unfold look
 by_cases h:k=q.k <;> simp[List.find?_cons,h]
def Rises(l:List Pair):Prop:=l.Pairwise fun p q=>Lt p.k q.k
theorem look_none{k:List UInt8}:∀ {m:List Pair},k ∉ m.map Pair.k→look m k=none
 | [],_=>rfl
 | q :: r,h=>by
  simp only[List.map_cons,List.mem_cons,not_or]at h
  rw[look_cons,if_neg h.1,look_none h.2]
theorem lt_tri:∀ (a b:List UInt8),Lt a b∨a=b∨Lt b a
 | [],[]=>.inr (.inl rfl)
 | [],_ :: _=>.inl nil_lt
 | _ :: _,[]=>.inr (.inr nil_lt)
 | a :: x,b :: y=>by
  rcases Nat.lt_trichotomy a.toNat b.toNat with h | h | h
  ·exact .inl (lt_cons.2 (.inl (UInt8.lt_iff_toNat_lt.2 h)))
  ·have e:=UInt8.toNat_inj.1 h
   subst e
   rcases lt_tri x y with h | h | h
   ·exact .inl (lt_cons.2 (.inr ⟨rfl,h⟩))
   ·exact .inr (.inl (by rw[h]))
   ·exact .inr (.inr (lt_cons.2 (.inr ⟨rfl,h⟩)))
  ·exact .inr (.inr (lt_cons.2 (.inl (UInt8.lt_iff_toNat_lt.2 h))))
theorem pair_ext{p q:Pair}(h1:p.k=q.k)(h2:p.2=q.2):p=q:=by
 obtain⟨⟨⟨a⟩⟩,b⟩:=p
 obtain⟨⟨⟨c⟩⟩,d⟩:=q
 simp only[Pair.k]at h1 h2
 subst h1;subst h2;rfl
theorem rises_ext:∀ {a b:List Pair},Rises a→Rises b→(∀ k,look a k=look b k)→a=b
 | [],[],_,_,_=>rfl
 | [],q :: b,_,_,h=>by have:=h q.k;rw[look_cons,if_pos rfl]at this;cases this
 | p :: a,[],_,_,h=>by have:=h p.k;rw[look_cons,if_pos rfl]at this;cases this
 | p :: a,q :: b,h1,h2,h=>by
  have hp:=List.pairwise_cons.1 h1
  have hq:=List.pairwise_cons.1 h2
  have out:∀ (x:List UInt8) (y:Pair) (m:List Pair),(∀ z∈m,Lt y.k z.k)→Lt x y.k→look (y :: m) x=none:=fun x y m hm hl=>by
   refine look_none fun hmem=>?_
   rw[List.map_cons,List.mem_cons]at hmem
   rcases hmem with e | hmem
   ·exact lt_irrefl _ (e ▸ hl)
   ·obtain⟨z,hz,e⟩:=List.mem_map.1 hmem
    exact lt_irrefl _ (lt_trans' _ _ _ hl (e ▸ hm z hz))
  have hk:p.k=q.k:=by
   rcases lt_tri p.k q.k with e | e | e
   ·have:=h p.k
    rw[out p.k q b hq.1 e,look_cons,if_pos rfl]at this;cases this
   ·exact e
   ·have:=h q.k
    rw[out q.k p a hp.1 e,look_cons,if_pos rfl]at this;cases this
  have hv:p.2=q.2:=by
   have:=h p.k
   rw[look_cons,if_pos rfl,look_cons,if_pos hk]at this
   exact Option.some.inj this
  have e:=pair_ext hk hv
  subst e
  have:a=b:=rises_ext hp.2 hq.2 fun k=>by
   have hh:=h k
   rw[look_cons,look_cons]at hh
   by_cases e:k=p.k
   ·have n1:∀ m:List Pair,(∀ z∈m,Lt p.k z.k)→look m k=none:=fun m hm=>look_none fun hmem=>by
     obtain⟨z,hz,e2⟩:=List.mem_map.1 hmem
     have:=hm z hz
     rw[e2,e]at this;exact lt_irrefl _ this
    rw[n1 a hp.1,n1 b hq.1]
   ·rwa [if_neg e,if_neg e]at hh
  rw[this]
theorem path_inj:∀ {a b:List UInt8},pathL a=pathL b→a=b
 | [],[],_=>rfl
 | [],y :: b,h=>by simp[pathL]at h
 | x :: a,[],h=>by simp[pathL]at h
 | x :: a,y :: b,h=>by
  have h:(x >>> 4) ::(x &&& 15) :: pathL a=(y >>> 4) ::(y &&& 15) :: pathL b:=h
  injection h with h1 h
  injection h with h2 h
  have a1:=congrArg UInt8.toNat h1
  have a2:=congrArg UInt8.toNat h2
  rw[nib_hi,nib_hi]at a1
  rw[nib_lo,nib_lo]at a2
  rw[path_inj h,show x=y from UInt8.toNat_inj.1 (by omega)]
end
end Go.Proofs.YtpaacnhboilkkaaGreatDoor
