/- Parts of the proof, one behind the other: TrW, TrX, TrY, TrZ, TrZb, AddA, AddB, AddC, AddD, ComA, StoreAh, StoreI, StoreJ. Each is under no condition but those that it states. -/
import Derived.Test.YtpaacnhboilkkaaGreatDoorPt39
import Derived.Test.YtpaacnhboilkkaaGreatDoorPt34
import Derived.Test.YtpaacnhboilkkaaGreatDoorPt28
import Derived.WalkMore
namespace Go.Proofs.YtpaacnhboilkkaaGreatDoor
set_option linter.unusedSimpArgs false
set_option linter.unusedVariables false
set_option maxRecDepth 100000
set_option maxHeartbeats 16000000
section
open Go Go.RowKit
attribute [local go_sem] Oper.semAt_some
theorem cells19_set(k:Int)(p v r r':ByteArray):(cells19 k p v r).toArray.setIfInBounds 3 (.string r')=(cells19 k p v r').toArray:=by simp[cells19]
theorem eform_c(w0 W:World)(q:ByteArray)(n:PA)(T:TypeId)(x:Value)(Dn:Nat→Prop)(b:Nat)(hB:Blk w0 b (.cells #[.string q,.iface T x] 270))(hv:PaO n (.iface T x) Dn w0)(hR:WRefC n)(g:Nat)(v:Value)(Tx:List ByteArray)(hc:Cubes w0)(he:ErrT w0)(hE:Ext w0 W)(hW:WrAt w0.heap.size g v Tx W)(hl:Tx.length+cntP n≤100000) :
  Calls Tryz.prog 297 #[.pointer (some ⟨b,0,none⟩),.pointer (some ⟨g,0,none⟩)] W (FoP w0.heap.size g v W (NodeT.V ⟨2,q,⟨#[]⟩,refB (textP n) :: noRefs 15⟩) (Tx++(bigs (textP n)++underP n))):=by
 have Q0:=Hd (hB.cell (i:=0) (v:=.string q) (by rfl))
 have Q1:=Hd (hB.cell (i:=1) (v:=.iface T x) (by rfl))
 have HW:=Hd (And.intro hW hE)
 have HREF:=Hd (fun w (e:Ext w0 w) (k:WrAt w0.heap.size g v Tx w)=>hR w0 w T x Dn g v Tx hc he hv e k hl)
 obtain⟨t,ht⟩:∃ t,t=refB (textP n):=⟨_,rfl⟩
 obtain⟨U,hU⟩:∃ U,U=Tx++(bigs (textP n)++underP n):=⟨_,rfl⟩
 rw[←ht, ←hU]at HREF
 rw[←ht, ←hU]
 clear hB hv hR hc he hE hW hl ht hU
 have hbd:∀ w,(Instr.build 144 #[(0,.int .i64 2),(1,.string q)]).run Tryz.prog w=.ok (.agg (cells19 2 q ⟨#[]⟩ ⟨#[]⟩).toArray) w:=fun w=>by kernel_rfl
 go_enter Tryz.func297,Tryz.ntmps297
 go_wp2_with (first |(refine wpList_new (w:=W) Tryz.allocNode rfl rfl ?_;intro W1 hB1 hE1;have HB1:=Hd hB1;have HE1:=Hd hE1;have q0:=cell_ext Q0.out (HW.out.2.trans hE1);clear hB1 hE1) |(refine wpList_new (w:=W1) Tryz.allocNode rfl rfl ?_;intro W2 hB2 hE2) |(refine wpList_fill (vs:=cells19 2 q ⟨#[]⟩ ⟨#[]⟩) rfl rfl rfl rfl hB2 rfl Tryz.szNode (cells19_one _ _ _ _) ?_;intro W3 hB3 hE3;have q1:=cell_ext (cell_ext Q1.out (HW.out.2.trans HE1.out)) (hE2.trans' hE3 (fun x hx e=>by have e:x=W1.heap.size:=e;omega))))
 have hE3':Ext W1 W3:=hE2.trans' hE3 (fun x hx e=>by have e:x=W1.heap.size:=e;omega)
 have HB3:=Hd (And.intro hB3 (And.intro (HB1.out.keeps hE3' (fun e=>e)) (HE1.out.trans hE3')))
 have hlt:=HB1.out.lt
 have HN:=Hd (show W.heap.size < W1.heap.size∧W1.heap.size < W3.heap.size from⟨hlt,hB3.lt⟩)
 clear hB2 hE2 hB3 hE3 hE3' hlt
 refine (HREF.out W3 (HW.out.2.trans HB3.out.2.2) (HW.out.1.ext HB3.out.2.2)).mono ?_
 rintro e w4 ⟨rfl,v4,hT4⟩
 have hgw:=HW.out.1.var.lt
 have hg1:W1.heap.size≠g:=by have:=HN.out.1;omega
 have ho1:v.ownBlock≠some W1.heap.size:=fun e=>by have:=(HW.out.1.own _ e).2.2;have:=HN.out.1;omega
 have hB4:=hT4.blk HB3.out.1 hg1 ho1
 have hB4v:=hT4.blk HB3.out.2.1 (by omega) (fun e=>by have:=(HW.out.1.own _ e).2.2;omega)
 have qf:w4.cell? ⟨W1.heap.size,3,none⟩=some (.string ⟨#[]⟩):=hB4.cellL (i:=3) (by rfl)
 have ff:w4.frozen? ⟨W1.heap.size,3,none⟩=false:=hB4.frozen
 obtain⟨W5,hW5⟩:∃ W5,W5=w4.setCell ⟨W1.heap.size,3,none⟩ (.string t):=⟨_,rfl⟩
 have hB5:Blk W5 W1.heap.size (.cells (cells19 2 q ⟨#[]⟩ t).toArray 144):=by
  have:=hB4.set_same (i:=3) (.string t)
  rw[cells19_set]at this
  rw[hW5];exact this
 have hK5:Keeps (fun z=>z=W1.heap.size) w4 W5:=by rw[hW5];exact Keeps.oneSet w4 ⟨W1.heap.size,3,none⟩ (.string t)
 have hB5v:Blk W5 W.heap.size (.cells emptyN.cells.toArray 144):=hB4v.keeps hK5 (fun e=>by have:=HN.out.1;have e:W.heap.size=W1.heap.size:=e;omega)
 have hv4:v4.ownBlock≠some W1.heap.size:=fun e=>by
  rcases hT4.sub _ e with e | e
  ·exact ho1 e
  ·have:=HN.out.2;omega
 have hT5:=(WrTo.ahead HB3.out.2.2 hT4).fill hK5 hg1 hv4 (by have:=HN.out.1;omega)
 have hv4v:v4.ownBlock≠some W.heap.size:=fun e=>by
  rcases hT4.sub _ e with e | e
  ·have:=(HW.out.1.own _ e).2.2;omega
  ·have:=HN.out.1;have:=HN.out.2;omega
 have HT5:=Hd (And.intro hT5 (And.intro hB5v (And.intro hv4v (show W.heap.size≠g by omega))))
 have HW5:=Hd hW5
 clear hT4 hgw hg1 ho1 hB4 hB4v hK5 hv4 hT5 hv4v hW5 hB5v q0 q1
 have hL5:Blk (w4.setCell ⟨W1.heap.size,3,none⟩ (.string t)) W1.heap.size (.cells (NodeT.cells ⟨2,q,⟨#[]⟩,t :: noRefs 15⟩).toArray 144):=by rw[←HW5.out];exact hB5
 have hF5:Blk (w4.setCell ⟨W1.heap.size,3,none⟩ (.string t)) W.heap.size (.cells emptyN.cells.toArray 144):=by rw[←HW5.out];exact HT5.out.2.1
 go_wp2_with (refine wpList_load_known 144 (.tmp 5) rfl rfl _ _ rfl (run_load_api _ _ ⟨2,q,⟨#[]⟩,t :: noRefs 15⟩ rfl hL5) ?_;refine wpList_fill (vs:=NodeT.cells ⟨2,q,⟨#[]⟩,t :: noRefs 15⟩) rfl rfl rfl rfl hF5 rfl Tryz.szNode (NodeT.one _) ?_;intro W8 hB8 hE8)
 rw[←HW5.out]at hE8
 refine bodyPost_ret (results_cell rfl rfl (run_loadVar_api W8 _ ⟨2,q,⟨#[]⟩,t :: noRefs 15⟩ rfl hB8)) rfl ?_
 exact⟨rfl,v4,HT5.out.1.fill hE8 HT5.out.2.2.2 HT5.out.2.2.1 (Nat.le_refl _)⟩
def bfN(u:ByteArray)(rs:List ByteArray)(k:Nat):NodeT:=⟨3,⟨#[]⟩,u,rs.take k++noRefs (16 - k)⟩
theorem bfN_set(u:ByteArray){rs:List ByteArray}(h:rs.length=16){k:Nat}(hk:k < 16)(r:ByteArray)(hr:rs[k]?=some r):(bfN u rs k).cells.set (3+k) (.string r)=(bfN u rs (k+1)).cells:=by
 have e1:(rs.take k++noRefs (16 - k)).set k r=rs.take (k+1)++noRefs (16 - (k+1)):=by
  rw[List.set_append_right _ _ (by simp[h];omega)]
  have:k - (rs.take k).length=0:=by simp[h];omega
  rw[this,show 16 - k=(16 - (k+1))+1 by omega]
  unfold noRefs
  rw[List.replicate_succ,List.set_cons_zero,List.take_add_one,hr];simp
 unfold NodeT.cells bfN
 simp only
 rw[show 3+k=k+1+1+1 by omega,List.set_cons_succ,List.set_cons_succ,List.set_cons_succ, ←e1,List.map_set]
theorem bfN_skip(u:ByteArray){rs:List ByteArray}(h:rs.length=16){k:Nat}(hk:k < 16)(hr:rs[k]?=some ⟨#[]⟩):bfN u rs (k+1)=bfN u rs k:=by
 unfold bfN
 rw[List.take_add_one,hr,show 16 - k=(16 - (k+1))+1 by omega]
 unfold noRefs
 rw[List.replicate_succ];simp
theorem bfN_len(u:ByteArray){rs:List ByteArray}(h:rs.length=16){k:Nat}(hk:k≤16):(bfN u rs k).refs.length=16:=by
 unfold bfN noRefs
 simp[h];omega
theorem bfN_0(u:ByteArray)(rs:List ByteArray):(bfN u rs 0).cells=cells19 3 ⟨#[]⟩ u ⟨#[]⟩:=rfl
theorem bfN_16(u:ByteArray){rs:List ByteArray}(h:rs.length=16):bfN u rs 16=⟨3,⟨#[]⟩,u,rs⟩:=by
 unfold bfN noRefs
 rw[List.take_of_length_le (by omega)];simp
noncomputable def underK(ks:Nat→PA)(k:Nat):List ByteArray:=(List.range k).flatMap fun i=>if (ks i).isNil then []else bigs (textP (ks i))++underP (ks i)
theorem underK_step(ks:Nat→PA)(k:Nat):underK ks (k+1)=underK ks k++(if (ks k).isNil then []else bigs (textP (ks k))++underP (ks k)):=by
 unfold underK
 rw[List.range_succ,List.flatMap_append]
 simp
theorem underK_len(ks:Nat→PA)(k:Nat):(underK ks k).length≤sumF (fun i=>cntP (ks i)) k:=flat_sum _ _ (fun i=>by
 show (if (ks i).isNil=true then ([]:List ByteArray)else bigs (textP (ks i))++underP (ks i)).length≤cntP (ks i)
 cases hn:(ks i).isNil with
 | true=>rw[if_pos rfl];exact Nat.zero_le _
 | false =>
  rw[if_neg ff,List.length_append]
  have h1:=bigs_len (textP (ks i))
  have:=under_len (ks i) hn
  omega) k
noncomputable def refsK(ks:Nat→PA):List ByteArray:=(List.range 16).map fun i=>if (ks i).isNil then ⟨#[]⟩else refB (textP (ks i))
theorem refsK_len(ks:Nat→PA):(refsK ks).length=16:=by unfold refsK;simp
theorem refsK_at(ks:Nat→PA){k:Nat}(hk:k < 16):(refsK ks)[k]?=some (if (ks k).isNil then ⟨#[]⟩else refB (textP (ks k))):=by
 unfold refsK
 rw[List.getElem?_map,List.getElem?_range hk];rfl
def BfRel(z g:Nat)(v:Value)(W:World)(L:Nat)(u:ByteArray)(rs:List ByteArray)(Tx:List ByteArray)(ks:Nat→PA)(iv:Value)(wr:World):Prop:=
 ∃ k:Nat,k≤16∧iv=.int .i64 k∧∃ v',WrTo z g v W wr v' (Tx++underK ks k)∧Blk wr L (.cells (bfN u rs k).cells.toArray 144)∧Blk wr W.heap.size (.cells emptyN.cells.toArray 144)∧v'.ownBlock≠some L∧v'.ownBlock≠some W.heap.size
theorem bform_c(w0 W:World)(u:ByteArray)(ks:Nat→PA)(b:Nat)(vk:Nat→Value)(Dk:Nat→Nat→Prop)(hb:BrRd u ks b vk Dk w0)(hR:∀ i,i < 16→(ks i).isNil=false→WRefC (ks i))(g:Nat)(v:Value)(Tx:List ByteArray)(hc:Cubes w0)(he:ErrT w0)(hE:Ext w0 W)(hW:WrAt w0.heap.size g v Tx W)(hl:Tx.length+(1+sumF (fun i=>cntP (ks i)) 16)≤100000) :
  Calls Tryz.prog 301 #[.pointer (some ⟨b,0,none⟩),.pointer (some ⟨g,0,none⟩)] W (FoP w0.heap.size g v W (NodeT.V ⟨3,⟨#[]⟩,u,refsK ks⟩) (Tx++underK ks 16)):=by
 have q0:=cell_ext (hb.blk.cellL (i:=0) (v:=.string u) (by rfl)) hE
 have HB:=Hd hb
 have HW:=Hd (And.intro hW hE)
 have HREF:=Hd (fun(k:Nat) (hk:k < 16) (hn:(ks k).isNil=false) (T:TypeId) (x:Value) (hx:vk k=.iface T x) (w:World) (v':Value) (e:Ext w0 w) (h:WrAt w0.heap.size g v' (Tx++underK ks k) w)=>hR k hk hn w0 w T x (Dk k) g v' (Tx++underK ks k) hc he (hx ▸ hb.kid k hk) e h (by
  have h1:=underK_len ks k
  have h2:=sumF_mono (fun i=>cntP (ks i)) (k+1) (15 - k)
  rw[show k+1+(15 - k)=16 by omega]at h2
  have h3:sumF (fun i=>cntP (ks i)) k+cntP (ks k)≤sumF (fun i=>cntP (ks i)) 16:=h2
  rw[List.length_append];omega))
 have hnn:=neq_nil
 clear hR hc he hl
 have hbd:∀ w,(Instr.build 144 #[(0,.int .i64 3),(2,.string u)]).run Tryz.prog w=.ok (.agg (cells19 3 ⟨#[]⟩ u ⟨#[]⟩).toArray) w:=fun w=>by kernel_rfl
 clear hb hW hE
 go_enter Tryz.func301,Tryz.ntmps301
 go_wp2_with (first |(refine wpList_new (w:=W) Tryz.allocNode rfl rfl ?_;intro W1 hB1 hE1;have HB1:=Hd hB1;have HE1:=Hd hE1;have q1:=cell_ext q0 hE1;clear hB1 hE1) |(refine wpList_new (w:=W1) Tryz.allocNode rfl rfl ?_;intro W2 hB2 hE2) |(refine wpList_fill (vs:=cells19 3 ⟨#[]⟩ u ⟨#[]⟩) rfl rfl rfl rfl hB2 rfl Tryz.szNode (cells19_one _ _ _ _) ?_;intro W3 hB3 hE3;have hE3':Ext W1 W3:=hE2.trans' hE3 (fun x hx e=>by have e:x=W1.heap.size:=e;omega);have hla:=run_load_kids (HB.out.blk.keeps ((HW.out.2.trans HE1.out).trans hE3') (fun e=>e))) |(refine wpList_load_known 272 (.tmp 15) rfl rfl _ _ rfl hla ?_))
 have HB3:=Hd (And.intro hB3 (And.intro (HB1.out.keeps hE3' (fun e=>e)) (HE1.out.trans hE3')))
 have hlt:=HB1.out.lt
 have HN:=Hd (show W.heap.size < W1.heap.size∧W1.heap.size < W3.heap.size from⟨hlt,hB3.lt⟩)
 clear hB2 hE2 hB3 hE3 hE3' hlt hla q0 q1
 obtain⟨L,hL⟩:∃ L,L=W1.heap.size:=⟨_,rfl⟩
 rw[←hL]at HB3 HN ⊢
 clear hL HB1 HE1
 have HG:=Hd HW.out.1.var.lt
 go_loopw [17] (fun iv wr=>BfRel w0.heap.size g v W L u (refsK ks) Tx ks iv wr) (fun iv _=>16 - (intOf iv).toNat)
 case atStart =>
  have:=HN.out
  have hg:=HG.out
  exact⟨0,by omega,rfl,v,by rw[show underK ks 0=[]from rfl,List.append_nil];exact WrTo.refl HW.out.1 HB3.out.2.2,by rw[bfN_0];exact HB3.out.1,HB3.out.2.1,fun e=>by have:=(HW.out.1.own _ e).2.2;omega,fun e=>by have:=(HW.out.1.own _ e).2.2;omega⟩
 case round =>
  obtain⟨k,hk,rfl,v1,hT,hBL,hBr,ho1,ho2⟩:=hrel
  have HT:=Hd (And.intro hT (And.intro hBL (And.intro hBr (And.intro ho1 ho2))))
  clear hT hBL hBr ho1 ho2
  by_cases hlt:k < 16
  ·have hix:=run_kid vk hlt
   have hst:=underK_step ks k
   have hra:=refsK_at ks hlt
   rcases (HB.out.kid k hlt).at'.kid with⟨hn,hv⟩ |⟨hn,T,x,hv⟩
   ·rw[hn,if_pos rfl,List.append_nil]at hst
    rw[hn,if_pos rfl]at hra
    rw[hv]at hix
    have HST:=Hd hst
    have HSK:=Hd (bfN_skip u (refsK_len ks) hlt hra)
    clear hst hn hv hra
    go_wp2
    go_roundw
    case rel=>exact⟨k+1,by omega,by go_num,v1,by rw[HST.out];exact HT.out.1,by rw[HSK.out];exact HT.out.2.1,HT.out.2.2.1,HT.out.2.2.2⟩
    case measure=>simp[intOf];omega
   ·rw[hn,if_neg ff]at hst
    rw[hn,if_neg ff]at hra
    rw[hv]at hix
    have hq:=neq_part T x
    have HCALL:=Hd (HREF.out k hlt hn T x hv wr v1 (HT.out.1.ext0 HW.out.1 HW.out.2 (Nat.le_refl _)) HT.out.1.at')
    rw[List.append_assoc, ←hst]at HCALL
    obtain⟨r,hr⟩:∃ r,r=refB (textP (ks k)):=⟨_,rfl⟩
    rw[←hr]at hra HCALL
    have HRA:=Hd hra
    clear hst hn hv hra hr
    have b2:(k:Int) < 16:=by omega
    go_wp2_with fail
    refine HCALL.out.mono ?_
    rintro e w4 ⟨rfl,v4,hT4⟩
    have hg1:L≠g:=by have:=HN.out.1;have:=HG.out;omega
    have hg2:W.heap.size≠g:=by have:=HG.out;omega
    have hB4:=hT4.blk HT.out.2.1 hg1 HT.out.2.2.2.1
    have hB4v:=hT4.blk HT.out.2.2.1 hg2 HT.out.2.2.2.2
    have hv4:∀ y,y < wr.heap.size→v1.ownBlock≠some y→v4.ownBlock≠some y:=fun y hy h1 e=>by
     rcases hT4.sub y e with e | e
     ·exact h1 e
     ·omega
    have hvL:=hv4 L HT.out.2.1.lt HT.out.2.2.2.1
    have hvr:=hv4 W.heap.size HT.out.2.2.1.lt HT.out.2.2.2.2
    have hl3:(bfN u (refsK ks) k).cells.length=19:=NodeT.cells_len _ (bfN_len u (refsK_len ks) hk)
    obtain⟨old,qf⟩:∃ v,w4.cell? ⟨L,3+k,none⟩=some v:=⟨_,hB4.cellL (List.getElem?_eq_getElem (by omega))⟩
    have ff4:w4.frozen? ⟨L,3+k,none⟩=false:=hB4.frozen
    have hB5:=hB4.set_same (i:=3+k) (.string r)
    rw[show (bfN u (refsK ks) k).cells.toArray.setIfInBounds (3+k) (.string r)=((bfN u (refsK ks) k).cells.set (3+k) (.string r)).toArray by simp,bfN_set u (refsK_len ks) hlt r HRA.out]at hB5
    have K5:Keeps (fun z=>z=L) w4 (w4.setCell ⟨L,3+k,none⟩ (.string r)):=Keeps.oneSet w4 ⟨L,3+k,none⟩ (.string r)
    have hB5v:=hB4v.keeps K5 (fun e=>by have e:W.heap.size=L:=e;have:=HN.out.1;omega)
    have hT5:=(HT.out.1.trans hT4).fill K5 hg1 hvL (by have:=HN.out.1;omega)
    have H5:=Hd (And.intro hT5 (And.intro hB5 (And.intro hB5v (And.intro hvL hvr))))
    clear hT4 hg1 hg2 hB4 hB4v hv4 hvL hvr hl3 hB5 K5 hB5v hT5
    go_wp2_with fail
    go_roundw
    case rel=>exact⟨k+1,by omega,by go_num,v4,H5.out⟩
    case measure=>simp[intOf];omega
  ·obtain rfl:k=16:=by omega
   have hL5:=HT.out.2.1
   rw[bfN_16 u (refsK_len ks)]at hL5
   have hF5:=HT.out.2.2.1
   go_wp2_with (refine wpList_load_known 144 (.tmp 5) rfl rfl _ _ rfl (run_load_api _ _ ⟨3,⟨#[]⟩,u,refsK ks⟩ (refsK_len ks) hL5) ?_;refine wpList_fill (vs:=NodeT.cells ⟨3,⟨#[]⟩,u,refsK ks⟩) rfl rfl rfl rfl hF5 (by rw[NodeT.cells_len _ (refsK_len ks)];rfl) (by rw[NodeT.cells_len _ (refsK_len ks)];exact Tryz.szNode) (NodeT.one _) ?_;intro W8 hB8 hE8)
   refine bodyPost_ret (results_cell rfl rfl (run_loadVar_api W8 _ ⟨3,⟨#[]⟩,u,refsK ks⟩ (refsK_len ks) hB8)) rfl ?_
   exact⟨rfl,v1,HT.out.1.fill hE8 (by have:=HG.out;omega) HT.out.2.2.2.2 (Nat.le_refl _)⟩
end
section
open Go Go.RowKit
theorem paform_c:∀ (P:PA),PutP P→FormC P
 | .nil=>fun _ w0 W T x D g v Tx hc he h hE hW hl=>by cases h.at'
 | .no=>fun _ w0 W T x D g v Tx hc he h hE hW hl=>by
  have e:Value.iface T x=noV:=h.at'
  unfold noV at e
  injection e with e1 e2
  subst e1 e2
  show Calls _ _ _ W (FoP w0.heap.size g v W emptyN.V (Tx++[]))
  rw[List.append_nil]
  exact noform_c _ g v Tx W hW
 | .leaf q u=>fun _ w0 W T x D g v Tx hc he h hE hW hl=>by
  obtain⟨b,e,h1,h2⟩:=h.at'
  unfold leafV at e
  injection e with e1 e2
  subst e1 e2
  show Calls _ _ _ W (FoP w0.heap.size g v W (NodeT.V ⟨1,q,u,noRefs 16⟩) (Tx++[]))
  rw[List.append_nil]
  exact lform_c w0 _ g v Tx W hE q u b h2 hW
 | .ext q m=>fun hp w0 W T x D g v Tx hc he h hE hW hl=>by
  obtain⟨b,T',x',Dn,e,h1,h2,h3,h4,h5⟩:=h.at'
  unfold extV at e
  injection e with e1 e2
  subst e1 e2
  have hl:Tx.length+(1+cntP m)≤100000:=hl
  have hn:m.isNil=false:=by
   cases m with
   | nil=>cases h3
   | _=>rfl
  exact eform_c w0 W q m T' x' Dn b h2 ⟨h3,fun z hz=>h.lt z (h5 z hz)⟩ (wref_c m (wtop_c m hn hp.2 (paform_c m hp.2))) g v Tx hc he hE hW (by omega)
 | .br u ks=>fun hp w0 W T x D g v Tx hc he h hE hW hl=>by
  obtain⟨b,vk,Dk,e,h1,h2,h3,h4⟩:=h.at'
  unfold brV at e
  injection e with e1 e2
  subst e1 e2
  have hb:BrRd u ks b vk Dk w0:=⟨h2,fun i hi=>⟨(h3 i hi).1,fun z hz=>h.lt z ((h3 i hi).2.2 z hz)⟩⟩
  exact bform_c w0 W u ks b vk Dk hb (fun i _ hn=>wref_c (ks i) (wtop_c (ks i) hn (hp.2 i) (paform_c (ks i) (hp.2 i)))) g v Tx hc he hE hW hl
theorem part_puts:∀ (f:Nat) (l:List Pair),RowsOk f l→PutP (partP (f+1) l):=by
 intro f
 induction f with
 | zero =>
  intro l h
  have hl:=rows_one h
  have hg:=(good 0 l h).1
  have hn:=(part_texts 0 l h).1
  rw[←hn]at hg
  have hp:=puts_good hg
  by_cases h0:l.length=0
  ·rw[part_nil _ h0]at hp ⊢;exact hp
  ·rw[part_one _ (by omega)]at hp ⊢;exact hp
 | succ f ih =>
  intro l h
  have hg:=(good (f+1) l h).1
  have hn:=(part_texts (f+1) l h).1
  rw[←hn]at hg
  have hp:=puts_good hg
  by_cases h0:l.length=0
  ·rw[part_nil _ h0]at hp ⊢;exact hp
  by_cases h1:l.length=1
  ·rw[part_one _ h1]at hp ⊢;exact hp
  have h2:2≤l.length:=by omega
  by_cases hk:0 < comK l
  ·obtain⟨k1,k2,_,_⟩:=next_ok h h2 hk
   rw[part_ext _ h2 hk]at hp ⊢
   exact⟨hp,ih _ k1⟩
  ·rw[part_br _ h2 hk]at hp ⊢
   refine⟨hp,fun i=>?_⟩
   show PutP (if (cutL i l).length=0 then PA.nil else partP (f+1) (dropL 1 (cutL i l)))
   by_cases hc:(cutL i l).length=0
   ·rw[if_pos hc];exact trivial
   ·rw[if_neg hc];exact ih _ (kid_ok h hc).1
theorem parttop_c(f:Nat)(l:List Pair)(h:RowsOk f l):TopC (partP (f+1) l):=wtop_c _ part_isNil (part_puts f l h) (paform_c _ (part_puts f l h))
end
section
open Go Go.RowKit
attribute [local go_sem] Oper.semAt_some
noncomputable def rootM(l:List Pair):ByteArray:=shaB (trieT l).text
theorem ents_map{l:List Pair}(h:checkN l=0):entP (partP 13 (rowsL l)) ⟨#[]⟩=l:=by
 have e0:∀ q:ByteArray,(⟨#[]⟩:ByteArray)++q=q:=fun q=>ba_ext (by rw[app_l];rfl)
 rw[part_ents 12 _ (rows_ok (check_ok h)) ⟨#[]⟩ (fun q hq=>by
  obtain⟨p,hp,rfl⟩:=List.mem_map.1 hq
  rw[e0];exact path_key p.1)]
 unfold rowsL
 rw[List.map_map]
 conv=>rhs;rw[←List.map_id l]
 refine List.map_congr_left fun p hp=>?_
 show (pairsB (⟨#[]⟩++pathB p.1),p.2)=p
 rw[e0,pairs_path]
structure PaM(w w1:World)(l:List Pair)(T:TypeId)(x:Value):Prop where
 ext:Ext w w1
 pa:PaO (partP 13 (rowsL l)) (.iface T x) (Since w w1) w1
theorem mread_c(w:World)(s bm:Nat)(room:Int)(S:List Nd5)(hs:StoreAt w s bm room S)(hN:NodesS S)(l:List Pair)(h:HasM S l) :
  Calls Tryz.prog 62 #[.pointer (some ⟨s,0,none⟩),.string (rootM l)] w fun e w'=>∃ T x,e=.returned (.tuple #[.iface T x,.bool true])∧PaM w w' l T x:=by
 refine (tread_c w s bm room S hs hN (rootM l)).mono ?_
 rintro e w' ⟨hE,h1⟩
 obtain⟨k,hk⟩:=readR_map w h
 unfold rootM at h1
 rw[hk]at h1
 obtain⟨T,x,rfl,hp⟩:=h1
 exact⟨T,x,rfl,hE,hp,fun z hz=>hz.2⟩
theorem ment_c(w1 W:World)(l:List Pair)(h:checkN l=0)(T:TypeId)(x:Value)(D:Nat→Prop)(hp:PaO (partP 13 (rowsL l)) (.iface T x) D w1)(hE:Ext w1 W) :
  Calls Tryz.prog (paEnt (partP 13 (rowsL l))) #[x,.string ⟨#[]⟩,.slice none 0 0] W fun e w'=>∃ v,e=.returned v∧ERow w1 w' v l.length l:=by
 have hr:=rows_ok (check_ok h)
 have hc:=cnt_map (check_ok h)
 refine (paent_c _ w1 W T x D ⟨#[]⟩ (.slice none 0 0) 0 12 [] hp (ORow.nil _ _ hE) (part_dp 12 _ 12 hr hr) (by have:(⟨#[]⟩:ByteArray).size=0:=rfl;omega) (by rw[cnt_part 12 _ hr];omega)).mono ?_
 rintro e w' ⟨v,n,rfl,h1⟩
 rw[List.nil_append,ents_map h]at h1
 have:=h1.len'
 subst this
 exact⟨v,rfl,h1⟩
theorem tall_c(w:World)(s bm:Nat)(room:Int)(S:List Nd5)(hs:StoreAt w s bm room S)(hN:NodesS S)(l:List Pair)(h:HasM S l) :
  Calls Tryz.prog 19 #[.pointer (some ⟨s,0,none⟩),.string (rootM l)] w fun e w'=>∃ v,e=.returned (.tuple #[v,.int .i64 0])∧ERow w w' v l.length l:=by
 have HR:=Hd (mread_c w s bm room S hs hN l h)
 have HK:=Hd h.ok
 obtain⟨P,hP⟩:∃ P,P=partP 13 (rowsL l):=⟨_,rfl⟩
 have HP:=Hd hP
 have hee:=enter_ent P
 clear hs hN h hP
 go_enter Tryz.func19,Tryz.ntmps19
 go_wp2_with fail
 refine HR.out.mono ?_
 rintro e w1 ⟨T,x,rfl,hM⟩
 have HM:=Hd hM
 have hmt:=hM.pa.at'.meth
 rw[←HP.out]at hmt
 have hme:∀ w,(Go.method (469+1) T x "guilloche/trie.entries").run Tryz.prog w=.ok (paEnt P,x) w:=hmt.ent
 have HC:=Hd (ment_c w1 w1 l HK.out T x _ hM.pa (ExtR w1))
 rw[←HP.out]at HC
 clear hM hmt
 go_wp2_with fail
 refine HC.out.mono ?_
 rintro e w2 ⟨v,rfl,h1⟩
 have H1:=Hd h1
 obtain⟨a,c,hv⟩:=h1.sl
 subst hv
 clear h1
 go_wp2_with fail
 go_ret2
 exact⟨_,rfl,⟨_,_,rfl⟩,H1.out.own,HM.out.ext.trans H1.out.ext,fun b hb=>Nat.le_trans HM.out.ext.size (H1.out.new b hb)⟩
end
section
open Go Go.RowKit
theorem cellsC_getT:∀ (xs:List Chg) (j:Nat) (p:Chg),xs[j]?=some p→(cellsC xs)[j * 3]?=some (.string p.key)∧(cellsC xs)[j * 3+1]?=some (.string p.value)∧(cellsC xs)[j * 3+2]?=some (.bool p.gone)
 | [],j,p,h=>by simp at h
 | x :: r,0,p,h=>by simp at h;subst h;exact⟨rfl,rfl,rfl⟩
 | x :: r,j+1,p,h=>by
  obtain⟨h1,h2,h3⟩:=cellsC_getT r j p (by simpa using h)
  rw[show (j+1) * 3=j * 3+3 by omega]
  exact⟨h1,h2,h3⟩
theorem CRow.rdT{w0 w:World}{v:Value}{n:Nat}{xs:List Chg}(h:CRow w0 w v n xs):RdC w v xs:=by
 have hl:xs.length=n:=by have:=h.len;rw[cellsC_len]at this;omega
 obtain⟨_,⟨rfl,h2⟩ |⟨g,cap,cur,rfl,h3,h4,h5,h6,h7⟩⟩:=h.own
 ·exact .inl ⟨none,0,rfl,List.eq_nil_of_length_eq_zero (by omega)⟩
 ·subst hl
  refine .inr ⟨g,0,cap,rfl,(Array.getElem?_eq_some_iff.1 h4).1,h5,fun j x hx=>?_⟩
  have hj:=(List.getElem?_eq_some_iff.1 hx).1
  obtain⟨e1,e2,e3⟩:=cellsC_getT xs j x hx
  exact⟨by rw[Nat.zero_add,h.own.cellAt (j * 3) (by omega),e1],by rw[Nat.zero_add,h.own.cellAt (j * 3+1) (by omega),e2],by rw[Nat.zero_add,h.own.cellAt (j * 3+2) (by omega),e3]⟩
theorem diffN_lenT{l m:List Pair}(h1:l.length≤40)(h2:m.length≤40):(diffN l m).length≤80:=by
 have key:∀ l m:List Pair,(diffL l m).length≤l.length+m.length:=fun l m=>by
  fun_induction diffL l m <;> simp only[List.length_cons,List.length_nil]at * <;> omega
 unfold diffN;split
 ·have:=key l m;omega
 ·simp
theorem good_key{c:Chg}(h:c.bad=false):c.key.size≤6:=by
 unfold Chg.bad at h
 have h1:keyedB c.key=true:=by
  cases e:keyedB c.key with
  | true=>rfl
  | false=>rw[e]at h;simp at h
 unfold keyedB at h1
 exact (of_decide_eq_true h1).2
structure OkP(P:PA):Prop where
 can:P=.no∨CanP P
 dp:Dp P 12
theorem OkP.va{P:PA}(h:OkP P):VaP P:=by
 rcases h.can with h | h
 ·subst h;trivial
 ·exact can_va P h
theorem OkP.there{P:PA}(h:OkP P):P.isNil=false:=by
 rcases h.can with h | h
 ·subst h;rfl
 ·cases P with
  | nil=>exact h.elim
  | _=>rfl
theorem OkP.dp9{P:PA}(h:OkP P):Dp P 900000:=dp_mono P 12 _ h.dp (by omega)
theorem OkP.step{P:PA}(h:OkP P){c:Chg}(hc:c.bad=false):OkP (stepPA P c):=by
 refine⟨(step_ok h.can hc).1,?_⟩
 have hk:=good_key hc
 have hs:=path_size c.key
 unfold stepPA
 split
 ·exact dp_drop P 12 _ h.dp
 ·exact dp_put P 12 _ _ h.dp (by omega)
theorem ok_map{l:List Pair}(h:checkN l=0):OkP (partP 13 (rowsL l)):=⟨part_top (rows_ok (check_ok h)),part_dp 12 _ 12 (rows_ok (check_ok h)) (rows_ok (check_ok h))⟩
noncomputable def lackB(S:List Nd5)(t:ByteArray):Bool:=(atL S (shaB t).data.toList).isNone
noncomputable def freshU(S:List Nd5)(U:List ByteArray):List ByteArray:=(firsts U).filter (lackB S)
theorem fresh_snoc(S:List Nd5)(U:List ByteArray)(x:ByteArray):freshU S (U++[x])=freshU S U++(if memB (firsts U) x=true then []else if lackB S x=true then [x]else []):=by
 unfold freshU
 rw[firsts_snoc]
 unfold addF
 by_cases h:memB (firsts U) x=true
 ·rw[if_pos h,if_pos h,List.append_nil]
 ·rw[if_neg h,if_neg h,List.filter_append]
  congr 1
  cases e:lackB S x <;> simp[e]
theorem fresh_len(S:List Nd5)(U:List ByteArray):(freshU S U).length≤U.length:=Nat.le_trans (List.length_filter_le _ _) (firsts_len U)
noncomputable def belowM(m:List Pair):List ByteArray:=underP (partP 13 (rowsL m))
theorem below_is{m:List Pair}(h:checkN m=0):belowM m=flatTs (belowF (buildT 12) (rowsL m)):=(part_texts 12 _ (rows_ok (check_ok h))).2.2
theorem text_is{m:List Pair}(h:checkN m=0):textP (partP 13 (rowsL m))=(trieT m).text:=(part_texts 12 _ (rows_ok (check_ok h))).2.1
theorem below_len{m:List Pair}(h:checkN m=0):(belowM m).length≤118:=by
 have h1:=under_len (partP 13 (rowsL m)) part_isNil
 have h2:cntP (partP 13 (rowsL m))=cntT 12 (rowsL m):=cnt_part 12 _ (rows_ok (check_ok h))
 have h3:=cnt_map (check_ok h)
 unfold belowM;omega
noncomputable def newM(S:List Nd5)(m:List Pair):List ByteArray:=(trieT m).text :: freshU S (belowM m)
def afterM(l:List Pair)(cs:List Chg):List Pair:=sortM (applyM l cs)
def UpdP(w:World)(S:List Nd5)(l:List Pair)(cs:List Chg)(e:Ending)(w':World):Prop:=
 if applyE l cs=0 then ∃ r,e=.returned (.tuple #[r,.int .i64 0])∧SRow w w' r (newM S (afterM l cs)).length (newM S (afterM l cs))else e=.returned (.tuple #[.slice none 0 0,.int .i64 (applyE l cs)])∧Ext w w'
def UpRel1(W3:World)(D0:Nat→Prop)(P0:PA)(ds:List Chg)(pv iv:Value)(wr:World):Prop:=∃ (k:Nat) (T:TypeId) (x:Value) (D:Nat→Prop),k≤ds.length∧iv=.int .i64 k∧pv=.iface T x∧PaO ((ds.take k).foldl stepPA P0) (.iface T x) D wr∧(∀ z,D z→D0 z∨W3.heap.size≤z)∧Keeps D0 W3 wr
theorem fold_okP{P:PA}(h:OkP P):∀ (ds:List Chg),(∀ c∈ds,c.bad=false)→OkP (ds.foldl stepPA P)
 | [],_=>h
 | c :: ds,hc=>fold_okP (h.step (hc c List.mem_cons_self)) ds (fun d hd=>hc d (List.mem_cons_of_mem _ hd))
theorem fold_okT{P:PA}(h:OkP P)(ds:List Chg)(hc:ds.any Chg.bad=false)(k:Nat):OkP ((ds.take k).foldl stepPA P):=fold_okP h _ fun c hcm=>by
 have:=List.any_eq_false.1 hc c (List.mem_of_mem_take hcm)
 cases e:c.bad with
 | false=>rfl
 | true=>exact absurd e this
structure UpB(W7:World)(S:List Nd5)(mb:Nat)(t:ByteArray)(U:List ByteArray)(k:Nat)(rv:Value)(wr:World):Prop where
 row:∃ n,SRow W7 wr rv n (t :: freshU S (U.take k))
 out:rv.ownBlock≠some mb
 tab:∃ es ck,Blk wr mb (.map (Tryz.ES.arr es) ck)∧∀ x:ByteArray,entGet es x.data.toList=cntV (cntB (U.take k) x)
def UpRel2(W7:World)(S:List Nd5)(mb:Nat)(t:ByteArray)(U:List ByteArray)(rv iv:Value)(wr:World):Prop:=∃ k:Nat,k≤U.length∧iv=.int .i64 k∧UpB W7 S mb t U k rv wr
theorem cntB_snocT(L:List ByteArray)(x y:ByteArray):cntB (L++[x]) y=cntB L y+(if x.data.toList=y.data.toList then 1 else 0):=by
 unfold cntB
 rw[List.map_append,List.count_append,List.map_cons,List.map_nil,List.count_singleton]
 simp
theorem take_at{α:Type}{l:List α}{k:Nat}{x:α}(h:l[k]?=some x):l.take (k+1)=l.take k++[x]:=by rw[List.take_add_one,h];rfl
end
section
open Go Go.RowKit
attribute [local go_sem] Oper.semAt_some
theorem UpdP.bad{w w':World}{S:List Nd5}{l:List Pair}{cs:List Chg}{x:Int}(h:applyE l cs=x)(h0:x≠0)(he:Ext w w'):UpdP w S l cs (.returned (.tuple #[.slice none 0 0,.int .i64 x])) w':=by
 unfold UpdP;rw[h,if_neg h0];exact⟨rfl,he⟩
theorem upd_c(w:World)(hc:Cubes w)(he:ErrT w)(s bm:Nat)(room:Int)(S:List Nd5)(hs:StoreAt w s bm room S)(hN:NodesS S)(l:List Pair)(h:HasM S l)(u:Value)(cs:List Chg)(hu:RdC w u cs)(hnc:cs.length≤9223372036854775807)(hsc:∀ c∈cs,c.key.size≤9223372036854775807∧c.value.size≤9223372036854775807) :
  Calls Tryz.prog 33 #[.pointer (some ⟨s,0,none⟩),.string (rootM l),u] w (UpdP w S l cs):=by
 have HR:=Hd (mread_c w s bm room S hs hN l h)
 have HK:=Hd h.ok
 have HCC:=Hd (And.intro hc he)
 have HST:=Hd hs
 have hmo:=check_ok h.ok
 have HSM:=Hd (show (l.length≤9223372036854775807)∧∀ p∈l,p.1.size≤9223372036854775807∧p.2.size≤9223372036854775807 from⟨by have:=hmo.len;omega,fun p hp=>by have:=hmo.size p hp;omega⟩)
 have HAPP:=Hd (fun(w2:World) (v:Value) (hv:RdP w2 v l) (e:Ext w w2)=>apply_c w2 v u l cs hv (hu.ext e) HSM.out.1 hnc HSM.out.2 hsc)
 obtain⟨a,c,hus⟩:=hu.sl
 subst hus
 obtain⟨P,hP⟩:∃ P,P=partP 13 (rowsL l):=⟨_,rfl⟩
 have HP:=Hd hP
 have hee:=enter_ent P
 have HRR:=Hd (fun(w3:World) (v:Value) (hv:RdP w3 v l) (e:Ext w w3)=>root_ok w3 v l (hc.ext e) hv h.ok)
 have HRD:=Hd (show shaB (trieT l).text=rootM l from rfl)
 rw[HRD.out]at HRR
 clear hs hN h hP hc he hmo hu hsc HRD
 obtain⟨rt,hrt⟩:∃ rt,rt=rootM l:=⟨_,rfl⟩
 rw[←hrt]at HR HRR ⊢
 clear hrt
 go_enter Tryz.func33,Tryz.ntmps33
 go_wp2_with fail
 refine HR.out.mono ?_
 rintro e w1 ⟨T,x,rfl,hM⟩
 have HM:=Hd hM
 have hmt:=hM.pa.at'.meth
 rw[←HP.out]at hmt
 have hme:∀ w,(Go.method (469+1) T x "guilloche/trie.entries").run Tryz.prog w=.ok (paEnt P,x) w:=hmt.ent
 have HC:=Hd (ment_c w1 w1 l HK.out T x _ hM.pa (ExtR w1))
 rw[←HP.out]at HC
 clear hM hmt
 go_wp2_with fail
 refine HC.out.mono ?_
 rintro e w2 ⟨v,rfl,h1⟩
 have H1:=Hd h1
 have HE2:=Hd (HM.out.ext.trans h1.ext)
 have HPA2:=Hd (And.intro (HM.out.pa.ext h1.ext) h1.ext.size)
 rw[←HP.out]at HPA2
 have HA:=Hd (HAPP.out w2 v h1.rd HE2.out)
 obtain⟨a1,c1,hv⟩:=h1.sl
 subst hv
 clear h1 hme HAPP HC
 go_wp2_with fail
 refine HA.out.mono ?_
 rintro e w3 hap
 unfold ApplyP at hap
 by_cases h0:applyE l cs=0
 case neg =>
  rw[if_neg h0]at hap
  obtain⟨rfl,hE⟩:=hap
  have HX:=Hd (HE2.out.trans hE)
  obtain⟨x0,hx0⟩:∃ x0,x0=applyE l cs:=⟨_,rfl⟩
  have HX0:=Hd hx0.symm
  rw[←hx0]at h0 ⊢
  clear hE hx0
  go_wp2_with fail
  go_ret2
  exact UpdP.bad HX0.out h0 HX.out
 rw[if_pos h0]at hap
 obtain⟨r,rfl,h3⟩:=hap
 have HK0:=Hd h0
 have hcm:=after_check h0
 obtain⟨m,hm⟩:∃ m,m=sortM (applyM l cs):=⟨_,rfl⟩
 rw[←hm]at h3 hcm
 have HMM:=Hd hm
 have HCM:=Hd hcm
 have hmo:=check_ok hcm
 have HSM2:=Hd (show (m.length≤9223372036854775807)∧∀ p∈m,p.1.size≤9223372036854775807∧p.2.size≤9223372036854775807 from⟨by have:=hmo.len;omega,fun p hp=>by have:=hmo.size p hp;omega⟩)
 have HE3:=Hd (HE2.out.trans h3.ext)
 have HPA3:=Hd (And.intro (HPA2.out.1.ext h3.ext) (Nat.le_trans HPA2.out.2 h3.ext.size))
 have HV:=Hd (And.intro (ERow.rd (H1.out.mono h3.ext)) h3.rd)
 obtain⟨a2,c2,hr⟩:=h3.sl
 subst hr
 have HRO:=Hd (HRR.out w3 _ HV.out.1 HE3.out)
 clear h3 hmo hcm hm h0 HA H1 HRR
 go_wp2_with fail
 refine HRO.out.mono ?_
 rintro e w4 ⟨rfl,hE⟩
 have HE4:=Hd (HE3.out.trans hE)
 have HPA4:=Hd (And.intro (HPA3.out.1.ext hE) (Nat.le_trans HPA3.out.2 hE.size))
 have HDI:=Hd (diff_c w4 _ _ l m (HV.out.1.ext hE) (HV.out.2.ext hE) HSM.out.1 HSM2.out.1 HSM.out.2 HSM2.out.2)
 clear hE HRO
 go_wp2_with fail
 refine HDI.out.mono ?_
 rintro e w5 ⟨dv,rfl,hd⟩
 have HD:=Hd hd
 have HE5:=Hd (HE4.out.trans hd.ext)
 have HPA5:=Hd (And.intro (HPA4.out.1.ext hd.ext) (Nat.le_trans HPA4.out.2 hd.ext.size))
 have hmk:=diff_makes HK.out HCM.out
 have hdl:=diffN_lenT (check_ok HK.out).len (check_ok HCM.out).len
 obtain⟨ds,hds⟩:∃ ds,ds=diffN l m:=⟨_,rfl⟩
 rw[←hds]at HD hmk hdl
 have HMK:=Hd hmk
 obtain⟨a3,c3,hdv⟩:=hd.sl
 rw[←hds]at hdv
 subst hdv
 clear hd hmk hds HDI
 have HOKP:=Hd (ok_map HK.out)
 rw[←HP.out]at HOKP
 have HRDD:=Hd HD.out.rdT
 go_wp2_with fail
 go_loopw [8,56] (fun pv iv wr=>UpRel1 w5 (Since w w1) P ds pv iv wr) (fun _ iv _=>ds.length - (intOf iv).toNat)
 case atStart=>exact⟨0,T,x,Since w w1,by omega,rfl,rfl,HPA5.out.1,fun z hz=>.inl hz,(ExtR w5).mono (fun _ _ e=>e.elim)⟩
 case round =>
  obtain⟨k,Tk,xk,D,hk,rfl,rfl,hpo,hD,hkp⟩:=hrel
  by_cases hlt:k < ds.length
  ·rcases HRDD.out with⟨_,_,_,hz⟩ |⟨b,o,cd,hh,hb,hcd,hcell⟩
   ·rw[hz]at hlt;cases hlt
   cases hh
   obtain⟨p,hp⟩:∃ p,ds[k]?=some p:=⟨_,List.getElem?_eq_getElem hlt⟩
   obtain⟨q1,q2,q3⟩:=hcell k p hp
   have hbw:¬ Since w w1 b:=fun e=>by have h1:=HD.out.new b rfl;have h2:=HPA4.out.2;have h3:=e.2;omega
   have q1:=cell_keeps q1 hkp hbw
   have q2:=cell_keeps q2 hkp hbw
   have q3:=cell_keeps q3 hkp hbw
   have hpb:p.bad=false:=by
    cases e:p.bad with
    | false=>rfl
    | true=>exact absurd (any_at hp e) (by rw[HMK.out.fine];simp)
   have hky:=good_key hpb
   have b1:(k:Int) < (ds.length:Int):=by omega
   have hokk:=fold_okT HOKP.out ds HMK.out.fine k
   have hstep:(ds.take (k+1)).foldl stepPA P=stepPA ((ds.take k).foldl stepPA P) p:=by rw[take_at hp,List.foldl_append];rfl
   obtain⟨Q,hQ⟩:∃ Q,Q=(ds.take k).foldl stepPA P:=⟨_,rfl⟩
   rw[←hQ]at hpo hokk hstep
   have HOK:=Hd (And.intro hokk (hokk.step hpb))
   have HSTEP:=Hd hstep
   have hmt:=hpo.at'.meth
   have HPO:=Hd (And.intro hpo (And.intro hD hkp))
   obtain⟨ky,vl,gn⟩:=p
   simp only at q1 q2 q3 hky
   clear hcell hp hb hcd hbw hpb hokk hstep hpo hD hkp hQ
   have hed:=enter_drop Q
   have hep:=enter_put Q
   have hmd:∀ w,(Go.method (469+1) Tk xk "guilloche/trie.drop").run Tryz.prog w=.ok (paDrop Q,xk) w:=hmt.drop
   have hmp:∀ w,(Go.method (469+1) Tk xk "guilloche/trie.put").run Tryz.prog w=.ok (paPut Q,xk) w:=hmt.put
   clear hmt
   go_wp2_with fail
   have HKY:=Hd hky
   clear q1 q2 q3
   refine (path_c _ ky (by omega)).mono ?_
   rintro e w6 ⟨rfl,hE6⟩
   have hB6:=(Blk.new wr (.cells #[.string ky,.string vl,.bool gn] 66)).keeps hE6 (fun e=>e)
   have hE6w:=((ExtR wr).alloc (.cells #[.string ky,.string vl,.bool gn] 66)).trans hE6
   have q1:w6.cell? ⟨wr.heap.size,1,none⟩=some (.string vl):=hB6.cell (i:=1) (by rfl)
   have q2:w6.cell? ⟨wr.heap.size,2,none⟩=some (.bool gn):=hB6.cell (i:=2) (by rfl)
   have HE6:=Hd hE6w
   have hps:(pathB ky).size≤900000:=by have:=path_size ky;omega
   have HPS:=Hd hps
   clear hE6 hB6 hE6w hky hps
   cases gn with
   | true =>
    have HCALL:=Hd (padrop_c Q HOK.out.1.va w6 Tk xk D (pathB ky) (HPO.out.1.ext HE6.out) HPS.out (path_valid ky) HOK.out.1.dp9)
    obtain⟨pb,hpb⟩:∃ pb,pb=pathB ky:=⟨_,rfl⟩
    have HPB:=Hd hpb
    rw[←hpb]at HCALL ⊢
    clear hpb
    go_wp2_with fail
    refine HCALL.out.mono ?_
    rintro e w7 ⟨v7,rfl,hp7,hk7⟩
    have hst7:(ds.take (k+1)).foldl stepPA P=dropP Q pb:=by rw[HSTEP.out,HPB.out];rfl
    have hth:=HOK.out.2.there
    rw[show stepPA Q ⟨ky,vl,true⟩=dropP Q pb by rw[HPB.out];rfl]at hth
    obtain⟨T7,x7,rfl⟩:=hp7.form hth
    have HF:=Hd (show PaO ((ds.take (k+1)).foldl stepPA P) (.iface T7 x7) (Grow D w6 w7) w7 from by rw[hst7];exact PaTo.own hp7 hk7 (HPO.out.1.ext HE6.out).lt)
    have HK7:=Hd hk7
    clear hp7 hk7 hst7 hth
    go_wp2_with fail
    go_roundw
    case rel=>exact⟨k+1,T7,x7,_,by omega,by go_num,rfl,HF.out,fun z hz=>by
     rcases hz with hz | hz
     ·exact HPO.out.2.1 z hz
     ·exact .inr (Nat.le_trans HPO.out.2.2.size (Nat.le_trans HE6.out.size hz.1)),HPO.out.2.2.trans' ((HE6.out.mono (fun _ _ e=>e.elim)).trans HK7.out) (fun z hz e=>(HPO.out.2.1 z e).resolve_right (by omega))⟩
    case measure=>simp[intOf];omega
   | false =>
    have HCALL:=Hd (paput_c Q HOK.out.1.va w6 Tk xk D (pathB ky) vl (HPO.out.1.ext HE6.out) HPS.out (path_valid ky) HOK.out.1.dp9)
    obtain⟨pb,hpb⟩:∃ pb,pb=pathB ky:=⟨_,rfl⟩
    have HPB:=Hd hpb
    rw[←hpb]at HCALL ⊢
    clear hpb
    go_wp2_with fail
    refine HCALL.out.mono ?_
    rintro e w7 ⟨v7,rfl,hp7,hk7⟩
    have hst7:(ds.take (k+1)).foldl stepPA P=putP Q pb vl:=by rw[HSTEP.out,HPB.out];rfl
    have hth:=HOK.out.2.there
    rw[show stepPA Q ⟨ky,vl,false⟩=putP Q pb vl by rw[HPB.out];rfl]at hth
    obtain⟨T7,x7,rfl⟩:=hp7.form hth
    have HF:=Hd (show PaO ((ds.take (k+1)).foldl stepPA P) (.iface T7 x7) (Grow D w6 w7) w7 from by rw[hst7];exact PaTo.own hp7 hk7 (HPO.out.1.ext HE6.out).lt)
    have HK7:=Hd hk7
    clear hp7 hk7 hst7 hth
    go_wp2_with fail
    go_roundw
    case rel=>exact⟨k+1,T7,x7,_,by omega,by go_num,rfl,HF.out,fun z hz=>by
     rcases hz with hz | hz
     ·exact HPO.out.2.1 z hz
     ·exact .inr (Nat.le_trans HPO.out.2.2.size (Nat.le_trans HE6.out.size hz.1)),HPO.out.2.2.trans' ((HE6.out.mono (fun _ _ e=>e.elim)).trans HK7.out) (fun z hz e=>(HPO.out.2.1 z e).resolve_right (by omega))⟩
    case measure=>simp[intOf];omega
  ·obtain rfl:k=ds.length:=by omega
   rw[List.take_length,HP.out,fold_map HK.out HCM.out HMK.out]at hpo
   have HWW:=Hd (show Ext w wr from HE5.out.trans' hkp (fun z hz e=>by have:=e.1;omega))
   obtain⟨W6,hW6⟩:∃ W6,W6=wr.alloc (.cells #[.slice none 0 0] 128):=⟨_,rfl⟩
   have hE6:Ext wr W6:=by rw[hW6];exact (ExtR wr).alloc _
   have hw6:WrAt wr.heap.size wr.heap.size (.slice none 0 0) [] W6:=⟨Nat.le_refl _,by rw[hW6];exact Blk.new wr _,World.ownsRow_nil _ _ _ _,fun b hb=>(by cases hb),fun _=>rfl⟩
   have hcnt:cntP (partP 13 (rowsL m))=cntT 12 (rowsL m):=cnt_part 12 _ (rows_ok (check_ok HCM.out))
   have htop:=parttop_c 12 (rowsL m) (rows_ok (check_ok HCM.out)) wr W6 Tk xk D wr.heap.size (.slice none 0 0) [] (HCC.out.1.ext HWW.out) (HCC.out.2.ext HWW.out) hpo hE6 hw6 (by have:=cnt_map (check_ok HCM.out);have:([]:List ByteArray).length=0:=rfl;show 0+cntP (partP 13 (rowsL m))≤100000;omega)
   rw[List.nil_append,show textP (partP (12+1) (rowsL m))=(trieT m).text from text_is HCM.out,show underP (partP (12+1) (rowsL m))=belowM m from rfl]at htop
   have HUL:=Hd (below_len HCM.out)
   have HRES:=Hd (show newM S (afterM l cs)=(trieT m).text :: freshU S (belowM m)from by unfold newM afterM;rw[←HMM.out])
   obtain⟨t,ht⟩:∃ t,t=(trieT m).text:=⟨_,rfl⟩
   obtain⟨U,hU⟩:∃ U,U=belowM m:=⟨_,rfl⟩
   rw[←ht, ←hU]at HRES
   rw[←hU]at HUL
   rw[←ht, ←hU]at htop
   have HTOP:=Hd htop
   have HW6:=Hd (And.intro hw6 (And.intro hE6 hW6))
   clear hpo hD hkp hE6 hw6 hcnt htop ht hU hW6
   go_wp2_with fail
   rw[←HW6.out.2.2]
   refine HTOP.out.mono ?_
   rintro e w7 ⟨rfl,v7,hT7⟩
   have HT7:=Hd (And.intro hT7.at' (And.intro (HWW.out.trans (hT7.ext0 HW6.out.1 HW6.out.2.1 (Nat.le_refl _))) hT7.at'.var.lt))
   obtain⟨g,hg⟩:∃ g,g=wr.heap.size:=⟨_,rfl⟩
   rw[←hg]at HT7 ⊢
   clear hT7 hg
   obtain⟨a7,c7,hv7⟩:=row_slice HT7.out.1.row
   obtain⟨n7,hn7⟩:∃ n,n=U.length:=⟨_,rfl⟩
   have HROW7:=Hd HT7.out.1.row
   rw[←hn7]at hv7 HROW7
   subst hv7
   have HN7:=Hd hn7
   have q7:=HT7.out.1.var.cell (i:=0) (v:=.slice a7 n7 c7) (by rfl)
   clear hn7
   have hmm:(Instr.makeMap 101 none).run Tryz.prog (w7.alloc (.cells #[.string t] 9))=.ok (.map (some (w7.heap.size+1))) ((w7.alloc (.cells #[.string t] 9)).alloc (.map #[] 0)):=by
    rw[←World.size_alloc w7 (.cells #[.string t] 9)];exact Tryz.makeMapSI _
   obtain⟨W8,hW8⟩:∃ W8,W8=(w7.alloc (.cells #[.string t] 9)).alloc (.map #[] 0):=⟨_,rfl⟩
   obtain⟨mb,hmb⟩:∃ mb,mb=w7.heap.size+1:=⟨_,rfl⟩
   rw[←hW8, ←hmb]at hmm
   have hX8:Ext w7 W8:=by rw[hW8];exact ((ExtR w7).alloc _).alloc _
   have hB8:Blk W8 mb (.map (Tryz.ES.arr []) 0):=by
    rw[hW8,hmb, ←World.size_alloc w7 (.cells #[.string t] 9)];exact Blk.new _ _
   have hL8:SRow w7 (w7.alloc (.cells #[.string t] 9)) (.slice (some ⟨w7.heap.size,0,none⟩) 1 1) 1 [t]:=ORow.lit (n:=1) #[.string t] (ExtR w7) (by decide) rfl
   have hL8:SRow w7 W8 (.slice (some ⟨w7.heap.size,0,none⟩) 1 1) 1 [t]:=by rw[hW8];exact hL8.mono ((ExtR _).alloc _)
   have HU0:=Hd (show UpB w7 S mb t U 0 (.slice (some ⟨w7.heap.size,0,none⟩) 1 1) W8 from⟨⟨1,hL8⟩,fun e=>by injection e with e;have e:w7.heap.size=mb:=e;omega,[],0,hB8,fun y=>rfl⟩)
   have q7:=cell_ext q7 hX8
   have HMB:=Hd (show w7.heap.size≤mb by omega)
   clear hW8 hmb hX8 hB8 hL8
   go_wp2_with fail
   go_loopw [19,86] (fun rv iv wr=>UpRel2 w7 S mb t U rv iv wr) (fun _ iv _=>U.length - (intOf iv).toNat)
   case atStart=>exact⟨0,by omega,rfl,HU0.out⟩
   case round =>
    obtain⟨k,hk,rfl,hub⟩:=hrel
    by_cases hlt:k < U.length
    ·rcases Nat.eq_zero_or_pos n7 with h0 | h0
     ·have:=HN7.out;omega
     obtain⟨b7,rfl⟩:=own_ptr HROW7.out (by omega)
     obtain⟨x,hx⟩:∃ x,U[k]?=some x:=⟨_,List.getElem?_eq_getElem hlt⟩
     obtain⟨⟨n,hrow⟩,hout,es,ck,h5,h6⟩:=hub
     obtain⟨ar,cr,hrv⟩:=hrow.sl
     subst hrv
     have HX:=Hd hrow.ext
     have qx:=cell_ext (own_row_at HROW7.out (j:=k) (u:=.string x) (by rw[List.getElem?_map,hx];rfl)) hrow.ext
     obtain⟨cn,hcn⟩:∃ cn,cn=cntB (U.take k) x:=⟨_,rfl⟩
     have hcl:cn≤1000000:=by
      rw[hcn];unfold cntB
      refine Nat.le_trans List.count_le_length ?_
      rw[List.length_map,List.length_take];have:=HUL.out;omega
     have e6:=h6 x
     rw[←hcn]at e6
     have hlk:(Instr.lookup 101 (.map (some mb)) (.string x) false).run Tryz.prog wr=.ok (.int .i64 (cn:Int)) wr:=by
      have:=run_lookup Tryz.ES Tryz.uMapSI h5 (Tryz.zeroI wr) x.data.toList false
      rw[e6]at this
      unfold cntV at this
      by_cases h0:cn=0
      ·rw[if_pos h0]at this;rw[h0];exact this
      ·rw[if_neg h0]at this;exact this
     obtain⟨es2',hes2⟩:∃ es2,es2=entPut es x.data.toList (.int .i64 ((cn:Int)+1)) ck:=⟨_,rfl⟩
     obtain⟨ck2',hck2⟩:∃ ck2,ck2=(if (entGet es x.data.toList).isSome then ck else ck+1):=⟨_,rfl⟩
     obtain⟨W2,hW2⟩:∃ W2,W2=wr.putObj mb (.map (Tryz.ES.arr es2') ck2'):=⟨_,rfl⟩
     have hmu:(Instr.mapUpdate 101 (.map (some mb)) (.string x) (.int .i64 ((cn:Int)+1))).run Tryz.prog wr=.ok () W2:=by
      have:=run_mapUpdate Tryz.ES Tryz.uMapSI h5 x.data.toList (.int .i64 ((cn:Int)+1))
      rw[←hes2, ←hck2, ←hW2]at this;exact this
     have B2:Blk W2 mb (.map (Tryz.ES.arr es2') ck2'):=by rw[hW2];exact h5.put_same _
     have e7:∀ y:ByteArray,entGet es2' y.data.toList=cntV (cntB (U.take (k+1)) y):=fun y=>by
      rw[hes2,entGet_put,h6 y,take_at hx,cntB_snocT]
      by_cases hxy:y.data.toList=x.data.toList
      ·have hyx:y=x:=ByteArray.ext (Array.ext' hxy)
       subst hyx
       rw[if_pos rfl,if_pos rfl, ←hcn]
       unfold cntV;rw[if_neg (by omega)];simp
      ·rw[if_neg hxy,if_neg (fun e=>hxy e.symm)];rfl
     have hlk2:∀ W3,Ext W2 W3→(Instr.lookup 101 (.map (some mb)) (.string x) false).run Tryz.prog W3=.ok (.int .i64 ((cn:Int)+1)) W3:=fun W3 e3=>by
      have:=run_lookup Tryz.ES Tryz.uMapSI (B2.keeps e3 (fun e=>e)) (Tryz.zeroI W3) x.data.toList false
      rw[hes2,entGet_put,if_pos rfl]at this
      exact this
     have K2:Keeps (fun z=>z=mb) wr W2:=by rw[hW2];exact Keeps.onePut _ _ _
     have O2:SRow w7 W2 (.slice ar n cr) n (t :: freshU S (U.take k)):=hrow.keeps K2 (fun b hb e=>hout (by rw[hb];exact congrArg some e)) (fun b hb e=>by have e:b=mb:=e;have:=HMB.out;omega)
     have HLEN:=Hd (show n≤119 by
      have h1:=hrow.len
      rw[List.length_map,List.length_cons]at h1
      have h2:=fresh_len S (U.take k)
      rw[List.length_take]at h2
      have:=HUL.out;omega)
     have HMEM:=Hd (show memB (firsts (U.take k)) x=true↔cn≠0 from by
      rw[memB_iff,firsts_mem,hcn]
      unfold cntB
      rw[←Nat.pos_iff_ne_zero,List.count_pos_iff,List.mem_map]
      exact⟨fun hm=>⟨x,hm,rfl⟩,fun ⟨y,hy,e⟩=>by rw[←show y=x from ByteArray.ext (Array.ext' e)];exact hy⟩)
     have HFS:=Hd (fresh_snoc S (U.take k) x)
     rw[←take_at hx]at HFS
     have HTAB:=Hd (show ∀ W3,Ext W2 W3→∃ es ck,Blk W3 mb (.map (Tryz.ES.arr es) ck)∧∀ y:ByteArray,entGet es y.data.toList=cntV (cntB (U.take (k+1)) y)from fun W3 e3=>⟨es2',ck2',B2.keeps e3 (fun e=>e),e7⟩)
     have HT2:=Hd (And.intro B2 e7)
     have HLK:=Hd hlk2
     have HO2:=Hd O2
     have HOUT:=Hd hout
     have b1:(k:Int) < (n7:Int):=by have:=HN7.out;omega
     have HK1:=Hd (And.intro hk hlt)
     have hul:=HUL.out
     clear hrow hout h5 h6 hx hcn e6 hes2 hck2 hW2 B2 e7 hlk2 K2 O2 h0
     by_cases hc0:cn=0
     ·subst hc0
      have HNM:=Hd (show memB (firsts (U.take k)) x=false by
       cases hm:memB (firsts (U.take k)) x with
       | false=>rfl
       | true=>exact absurd rfl (HMEM.out.1 hm))
      have hlk':(Instr.lookup 101 (.map (some mb)) (.string x) false).run Tryz.prog wr=.ok (.int .i64 0) wr:=hlk
      have hmu':(Instr.mapUpdate 101 (.map (some mb)) (.string x) (.int .i64 1)).run Tryz.prog wr=.ok () W2:=hmu
      have HLK':=Hd (show ∀ W3,Ext W2 W3→(Instr.lookup 101 (.map (some mb)) (.string x) false).run Tryz.prog W3=.ok (.int .i64 1) W3 from HLK.out)
      clear hlk hmu HLK
      go_wp2_with fail
      refine (of_t _ _ [x] (by simp) (rds_lit W2 [x] 9) (HCC.out.1.ext (HT7.out.2.1.trans (HO2.out.ext.alloc _)))).mono ?_
      rintro e w8 ⟨rfl,hE8⟩
      rw[catB_one]
      have hE8:=((ExtR W2).alloc (.cells #[.string x] 9)).trans hE8
      have HE8:=Hd hE8
      have HGET:=Hd (sget_c w8 s bm room S (shaB x) (HST.out.ext (HT7.out.2.1.trans (HO2.out.ext.trans hE8))))
      have HLB:=Hd (show lackB S x=(atL S (shaB x).data.toList).isNone from rfl)
      obtain⟨ag,hag⟩:∃ ag,ag=atL S (shaB x).data.toList:=⟨_,rfl⟩
      rw[←hag]at HGET HLB
      obtain⟨sx,hsx⟩:∃ sx,sx=shaB x:=⟨_,rfl⟩
      rw[←hsx]at HGET ⊢
      clear hE8 hag hsx qx
      cases ag with
      | some y =>
       obtain⟨ty,hty⟩:∃ ty,ty=y.2.2.text:=⟨_,rfl⟩
       have HG2:=Hd (show Calls Tryz.prog 29 #[.pointer (some ⟨s,0,none⟩),.string sx] w8 (fun e w'=>e=.returned (.tuple #[.string y.2.2.text,.bool true])∧Ext w8 w')from HGET.out)
       go_wp2_with fail
       refine HG2.out.mono ?_
       rintro e w9 ⟨rfl,hE9⟩
       have HE9:=Hd (HE8.out.trans hE9)
       clear hE9
       rw[←hty]
       clear hty
       have hfr:freshU S (U.take (k+1))=freshU S (U.take k):=by rw[HFS.out];rw[if_neg (by rw[HNM.out];simp),if_neg (by rw[HLB.out];simp),List.append_nil]
       have HF:=Hd hfr
       clear hfr
       go_wp2_with fail
       go_roundw
       case rel=>exact⟨k+1,by have:=HK1.out;omega,by go_num,⟨n,by rw[HF.out];exact HO2.out.mono HE9.out⟩,HOUT.out,HTAB.out w9 HE9.out⟩
       case measure=>simp[intOf];omega
      | none =>
       have HG2:=Hd (show Calls Tryz.prog 29 #[.pointer (some ⟨s,0,none⟩),.string sx] w8 (fun e w'=>e=.returned (.tuple #[.string ⟨#[]⟩,.bool false])∧Ext w8 w')from HGET.out)
       go_wp2_with fail
       refine HG2.out.mono ?_
       rintro e w9 ⟨rfl,hE9⟩
       have HE9:=Hd (HE8.out.trans hE9)
       clear hE9
       have hlk3:=HLK'.out w9 HE9.out
       have hm1:n+1≤maxLen:=by have:=HLEN.out;unfold maxLen;omega
       have hm2:(n+1) * 16≤140737488355328:=by have:=HLEN.out;omega
       go_wp2_with (at_builtin;refine wpList_app Tryz.sStrs ((HO2.out.mono HE9.out).mono ((ExtR w9).alloc _)) (.tmp 110) (.tmp 112) rfl rfl rfl (news_blk (Blk.new w9 _)) (news:=[.string x]) (by intro u hu;simp at hu;rcases hu with rfl;rfl) rfl rfl hm1 hm2 ?_;intro v' w' r1 r2 r3)
       have r1':SRow w7 w' v' (n+1) (t :: freshU S (U.take (k+1))):=by
        have e1:freshU S (U.take (k+1))=freshU S (U.take k)++[x]:=by rw[HFS.out,if_neg (by rw[HNM.out];simp),if_pos (by rw[HLB.out];rfl)]
        unfold SRow;rw[e1, ←List.cons_append,List.map_append];exact r1
       obtain⟨ar',cr',rfl⟩:=r1'.sl
       have hlt9:=(HT2.out.1.keeps HE9.out (fun e=>e)).lt
       have HR9:=Hd (And.intro r1' (show (Value.slice ar' (n+1) cr').ownBlock≠some mb from fun e=>by
        rcases r3 with r3 | r3
        ·exact HOUT.out (r3 ▸ e)
        ·have:=r3 mb e;rw[World.size_alloc]at this;omega))
       have HT9:=Hd (((HT2.out.1.keeps HE9.out (fun e=>e)).alloc (.cells #[.string x] 9)).keeps r2 (fun e=>HOUT.out e))
       clear r1 r2 r3 r1' hlt9
       go_wp2_with fail
       go_roundw
       case rel=>exact⟨k+1,by have:=HK1.out;omega,by go_num,⟨n+1,HR9.out.1⟩,HR9.out.2,es2',ck2',HT9.out,HT2.out.2⟩
       case measure=>simp[intOf];omega
     ·have hc1:¬((cn:Int)+1=1):=by omega
      have hc2:(((cn:Int)+1) == 1)=false:=by simp;omega
      have HNM:=Hd (HMEM.out.2 hc0)
      go_wp2_with fail
      refine (of_t _ _ [x] (by simp) (rds_lit W2 [x] 9) (HCC.out.1.ext (HT7.out.2.1.trans (HO2.out.ext.alloc _)))).mono ?_
      rintro e w8 ⟨rfl,hE8⟩
      rw[catB_one]
      have hE8:=((ExtR W2).alloc (.cells #[.string x] 9)).trans hE8
      have HE8:=Hd hE8
      have HGET:=Hd (sget_c w8 s bm room S (shaB x) (HST.out.ext (HT7.out.2.1.trans (HO2.out.ext.trans hE8))))
      obtain⟨ag,hag⟩:∃ ag,ag=atL S (shaB x).data.toList:=⟨_,rfl⟩
      rw[←hag]at HGET
      obtain⟨sx,hsx⟩:∃ sx,sx=shaB x:=⟨_,rfl⟩
      rw[←hsx]at HGET ⊢
      clear hE8 hag hsx qx hlk hmu
      have hfr:freshU S (U.take (k+1))=freshU S (U.take k):=by rw[HFS.out,if_pos HNM.out,List.append_nil]
      have HF:=Hd hfr
      clear hfr
      cases ag with
      | some y =>
       obtain⟨ty,hty⟩:∃ ty,ty=y.2.2.text:=⟨_,rfl⟩
       have HG2:=Hd (show Calls Tryz.prog 29 #[.pointer (some ⟨s,0,none⟩),.string sx] w8 (fun e w'=>e=.returned (.tuple #[.string y.2.2.text,.bool true])∧Ext w8 w')from HGET.out)
       go_wp2_with fail
       refine HG2.out.mono ?_
       rintro e w9 ⟨rfl,hE9⟩
       have HE9:=Hd (HE8.out.trans hE9)
       clear hE9
       rw[←hty]
       clear hty
       go_wp2_with fail
       go_roundw
       case rel=>exact⟨k+1,by have:=HK1.out;omega,by go_num,⟨n,by rw[HF.out];exact HO2.out.mono HE9.out⟩,HOUT.out,HTAB.out w9 HE9.out⟩
       case measure=>simp[intOf];omega
      | none =>
       have HG2:=Hd (show Calls Tryz.prog 29 #[.pointer (some ⟨s,0,none⟩),.string sx] w8 (fun e w'=>e=.returned (.tuple #[.string ⟨#[]⟩,.bool false])∧Ext w8 w')from HGET.out)
       go_wp2_with fail
       refine HG2.out.mono ?_
       rintro e w9 ⟨rfl,hE9⟩
       have HE9:=Hd (HE8.out.trans hE9)
       clear hE9
       have hlk3:=HLK.out w9 HE9.out
       go_wp2_with fail
       go_roundw
       case rel=>exact⟨k+1,by have:=HK1.out;omega,by go_num,⟨n,by rw[HF.out];exact HO2.out.mono HE9.out⟩,HOUT.out,HTAB.out w9 HE9.out⟩
       case measure=>simp[intOf];omega
    ·obtain rfl:k=U.length:=by omega
     obtain⟨⟨n,hrow⟩, -, -⟩:=hub
     obtain⟨ar,cr,hrv⟩:=hrow.sl
     subst hrv
     rw[List.take_length]at hrow
     have HROW:=Hd hrow
     have hb2:¬((U.length:Int) < (n7:Int)):=by have:=HN7.out;omega
     clear hrow
     go_wp2_with fail
     go_ret2
     unfold UpdP
     rw[if_pos HK0.out,HRES.out]
     have hn:(t :: freshU S U).length=n:=by have:=HROW.out.len;simpa using this
     rw[hn]
     exact⟨_,rfl,HROW.out.sl,HROW.out.own,HT7.out.2.1.trans HROW.out.ext,fun b hb=>Nat.le_trans HT7.out.2.1.size (HROW.out.new b hb)⟩
def RowOf(W:World)(b c:Nat):Prop:=∃ rv,W.cell? ⟨b,1,none⟩=some rv∧rv.ownBlock=some c
def RK(w W:World):Prop:=w.heap.size≤W.heap.size∧∀ b,b < w.heap.size→∀ c,RowOf W b c→RowOf w b c
theorem cell_heap{W W':World}{b i:Nat}(h:W'.heap[b]?=W.heap[b]?):W'.cell? ⟨b,i,none⟩=W.cell? ⟨b,i,none⟩:=by unfold World.cell?;rw[h]
theorem RK.refl(w:World):RK w w:=⟨Nat.le_refl _,fun _ _ _ h=>h⟩
theorem RK.trans{a b c:World}(h:RK a b)(k:RK b c):RK a c:=⟨Nat.le_trans h.1 k.1,fun x hx y r=>h.2 x hx y (k.2 x (Nat.lt_of_lt_of_le hx h.1) y r)⟩
theorem RK.keeps{F:BSet}{w W W':World}(h:RK w W)(k:Keeps F W W')(hF:∀ b,F b→w.heap.size≤b):RK w W':=⟨Nat.le_trans h.1 k.size,fun b hb c r=>by
 obtain⟨rv,h1,h2⟩:=r
 rw[cell_heap (k.block b (Nat.lt_of_lt_of_le hb h.1) (fun f=>by have:=hF b f;omega))]at h1
 exact h.2 b hb c ⟨rv,h1,h2⟩⟩
theorem RK.ext{w W W':World}(h:RK w W)(e:Ext W W'):RK w W':=h.keeps e (fun _ f=>f.elim)
theorem RK.put{w W W':World}{bm:Nat}{es:Array MapEntry}{ck:Nat}(h:RK w W)(k:Keeps (fun z=>z=bm) W W')(hm:Blk W' bm (.map es ck)):RK w W':=⟨Nat.le_trans h.1 k.size,fun b hb c r=>by
 obtain⟨rv,h1,h2⟩:=r
 by_cases e:b=bm
 ·subst e
  unfold World.cell? at h1
  rw[show W'.heap[b]?=_ from hm]at h1
  cases h1
 ·rw[cell_heap (k.block b (Nat.lt_of_lt_of_le hb h.1) e)]at h1
  exact h.2 b hb c ⟨rv,h1,h2⟩⟩
theorem RK.set{w W:World}(h:RK w W)(zb:Nat){f:Nat}(hf:f=2∨f=3)(v:Value):RK w (W.setCell ⟨zb,f,none⟩ v):=⟨by rw[World.size_setCell];exact h.1,fun b hb c r=>by
 obtain⟨rv,h1,h2⟩:=r
 rw[World.cell?_setCell_other _ _ _ _ (fun e=>by have:=congrArg Addr.off e;rcases hf with rfl | rfl <;> cases this)]at h1
 exact h.2 b hb c ⟨rv,h1,h2⟩⟩
def RowsN(w W:World)(G:List Nd5):Prop:=∀ x∈G,∀ c,RowOf W x.2.1 c→w.heap.size≤c
theorem RowsN.rk{w W W':World}{G:List Nd5}(h:RowsN w W G)(hk:RK W W')(hl:∀ x∈G,x.2.1 < W.heap.size):RowsN w W' G:=fun x hx c r=>h x hx c (hk.2 _ (hl x hx) c r)
def ReRelA(w:World)(bg:Nat)(L:List ByteArray)(iv:Value)(W:World):Prop:=∃ i:Nat,i≤L.length∧iv=.int .i64 i∧(∀ t∈L.take i,∃ n,IsNode t n)∧∃ G,ReS w bg G (L.take i) W∧RowsN w W G
def AnyQ(Q:Prop)(L:List ByteArray):Prop:=∀ t∈L,(∃ n,IsNode t n)∨(GetE t∧Q)
theorem any_nodesQ{L:List ByteArray}(h:∀ t∈L,∃ n,IsNode t n):AnyQ False L:=fun t ht=>.inl (h t ht)
def RdA(Q:Prop)(w:World)(L:List ByteArray)(e:Ending)(w':World):Prop:=(e=.returned (.tuple #[.map none,.int .i64 2])∧Ext w w'∧Q)∨((∀ t∈L,∃ n,IsNode t n)∧∃ bg G,e=.returned (.tuple #[.map (some bg),.int .i64 0])∧ReS w bg G L w'∧RowsN w w' G)
theorem take_all{L:List ByteArray}{i:Nat}{t:ByteArray}{P:ByteArray→Prop}(h:∀ x∈L.take i,P x)(ht:L[i]?=some t)(hp:P t):∀ x∈L.take (i+1),P x:=fun x hx=>by
 rw[List.take_add_one,ht]at hx
 rcases List.mem_append.1 hx with hx | hx
 ·exact h x hx
 ·have hx:x∈[t]:=hx
  rw[List.mem_singleton.1 hx];exact hp
theorem sread_any(w:World)(hc:Cubes w)(hGE:ErrT w)(v:Value)(L:List ByteArray)(hv:RdS w v L)(hl:L.length≤1000)(h0:L≠[])(Q:Prop)(hN:AnyQ Q L) :
  Calls Tryz.prog 72 #[v] w (RdA Q w L):=by
 have hpos:0 < L.length:=List.length_pos_iff.2 h0
 obtain⟨a,c,rfl,_⟩:=hv.slice
 have HL3:=Hd hv
 have HC:=Hd hc
 have HN:=Hd hN
 have HGE:=Hd hGE
 have hmm:=Tryz.makeMapIt w
 clear hv hc hN h0 hGE
 have hb0:((L.length:Int) == 0)=false:=by simpa using (by omega:L.length≠0)
 go_enter Tryz.func72,Tryz.ntmps72
 go_wp2_with fail
 obtain⟨bg,hbg⟩:∃ bg,bg=w.heap.size:=⟨_,rfl⟩
 have HBG:=Hd hbg
 rw[←hbg]
 clear hbg hmm
 go_loopw [16] (fun iv wr=>ReRelA w bg L iv wr) (fun iv _=>L.length - (intOf iv).toNat)
 case atStart =>
  refine⟨0,Nat.zero_le _,rfl,fun t ht=>(by cases ht),[],⟨(ExtR w).alloc _,⟨⟨[],0,?_,MapV.nil 0⟩,by simp,fun x hx=>by cases hx⟩,rfl,by rw[HBG.out];exact Nat.le_refl _,fun x hx=>by cases hx⟩,fun x hx=>by cases hx⟩
  rw[HBG.out];exact Blk.new w _
 case round =>
  obtain⟨i,hi,rfl,hall,G,hS,hrn⟩:=hrel
  have HRN:=Hd hrn
  clear hrn
  have HALL:=Hd hall
  have HSR:=Hd hS
  clear hS hall
  by_cases hlt:i < L.length
  ·have b1:(i:Int) < (L.length:Int):=by omega
   obtain⟨t,ht⟩:∃ t,L[i]?=some t:=⟨_,List.getElem?_eq_getElem hlt⟩
   obtain⟨ax,cx,hh,hcell⟩:=HL3.out.slice
   obtain⟨ba,oa,hao,hqa⟩:=hcell i t ht
   subst hao
   cases hh
   have q1:=cell_ext hqa HSR.out.ext
   rcases HN.out t (List.mem_of_getElem? ht)with hnode |⟨hbad,hq⟩
   case inr =>
    have HBAD:=Hd hbad
    have HQ:=Hd hq
    obtain⟨n,hn⟩:∃ n,n=emptyN:=⟨_,rfl⟩
    have HRF:=Hd (show n.refs.length=16 by rw[hn];rfl)
    have hg:=HBAD.out wr (HGE.out.ext HSR.out.ext)
    unfold GetNo at hg
    rw[←hn]at hg
    clear hcell hqa ht hbad hn hq
    go_wp2_with fail
    refine hg.mono ?_
    rintro e w4 ⟨rfl,hE⟩
    have HX4:=Hd (HSR.out.ext.trans hE)
    clear hE hg q1
    unfold NodeT.V
    go_wp2_with (refine wpList_new Tryz.allocNode rfl rfl ?_;intro W3 hB3 hE3;refine wpList_fill (vs:=n.cells) rfl rfl rfl rfl hB3 (by rw[n.cells_len HRF.out];rfl) (by rw[n.cells_len HRF.out];exact Tryz.szNode) (NodeT.one _) ?_;intro W4 hB4 hE4;have hE34:Ext w4 W4:=hE3.trans' hE4 (fun x hx e=>by have e:x=w4.heap.size:=e;omega))
    go_ret2
    exact .inl ⟨rfl,HX4.out.trans hE34,HQ.out⟩
   have HALL2:=Hd (take_all HALL.out ht hnode)
   obtain⟨n0,hn0⟩:=hnode
   have hIs:=nodeOf_is hn0
   have HTS:=Hd (readG_step ht)
   have HIT:=Hd (show itOf t=⟨t,hashesT (nodeOf t),0,0⟩from rfl)
   obtain⟨n,hnn⟩:∃ n,n=nodeOf t:=⟨_,rfl⟩
   rw[←hnn]at hIs HIT
   have h16:=hashesT_len hIs
   obtain⟨htx,g,hg⟩:=hIs
   have HG:=Hd hg
   have HRF:=Hd ((hg.one (inlP g)).refs)
   have HTX:=Hd htx
   clear hcell hn0 hnn htx hg hqa ht
   go_wp2_with fail
   rw[HTX.out]
   refine (get_c4 (inlP g) wr n HG.out).mono ?_
   rintro e w4 ⟨rfl,hE⟩
   rw[←HTX.out]
   have HX4:=Hd hE
   clear hE q1
   unfold NodeT.V
   go_wp2_with (refine wpList_new Tryz.allocNode rfl rfl ?_;intro W3 hB3 hE3;refine wpList_fill (vs:=n.cells) rfl rfl rfl rfl hB3 (by rw[n.cells_len HRF.out];rfl) (by rw[n.cells_len HRF.out];exact Tryz.szNode) (NodeT.one _) ?_;intro W4 hB4 hE4;have hE34:Ext w4 W4:=hE3.trans' hE4 (fun x hx e=>by have e:x=w4.heap.size:=e;omega))
   have HX5:=Hd (HX4.out.trans hE34)
   have HB5:=Hd hB4
   clear hB3 hE3 hB4 hE4 hE34 HX4
   refine (of_t _ _ [t] (by simp) (rds_lit W4 [t] 9) (HC.out.ext ((HSR.out.ext.trans HX5.out).alloc _))).mono ?_
   rintro e w6 ⟨rfl,hE⟩
   rw[catB_one]
   have hx6:=((ExtR W4).alloc (.cells #[.string t] 9)).trans hE
   have HX6:=Hd (HX5.out.trans hx6)
   have HB6:=Hd (HB5.out.keeps hx6 (fun h=>h))
   have HS6:=Hd (HSR.out.keeps HX6.out)
   have hlk:=HS6.out.at'.look (shaB t) false
   have HNA:=Hd (atL_any (L:=G) (k:=ky t))
   have HKY:=Hd (show (shaB t).data.toList=ky t from rfl)
   have HAD:=Hd (show addG (G.map kvI) t=if (G.map kvI).any (fun x=>decide (ky t=x.1))then G.map kvI else G.map kvI++[(ky t,itOf t)]from rfl)
   rw[HKY.out]at hlk
   simp only[Bool.false_eq_true,if_false]at hlk
   obtain⟨sh,hsh⟩:∃ sh,sh=shaB t:=⟨_,rfl⟩
   rw[←hsh]at hlk HKY ⊢
   obtain⟨kt,hkt⟩:∃ kt,kt=ky t:=⟨_,rfl⟩
   rw[←hkt]at hlk HKY HNA HAD
   clear hE hx6 HX5 HB5 hsh hkt
   cases ha:atL G kt with
   | some x =>
    rw[ha]at hlk
    unfold ptrO at hlk
    simp only at hlk
    have hz:addG (G.map kvI) t=G.map kvI:=by rw[HAD.out,HNA.out,ha];rfl
    have HZ:=Hd hz
    clear ha hz
    go_wp2_with fail
    go_roundw
    case rel =>
     exact⟨i+1,by omega,by go_num,HALL2.out,G,⟨HS6.out.ext,HS6.out.at',by rw[HTS.out, ←HS6.out.is,HZ.out],HS6.out.new,HS6.out.news⟩,HRN.out.rk ((RK.refl _).ext HX6.out) (fun x hx=>(HSR.out.at'.items x hx).lt)⟩
    case measure=>simp[intOf];omega
   | none =>
    rw[ha]at hlk
    unfold ptrO at hlk
    simp only at hlk
    have hz:addG (G.map kvI) t=G.map kvI++[(kt,itOf t)]:=by rw[HAD.out,HNA.out,ha];rfl
    have HZ:=Hd hz
    have HA:=Hd ha
    have hld6:=run_load_api w6 _ n HRF.out HB6.out
    unfold NodeT.V at hld6
    clear ha hz
    go_wp2_with (refine wpList_load_known 144 (.tmp 7) rfl rfl _ _ rfl hld6 ?_)
    refine (hashes_c g n HG.out w6).mono ?_
    rintro e w8 ⟨v8,rfl,hR8,hnil⟩
    have hE8:=hR8.ext
    have hnew8:=hR8.new
    have hown:=hR8.own
    obtain⟨a8,c8,rfl⟩:=hR8.sl
    have S8:=HS6.out.keeps hE8
    have hA9:=S8.at'.ext ((ExtR w8).alloc (.cells #[.string t,.slice a8 (hashesT n).length c8,.int .i64 0,.int .i64 0] 118))
    have hb9:=Blk.new w8 (.cells #[.string t,.slice a8 (hashesT n).length c8,.int .i64 0,.int .i64 0] 118)
    have hi9:ItemAt (w8.alloc (.cells #[.string t,.slice a8 (hashesT n).length c8,.int .i64 0,.int .i64 0] 118)) w8.heap.size (itOf t):=by
     rw[HIT.out]
     exact⟨_,hb9,own_ext hown ((ExtR w8).alloc _)⟩
    obtain⟨ob,hmu,hA10⟩:=hA9.put sh (by rw[HKY.out];exact HA.out) hi9 (fun x hx e=>by have:=(S8.at'.items x hx).lt;omega)
    rw[HKY.out]at hA10
    have hE10:Ext w ((w8.alloc (.cells #[.string t,.slice a8 (hashesT n).length c8,.int .i64 0,.int .i64 0] 118)).putObj bg ob):=(S8.ext.alloc _).putObj (.inr S8.new) _
    have hsz6:=S8.ext.size
    have hrk8:RK wr w8:=((RK.refl _).ext HX6.out).ext hE8
    have hobm:∃ es ck,Blk ((w8.alloc (.cells #[.string t,.slice a8 (hashesT n).length c8,.int .i64 0,.int .i64 0] 118)).putObj bg ob) bg (.map es ck):=by
     obtain⟨es,ck,h1,_⟩:=hA10.mp
     exact⟨_,ck,h1⟩
    obtain⟨oes,ock,hobm⟩:=hobm
    have hrk10:=(hrk8.ext ((ExtR w8).alloc (.cells #[.string t,.slice a8 (hashesT n).length c8,.int .i64 0,.int .i64 0] 118))).put (Keeps.onePut _ bg ob) hobm
    have HRN10:=Hd (show RowsN w ((w8.alloc (.cells #[.string t,.slice a8 (hashesT n).length c8,.int .i64 0,.int .i64 0] 118)).putObj bg ob) (G++[(kt,w8.heap.size,itOf t)])from fun x hx c r=>by
     rcases List.mem_append.1 hx with hx | hx
     ·exact HRN.out.rk hrk10 (fun x hx=>(HSR.out.at'.items x hx).lt) x hx c r
     ·rw[List.mem_singleton.1 hx]at r
      obtain⟨rv,r1,r2⟩:=r
      have hne:w8.heap.size≠bg:=fun e=>by
       obtain⟨_,_,h1,_⟩:=S8.at'.mp
       have:=h1.lt;omega
      have hq:((w8.alloc (.cells #[.string t,.slice a8 (hashesT n).length c8,.int .i64 0,.int .i64 0] 118)).putObj bg ob).cell? ⟨w8.heap.size,1,none⟩=some (.slice a8 (hashesT n).length c8):=(hb9.keeps (Keeps.onePut _ bg ob) hne).cell (i:=1) (by rfl)
      have r1:_=some rv:=r1
      rw[hq]at r1
      have e:=Option.some.inj r1
      rw[←e]at r2
      have:=hnew8 c r2
      have:=HS6.out.ext.size
      omega)
    have HE10:=Hd hE10
    have HA10:=Hd hA10
    have HNW:=Hd (show w.heap.size≤w8.heap.size from S8.ext.size)
    clear hrk8 hobm hrk10 hsz6 hE10 hA10 hi9 hb9 hA9 S8 hown hnew8 hE8 hR8 hnil hld6 hlk
    go_wp2_with fail
    go_roundw
    case rel =>
     refine⟨i+1,by omega,by go_num,HALL2.out,G++[(kt,w8.heap.size,itOf t)],⟨HE10.out,HA10.out,?_,HS6.out.new,?_⟩,HRN10.out⟩
     ·rw[HTS.out, ←HS6.out.is,HZ.out,List.map_append];rfl
     ·intro x hx
      rcases List.mem_append.1 hx with hx | hx
      ·exact HS6.out.news x hx
      ·simp only[List.mem_singleton]at hx;subst hx;exact HNW.out
    case measure=>simp[intOf];omega
  ·have hie:i=L.length:=by omega
   subst hie
   have HS:=Hd (show ReS w bg G L wr by have:=HSR.out;rwa [List.take_length]at this)
   clear HSR
   go_wp2_with fail
   go_ret2
   exact .inr ⟨by have h:=HALL.out;rwa [List.take_length]at h,bg,G,rfl,HS.out,HRN.out⟩
def okM(S G:List Nd5)(M:List ByteArray)(x:ByteArray):Bool:=memB (firsts M) x ||(atL S x.data.toList).isSome ||(atL G x.data.toList).isSome
theorem meet_any(w0:World)(s bm:Nat)(room:Int)(S G:List Nd5)(bg b:Nat)(h:StoreAt w0 s bm room S)(hG:MapAt w0 bg G)(W:World)(M:List ByteArray)(hM:Meet w0 s S bg b M W)(x:ByteArray)(hl:M.length≤1000000) :
  Calls Tryz.prog 125 #[.string x,.pointer (some ⟨b+4,0,none⟩),.pointer (some ⟨b,0,none⟩),.pointer (some ⟨b+2,0,none⟩),.pointer (some ⟨b+1,0,none⟩)] W fun e w'=>e=.returned (.bool (okM S G M x))∧Meet w0 s S bg b (M++[x]) w':=by
 have HM:=Hd hM
 have HS:=Hd h
 obtain⟨es,ck,h5,h6⟩:=hM.tab
 obtain⟨v,n,h1,h2,h3,h4⟩:=hM.var
 obtain⟨ad,cp,rfl⟩:=row_slice h2
 obtain⟨cn,hcn⟩:∃ cn,cn=cntB M x:=⟨_,rfl⟩
 have hcl:cn≤1000000:=by
  rw[hcn];unfold cntB
  refine Nat.le_trans List.count_le_length ?_
  rw[List.length_map];exact hl
 have e6:=h6 x
 rw[←hcn]at e6
 have hlk:(Instr.lookup 101 (.map (some (b+3))) (.string x) false).run Tryz.prog W=.ok (.int .i64 (cn:Int)) W:=by
  have:=run_lookup Tryz.ES Tryz.uMapSI h5 (Tryz.zeroI W) x.data.toList false
  rw[e6]at this
  unfold cntV at this
  by_cases h0:cn=0
  ·rw[if_pos h0]at this;rw[h0];exact this
  ·rw[if_neg h0]at this;exact this
 obtain⟨es2,hes2⟩:∃ es2,es2=entPut es x.data.toList (.int .i64 ((cn:Int)+1)) ck:=⟨_,rfl⟩
 obtain⟨ck2,hck2⟩:∃ ck2,ck2=(if (entGet es x.data.toList).isSome then ck else ck+1):=⟨_,rfl⟩
 obtain⟨W2,hW2⟩:∃ W2,W2=W.putObj (b+3) (.map (Tryz.ES.arr es2) ck2):=⟨_,rfl⟩
 have hmu:(Instr.mapUpdate 101 (.map (some (b+3))) (.string x) (.int .i64 ((cn:Int)+1))).run Tryz.prog W=.ok () W2:=by
  have:=run_mapUpdate Tryz.ES Tryz.uMapSI h5 x.data.toList (.int .i64 ((cn:Int)+1))
  rw[←hes2, ←hck2, ←hW2]at this;exact this
 have B2:Blk W2 (b+3) (.map (Tryz.ES.arr es2) ck2):=by rw[hW2];exact h5.put_same _
 have e7:∀ y:ByteArray,entGet es2 y.data.toList=cntV (cntB (M++[x]) y):=fun y=>by
  rw[hes2,entGet_put,h6 y,cntB_snoc]
  by_cases hxy:y.data.toList=x.data.toList
  ·have hyx:y=x:=ByteArray.ext (Array.ext' hxy)
   subst hyx
   rw[if_pos rfl,if_pos rfl, ←hcn]
   unfold cntV;rw[if_neg (by omega)];simp
  ·rw[if_neg hxy,if_neg (fun e=>hxy e.symm)];rfl
 have hlk2:(Instr.lookup 101 (.map (some (b+3))) (.string x) false).run Tryz.prog W2=.ok (.int .i64 ((cn:Int)+1)) W2:=by
  have:=run_lookup Tryz.ES Tryz.uMapSI B2 (Tryz.zeroI W2) x.data.toList false
  rw[hes2,entGet_put,if_pos rfl]at this
  exact this
 have K2:Keeps (fun z=>z=b+3) W W2:=by rw[hW2];exact Keeps.onePut _ _ _
 have q9:W.cell? ⟨b+4,0,none⟩=some (.map (some (b+3))):=hM.c9.cell (i:=0) (by rfl)
 have E2:Ext w0 W2:=hM.ext.trans' K2 (fun y hy e=>by have e:y=_:=e;have:=hM.lo;omega)
 have C9:=hM.c9.keeps K2 (by omega)
 have q92:W2.cell? ⟨b+4,0,none⟩=some (.map (some (b+3))):=C9.cell (i:=0) (by rfl)
 have C3:=hM.c3.keeps K2 (by omega)
 have q32:W2.cell? ⟨b,0,none⟩=some (.pointer (some ⟨s,0,none⟩)):=C3.cell (i:=0) (by rfl)
 have C5:=hM.c5.keeps K2 (by omega)
 have V2:=h1.keeps K2 (by omega)
 have O2:=own_keeps h2 K2 (fun z hz e=>by have:=h4 z hz;have e:z=_:=e;omega)
 have hV2:W2.cell? ⟨b+2,0,none⟩=some (.slice ad n cp):=V2.cell (i:=0) (by rfl)
 have hV2f:W2.frozen? ⟨b+2,0,none⟩=false:=V2.frozen
 have qs:=(h.st.keeps E2 (fun g=>g)).cell (i:=1) (v:=.map (some bm)) (by rfl)
 have hlks:=(h.mp.ext E2).look x false
 simp only[Bool.false_eq_true,if_false]at hlks
 have HMEM:=Hd (show memB (firsts M) x=true↔cn≠0 from by
  rw[memB_iff,firsts_mem,hcn]
  unfold cntB
  rw[←Nat.pos_iff_ne_zero,List.count_pos_iff,List.mem_map]
  exact⟨fun hm=>⟨x,hm,rfl⟩,fun ⟨y,hy,e⟩=>by rw[←show y=x from ByteArray.ext (Array.ext' e)];exact hy⟩)
 have HFS:=Hd (frK_step S M x)
 have HTAB:=Hd (show ∃ es ck,Blk W2 (b+3) (.map (Tryz.ES.arr es) ck)∧∀ y:ByteArray,entGet es y.data.toList=cntV (cntB (M++[x]) y)from⟨es2,ck2,B2,e7⟩)
 have HGM:=Hd (show ∀ W3:World,Ext w0 W3→MapAt W3 bg G from fun _ e=>hG.ext e)
 obtain⟨ok,hok⟩:∃ ok,ok=okM S G M x:=⟨_,rfl⟩
 rw[←hok]
 have HOK:=Hd hok
 clear hok
 have HK2:=Hd K2
 have HC3:=Hd C3
 have HC5:=Hd C5
 have HC9:=Hd C9
 have HV2:=Hd V2
 have HO2:=Hd O2
 have HE2:=Hd E2
 have H4:=Hd h4
 have H3:=Hd h3
 have HLO:=Hd hM.lo
 have HEND:=Hd (show frK S (M++[x])=frK S M→Meet w0 s S bg b (M++[x]) W2 from fun e=>⟨E2,hM.lo,C3,C5,C9,⟨es2,ck2,B2,e7⟩,_,n,V2,by rw[e];exact O2,by rw[List.length_append];omega,h4⟩)
 clear hM h h1 h2 h4 h5 h6 hcn e6 hes2 hck2 hW2 B2 e7 K2 C3 C5 C9 V2 O2 E2 hG
 by_cases hc0:cn=0
 ·subst hc0
  have hnm:memB (firsts M) x=false:=by
   cases hm:memB (firsts M) x with
   | false=>rfl
   | true=>exact absurd rfl (HMEM.out.1 hm)
  have HNM:=Hd hnm
  have hlk':(Instr.lookup 101 (.map (some (b+3))) (.string x) false).run Tryz.prog W=.ok (.int .i64 0) W:=hlk
  have hmu':(Instr.mapUpdate 101 (.map (some (b+3))) (.string x) (.int .i64 1)).run Tryz.prog W=.ok () W2:=hmu
  have hlk2':(Instr.lookup 101 (.map (some (b+3))) (.string x) false).run Tryz.prog W2=.ok (.int .i64 1) W2:=hlk2
  clear hnm hlk hmu hlk2
  cases hs:atL S x.data.toList with
  | some y =>
   rw[hs]at hlks
   unfold ptrO at hlks
   simp only at hlks
   have HFE:=Hd (show frK S (M++[x])=frK S M by rw[HFS.out,HNM.out,hs];rfl)
   have hok:ok=true:=by rw[HOK.out];unfold okM;rw[hs];simp
   subst hok
   clear hs HOK
   go_enter Tryz.func125,Tryz.ntmps125
   go_wp2_with fail
   go_ret
   exact⟨rfl,HEND.out HFE.out⟩
  | none =>
   rw[hs]at hlks
   unfold ptrO at hlks
   simp only at hlks
   have HFE:=Hd (show frK S (M++[x])=frK S M++[x] by rw[HFS.out,HNM.out,hs];rfl)
   have hok:ok=(atL G x.data.toList).isSome:=by rw[HOK.out];unfold okM;rw[hs,HNM.out];simp
   have HOK2:=Hd hok
   clear hs HOK hok
   have hm1:n+1≤maxLen:=by have:=H3.out;unfold maxLen;omega
   have hm2:(n+1) * 16≤140737488355328:=by have:=H3.out;omega
   cases hyg:atL G x.data.toList with
   | some yg =>
    have HGY:=Hd hyg
    have hok:ok=true:=by rw[HOK2.out,hyg];rfl
    subst hok
    clear hyg HOK2
    go_enter Tryz.func125,Tryz.ntmps125
    obtain⟨i0,hi,hz0,hz1,hz2⟩:=info_parts Tryz.infoStr
    go_wp2_with (at_builtin;refine wpList_append_any _ rfl (.tmp 24) (.tmp 26) 34 rfl 9 i0 _ 1 16 Tryz.uStrs hi hz0 hz1 hz2 rfl (by decide) (.slice ad n cp) n _ rfl (own_ext HO2.out ((ExtR W2).alloc _)) ⟨W2.heap.size,0,none⟩ 1 1 [.string x] rfl rfl (news_blk (Blk.new W2 _)) (by simp[Value.oneCell']) hm1 hm2 ?_;intro v' w6 r1 r2 r3;obtain⟨ad',cp',rfl⟩:=row_slice r1;have K6:Keeps (fun z=>(Value.slice ad n cp).ownBlock=some z) W2 w6:=((Keeps.refl _ W2).alloc _).trans r2;have nO:∀ z,z < b+5→¬(Value.slice ad n cp).ownBlock=some z:=(fun z hz e=>by have:=H4.out z e;omega);have hV6:=HV2.out.keeps K6 (nO _ (by omega));have q56:w6.cell? ⟨b+2,0,none⟩=some (.slice ad n cp):=hV6.cell (i:=0) (by rfl);have f56:w6.frozen? ⟨b+2,0,none⟩=false:=hV6.frozen;have K7:Keeps (fun z=>z=b+2) w6 (w6.setCell ⟨b+2,0,none⟩ (.slice ad' (n+1) cp')):=Keeps.oneSet w6 ⟨b+2,0,none⟩ _;have C57:=(HC5.out.keeps K6 (nO _ (by omega))).keeps K7 (by omega);have q57:=C57.cell (i:=0) (v:=.map (some bg)) (by rfl);have E7:Ext w0 (w6.setCell ⟨b+2,0,none⟩ (.slice ad' (n+1) cp')):=(HE2.out.trans' K6 (fun y hy e=>by have:=H4.out y e;have:=HLO.out;omega)).trans' K7 (fun y hy e=>by have e:y=_:=e;have:=HLO.out;omega);have hlkg:=(HGM.out _ E7).look x false;rw[HGY.out]at hlkg;unfold ptrO at hlkg;simp only[Bool.false_eq_true,if_false]at hlkg)
    go_ret
    refine⟨rfl,E7,HLO.out,(HC3.out.keeps K6 (nO _ (by omega))).keeps K7 (by omega),C57,(HC9.out.keeps K6 (nO _ (by omega))).keeps K7 (by omega),?_,.slice ad' (n+1) cp',n+1,hV6.set_same (i:=0) _,?_,?_,?_⟩
    ·obtain⟨es3,ck3,hT1,hT2⟩:=HTAB.out
     exact⟨es3,ck3,(hT1.keeps K6 (nO _ (by omega))).keeps K7 (by omega),hT2⟩
    ·rw[HFE.out,List.map_append]
     refine own_keeps r1 K7 (fun z hz e=>?_)
     have e:z=b+2:=e
     rcases r3 with r3 | r3
     ·have:=H4.out z (r3 ▸ hz);omega
     ·have h9:=r3 z hz;rw[World.size_alloc]at h9;have:=HV2.out.lt;omega
    ·have:=H3.out;rw[List.length_append];exact Nat.succ_le_succ this
    ·intro z hz
     rcases r3 with r3 | r3
     ·exact H4.out z (r3 ▸ hz)
     ·have h9:=r3 z hz;rw[World.size_alloc]at h9;have:=HC9.out.lt;omega
   | none =>
    have HGY:=Hd hyg
    have hok:ok=false:=by rw[HOK2.out,hyg];rfl
    subst hok
    clear hyg HOK2
    go_enter Tryz.func125,Tryz.ntmps125
    obtain⟨i0,hi,hz0,hz1,hz2⟩:=info_parts Tryz.infoStr
    go_wp2_with (at_builtin;refine wpList_append_any _ rfl (.tmp 24) (.tmp 26) 34 rfl 9 i0 _ 1 16 Tryz.uStrs hi hz0 hz1 hz2 rfl (by decide) (.slice ad n cp) n _ rfl (own_ext HO2.out ((ExtR W2).alloc _)) ⟨W2.heap.size,0,none⟩ 1 1 [.string x] rfl rfl (news_blk (Blk.new W2 _)) (by simp[Value.oneCell']) hm1 hm2 ?_;intro v' w6 r1 r2 r3;obtain⟨ad',cp',rfl⟩:=row_slice r1;have K6:Keeps (fun z=>(Value.slice ad n cp).ownBlock=some z) W2 w6:=((Keeps.refl _ W2).alloc _).trans r2;have nO:∀ z,z < b+5→¬(Value.slice ad n cp).ownBlock=some z:=(fun z hz e=>by have:=H4.out z e;omega);have hV6:=HV2.out.keeps K6 (nO _ (by omega));have q56:w6.cell? ⟨b+2,0,none⟩=some (.slice ad n cp):=hV6.cell (i:=0) (by rfl);have f56:w6.frozen? ⟨b+2,0,none⟩=false:=hV6.frozen;have K7:Keeps (fun z=>z=b+2) w6 (w6.setCell ⟨b+2,0,none⟩ (.slice ad' (n+1) cp')):=Keeps.oneSet w6 ⟨b+2,0,none⟩ _;have C57:=(HC5.out.keeps K6 (nO _ (by omega))).keeps K7 (by omega);have q57:=C57.cell (i:=0) (v:=.map (some bg)) (by rfl);have E7:Ext w0 (w6.setCell ⟨b+2,0,none⟩ (.slice ad' (n+1) cp')):=(HE2.out.trans' K6 (fun y hy e=>by have:=H4.out y e;have:=HLO.out;omega)).trans' K7 (fun y hy e=>by have e:y=_:=e;have:=HLO.out;omega);have hlkg:=(HGM.out _ E7).look x false;rw[HGY.out]at hlkg;unfold ptrO at hlkg;simp only[Bool.false_eq_true,if_false]at hlkg)
    go_ret
    refine⟨rfl,E7,HLO.out,(HC3.out.keeps K6 (nO _ (by omega))).keeps K7 (by omega),C57,(HC9.out.keeps K6 (nO _ (by omega))).keeps K7 (by omega),?_,.slice ad' (n+1) cp',n+1,hV6.set_same (i:=0) _,?_,?_,?_⟩
    ·obtain⟨es3,ck3,hT1,hT2⟩:=HTAB.out
     exact⟨es3,ck3,(hT1.keeps K6 (nO _ (by omega))).keeps K7 (by omega),hT2⟩
    ·rw[HFE.out,List.map_append]
     refine own_keeps r1 K7 (fun z hz e=>?_)
     have e:z=b+2:=e
     rcases r3 with r3 | r3
     ·have:=H4.out z (r3 ▸ hz);omega
     ·have h9:=r3 z hz;rw[World.size_alloc]at h9;have:=HV2.out.lt;omega
    ·have:=H3.out;rw[List.length_append];exact Nat.succ_le_succ this
    ·intro z hz
     rcases r3 with r3 | r3
     ·exact H4.out z (r3 ▸ hz)
     ·have h9:=r3 z hz;rw[World.size_alloc]at h9;have:=HC9.out.lt;omega
 ·have hc1:¬((cn:Int)+1≤1):=by omega
  have HFE:=Hd (show frK S (M++[x])=frK S M by rw[HFS.out,HMEM.out.2 hc0];rfl)
  have hok:ok=true:=by rw[HOK.out];unfold okM;rw[HMEM.out.2 hc0];simp
  subst hok
  clear HOK
  go_enter Tryz.func125,Tryz.ntmps125
  go_wp2_with fail
  go_ret
  exact⟨rfl,HEND.out HFE.out⟩
structure Fair(G:List Nd5):Prop where
 few:G.length≤1000
 refs:∀ y∈G,y.2.2.refs.length≤16
def has2(S G:List Nd5)(x:ByteArray):Prop:=(atL S x.data.toList).isSome=true∨(atL G x.data.toList).isSome=true
structure Path2(S G:List Nd5)(root:ByteArray)(M:List ByteArray)(i:Nat):Prop where
 is:M=root ::((frK S M).take i).flatMap (refsO G)
 le:i≤(frK S M).length
 inG:∀ x∈M,has2 S G x
theorem flatG_len2{G:List Nd5}(h:Fair G):∀ l:List ByteArray,(l.flatMap (refsO G)).length≤16 * l.length
 | []=>by simp
 | x :: r=>by
  have ih:=flatG_len2 h r
  have:(refsO G x).length≤16:=by
   unfold refsO
   split
   ·rename_i y hy;exact h.refs y (atL_mem hy).1
   ·simp
  rw[List.flatMap_cons,List.length_append,List.length_cons];omega
theorem Path2.len{S G:List Nd5}{root:ByteArray}{M:List ByteArray}{i:Nat}(h:Path2 S G root M i)(hs:Fair G):M.length≤1+16 * i:=by
 have:=flatG_len2 hs ((frK S M).take i)
 rw[List.length_take]at this
 have h2:=congrArg List.length h.is
 rw[List.length_cons]at h2
 omega
theorem Path2.at'{S G:List Nd5}{root:ByteArray}{M:List ByteArray}{i:Nat}(h:Path2 S G root M i){x:ByteArray}(hx:x∈frK S M):(atL G x.data.toList).isSome=true:=by
 have hm:=frK_mem.1 hx
 rcases h.inG x hm.1 with h | h
 ·rw[hm.2]at h;cases h
 ·exact h
theorem frK_len2{S G:List Nd5}{M:List ByteArray}(h:∀ x∈frK S M,(atL G x.data.toList).isSome=true):(frK S M).length≤G.length:=by
 have h1:((frK S M).map fun x=>x.data.toList).Nodup:=by
  have:=frK_nodup S M
  generalize frK S M=l at this
  induction l with
  | nil=>simp
  | cons z r ih =>
   rw[List.nodup_cons]at this
   rw[List.map_cons,List.nodup_cons]
   exact⟨fun hm=>by obtain⟨y,hy,e⟩:=List.mem_map.1 hm;exact this.1 (ba_data e ▸ hy),ih this.2⟩
 have:=List.Nodup.length_le_of_subset h1 (l₂:=G.map (·.1)) (fun k hk=>by
  obtain⟨x,hx,e⟩:=List.mem_map.1 hk
  obtain⟨y,hy⟩:=Option.isSome_iff_exists.1 (h x hx)
  exact List.mem_map.2 ⟨y,(atL_mem hy).1,by rw[(atL_mem hy).2,e]⟩)
 simpa using this
theorem Path2.step{S G:List Nd5}{root:ByteArray}{M:List ByteArray}{i:Nat}(h:Path2 S G root M i){x:ByteArray}(hx:(frK S M)[i]?=some x)(hr:∀ r∈refsO G x,has2 S G r):Path2 S G root (M++refsO G x) (i+1):=by
 obtain⟨X,hX⟩:=frK_grow S M (refsO G x)
 have hlt:i < (frK S M).length:=(List.getElem?_eq_some_iff.1 hx).1
 refine⟨?_,?_,?_⟩
 ·have e:(frK S (M++refsO G x)).take (i+1)=(frK S M).take i++[x]:=by
   rw[hX,List.take_append_of_le_length (by omega),List.take_add_one,hx];rfl
  rw[e,List.flatMap_append]
  have:=h.is
  generalize frK S M=l at this
  rw[this]
  simp
 ·rw[hX,List.length_append];omega
 ·intro y hy
  rcases List.mem_append.1 hy with hy | hy
  ·exact h.inG y hy
  ·exact hr y hy
theorem ok_has{S G:List Nd5}{M:List ByteArray}{x:ByteArray}(h:okM S G M x=true)(hM:∀ y∈M,has2 S G y):has2 S G x:=by
 unfold okM at h
 simp only[Bool.or_eq_true]at h
 rcases h with (h | h) | h
 ·exact hM x ((firsts_mem _ _).1 ((memB_iff _ _).1 h))
 ·exact .inl h
 ·exact .inr h
theorem not_has{S G:List Nd5}{M:List ByteArray}{x:ByteArray}(h:okM S G M x=false):¬ has2 S G x:=by
 unfold okM at h
 simp only[Bool.or_eq_false_iff]at h
 rintro (e | e)
 ·rw[h.1.2]at e;cases e
 ·rw[h.2]at e;cases e
def RhRelA(w0:World)(s:Nat)(S G:List Nd5)(bg b:Nat)(root:ByteArray)(wv iv:Value)(W:World):Prop:=wv=.bool true∧∃ (i:Nat) (M:List ByteArray),iv=.int .i64 i∧Path2 S G root M i∧Meet w0 s S bg b M W
def RhRelA2(w0:World)(s:Nat)(S G:List Nd5)(bg b:Nat)(M R:List ByteArray)(wv jv:Value)(W:World):Prop:=wv=.bool true∧∃ j:Nat,jv=.int .i64 j∧j≤R.length∧Meet w0 s S bg b (M++R.take j) W∧∀ r∈R.take j,has2 S G r
def RhP(w0:World)(S G:List Nd5)(root:ByteArray)(e:Ending)(w':World):Prop:=(e=.returned (.tuple #[.slice none 0 0,.int .i64 2])∧Ext w0 w'∧∃ x r,r∈refsO G x∧¬ has2 S G r)∨∃ v n M,e=.returned (.tuple #[v,.int .i64 0])∧Path2 S G root M (frK S M).length∧SRow w0 w' v n (frK S M)
theorem reached_any(w0:World)(s bm:Nat)(room:Int)(S G:List Nd5)(bg:Nat)(h:StoreAt w0 s bm room S)(hG:MapAt w0 bg G)(hs:Fair G)(root:ByteArray)(hr:(atL G root.data.toList).isSome=true) :
  Calls Tryz.prog 73 #[.pointer (some ⟨s,0,none⟩),.string root,.map (some bg)] w0 (RhP w0 S G root):=by
 have HS:=Hd h
 have HG:=Hd hG
 have HSH:=Hd hs
 have HR:=Hd hr
 have hmm:=Tryz.makeMapSI
 clear h hG hs hr
 go_enter Tryz.func73,Tryz.ntmps73
 go_wp2_with fail
 go_step3
 go_wp2_with fail
 refine (meet_any w0 s bm room S G bg w0.heap.size HS.out HG.out _ [] (meet_init w0 s S bg) root (by simp)).mono ?_
 rintro e w5 ⟨rfl,hM⟩
 rw[show okM S G [] root=true by unfold okM;rw[HR.out];simp]
 have HM:=Hd hM
 clear hM hmm
 obtain⟨b,hb⟩:∃ b,b=w0.heap.size:=⟨_,rfl⟩
 rw[show w0.heap.size+1+1+1+1=w0.heap.size+4 from rfl,show w0.heap.size+1+1+1=w0.heap.size+3 from rfl,show w0.heap.size+1+1=w0.heap.size+2 from rfl]
 rw[←hb]at HM ⊢
 clear hb
 go_wp2_with fail
 go_step3
 go_wp2_with fail
 go_loopw [11,12] (fun wv iv wr=>RhRelA w0 s S G bg b root wv iv wr) (fun _ iv _=>1001 - (intOf iv).toNat)
 case atStart =>
  refine⟨rfl,0,[root],rfl,⟨by simp,Nat.zero_le _,fun x hx=>by simp at hx;subst hx;exact .inr HR.out⟩,HM.out⟩
 case round =>
  obtain⟨rfl,i,M,rfl,hP,hM⟩:=hrel
  obtain⟨v,n,h1,h2,h3,h4⟩:=hM.var
  obtain⟨ad,cp,rfl⟩:=row_slice h2
  have hn:(frK S M).length=n:=by have:=h2.1;simpa using this
  have hfl:=frK_len2 (S:=S) (M:=M) (fun x hx=>hP.at' hx)
  have hfew:=HSH.out.few
  have q8:=h1.cell (i:=0) (v:=.slice ad n cp) (by rfl)
  have hile:=hP.le
  by_cases hlt:i < n
  ·have b1:(i:Int) < (n:Int):=by omega
   obtain⟨x,hx⟩:∃ x,(frK S M)[i]?=some x:=⟨_,List.getElem?_eq_getElem (by omega)⟩
   obtain⟨ax,cx,hh,hcell⟩:=(own_rd h2).slice
   obtain⟨ba,oa,hao,hqa⟩:=hcell i x hx
   subst hao
   cases hh
   obtain⟨y,hy⟩:=Option.isSome_iff_exists.1 (hP.at' (List.mem_of_getElem? hx))
   have hI:=HG.out.items y (atL_mem hy).1
   have hro:=refsO_some hy
   have h16:=HSH.out.refs y (atL_mem hy).1
   obtain⟨rv,hIb,hIr⟩:=hI.cells
   obtain⟨ar,cr,rfl⟩:=row_slice hIr
   obtain⟨R,hR⟩:∃ R,R=y.2.2.refs:=⟨_,rfl⟩
   have Q5:=Hd (hM.c5.cell (i:=0) (v:=.map (some bg)) (by rfl))
   have Q8:=Hd q8
   have QA:=Hd hqa
   have QR:=Hd ((hIb.keeps hM.ext (fun g=>g)).cell (i:=1) (v:=.slice ar y.2.2.refs.length cr) (by rfl))
   have HMG:=Hd (HG.out.ext hM.ext)
   have HY:=Hd hy
   have HPS:=Hd (fun hr=>hP.step hx hr)
   have HIN:=Hd hP.inG
   have HPL:=Hd (hP.len HSH.out)
   have HRR:=Hd (own_rd hIr)
   have HM2:=Hd hM
   rw[hro, ←hR]at HPS
   rw[←hR]at QR HRR h16
   have HXR:=Hd (show R=refsO G x by rw[hR,hro])
   have hi1000:i≤1000:=by omega
   obtain⟨yb,hyb⟩:∃ yb,yb=y.2.1:=⟨_,rfl⟩
   rw[←hyb]at QR
   have HYB:=Hd hyb
   clear hro hR hyb hIr hIb hI hy hx hcell hqa h1 h2 hP hM hn hfl hile
   go_wp2_with fail
   refine wp_region_mixK [0,1,2,3,4,5,6,7,8,9,10] Ext ExtR ExtT (by kernel_rfl) (by kernel_rfl) (by kernel_rfl) ?_
   refine mixk_load ⟨b+1,0,none⟩ _ rfl (by kernel_rfl) rfl rfl (fun w1 h1=>run_load_plain Tryz.underlying109 rfl (cell_ext Q5.out ((drewE _).trans h1))) ?_
   simp only[Act.put,sA,sB,sC]
   refine mixk_load ⟨b+2,0,none⟩ _ rfl (by kernel_rfl) rfl rfl (fun w1 h1=>run_load_plain Tryz.underlying34 rfl (cell_ext Q8.out ((drewE _).trans h1))) ?_
   simp only[Act.put,sA,sB,sC]
   iterate 2 (refine mixk_pure _ rfl (by kernel_rfl) rfl rfl (fun K hK=>?_);go_big_quiet_op;refine hK _ ?_;clear hK K)
   refine mixk_load ⟨ba,oa+i,none⟩ _ rfl (by kernel_rfl) rfl rfl (fun w1 h1=>run_load_plain Tryz.underlying9 rfl (cell_ext QA.out ((drewE _).trans h1))) ?_
   simp only[Act.put,sA,sB,sC]
   refine mixk_val _ (.pointer (some ⟨yb,0,none⟩)) rfl (by kernel_rfl) rfl (fun w1 h1=>by
    have hx:=(HMG.out.ext ((drewE _).trans h1)).look x false
    rw[HY.out]at hx
    unfold ptrO at hx
    simp only[Bool.false_eq_true,if_false]at hx
    rw[←HYB.out]at hx
    simp[execOp,Act.eval,hx,Sem.run_bind,Result.andThen,Sem.run_pure]) ?_
   simp only[Act.put,sA,sB,sC]
   refine mixk_val _ (.pointer (some ⟨yb,0,none⟩)) rfl (by kernel_rfl) rfl (fun w1 _=>by kernel_rfl) ?_
   simp only[Act.put,sA,sB,sC]
   (refine mixk_pure _ rfl (by kernel_rfl) rfl rfl (fun K hK=>?_);go_big_quiet_op;refine hK _ ?_;clear hK K)
   refine mixk_load ⟨yb,1,none⟩ _ rfl (by kernel_rfl) rfl rfl (fun w1 h1=>run_load_plain Tryz.underlying34 rfl (cell_ext QR.out ((drewE _).trans h1))) ?_
   simp only[Act.put,sA,sB,sC]
   iterate 2 (refine mixk_pure _ rfl (by kernel_rfl) rfl rfl (fun K hK=>?_);go_big_quiet_op;refine hK _ ?_;clear hK K)
   refine mixk_end (by kernel_rfl) (fun w3 he=>?_)
   have HM3:=Hd (HM2.out.keeps ((drewE _).trans he))
   clear he HM2 Q5 Q8 QA QR HMG HY q8
   go_wp2_with fail
   go_loopw [11,36] (fun wv jv wr2=>RhRelA2 w0 s S G bg b M R wv jv wr2) (fun _ jv _=>R.length - (intOf jv).toNat)
   case atStart=>exact⟨rfl,0,rfl,Nat.zero_le _,by rw[List.take_zero,List.append_nil];exact HM3.out,fun r hr=>by cases hr⟩
   case round =>
    obtain⟨rfl,j,rfl,hj,hM',hin⟩:=hrel
    have HINR:=Hd hin
    clear hin
    by_cases hlt2:j < R.length
    ·have b2:(j:Int) < (R.length:Int):=by omega
     obtain⟨z,hz⟩:∃ z,R[j]?=some z:=⟨_,List.getElem?_eq_getElem hlt2⟩
     obtain⟨ax2,cx2,hh2,hcell2⟩:=HRR.out.slice
     obtain⟨ba2,oa2,hao2,hqa2⟩:=hcell2 j z hz
     subst hao2
     cases hh2
     have q2:=cell_ext hqa2 hM'.ext
     have HZR:=Hd hz
     have HT:=Hd (show M++R.take (j+1)=M++R.take j++[z] by rw[List.take_add_one,hz, ←List.append_assoc];rfl)
     have HL:=Hd (show (M++R.take j).length≤1000000 by have:=HPL.out;rw[List.length_append,List.length_take];omega)
     have HMJ:=Hd hM'
     clear hcell2 hqa2 hM' hz
     go_wp2_with fail
     refine (meet_any w0 s bm room S G bg b HS.out HG.out _ _ HMJ.out z HL.out).mono ?_
     rintro e w9 ⟨rfl,hM9⟩
     rw[←HT.out]at hM9
     have HM9:=Hd hM9
     obtain⟨ok,hok⟩:∃ ok,ok=okM S G (M++R.take j) z:=⟨_,rfl⟩
     rw[←hok]
     have HOK:=Hd hok
     clear hM9 HMJ q2 hok
     cases ok with
     | false =>
      go_wp2_with fail
      go_ret2
      exact .inl ⟨rfl,HM9.out.ext,x,z,by rw[←HXR.out];exact List.mem_of_getElem? HZR.out,not_has HOK.out.symm⟩
     | true =>
     go_wp2_with fail
     go_roundw
     case rel =>
      refine⟨rfl,j+1,by go_num,by omega,HM9.out,take_all HINR.out HZR.out (ok_has HOK.out.symm fun y hy=>?_)⟩
      rcases List.mem_append.1 hy with hy | hy
      ·exact HIN.out y hy
      ·exact HINR.out y hy
     case measure=>simp[intOf];omega
    ·have hje:j=R.length:=by omega
     subst hje
     rw[List.take_length]at hM'
     have HM9:=Hd hM'
     clear hM'
     go_wp2_with fail
     go_roundw
     case rel=>exact⟨rfl,i+1,M++R,by go_num,HPS.out (by have h:=HINR.out;rwa [List.take_length]at h),HM9.out⟩
     case measure=>simp[intOf];omega
  ·have hie:i=(frK S M).length:=by omega
   have HP:=Hd (show Path2 S G root M (frK S M).length by rw[←hie];exact hP)
   have HRW:=Hd (show SRow w0 wr (.slice ad n cp) n (frK S M)from⟨⟨_,_,rfl⟩,h2,hM.ext,fun z hz=>by have:=h4 z hz;have:=hM.lo;omega⟩)
   have b1:¬(i:Int) < (n:Int):=by omega
   clear hie hP hM h1 h2 h4 hn hfl hile
   go_wp2_with fail
   go_ret2
   exact .inr ⟨.slice ad n cp,n,M,rfl,HP.out,HRW.out⟩
theorem given_fair{L:List ByteArray}{G:List Nd5}(h:G.map kvI=readG L)(hL:∀ t∈L,∃ n,IsNode t n)(hl:L.length≤1000):Fair G:=by
 refine⟨?_,fun y hy=>?_⟩
 ·have:=(readG_all L).2.2
  rw[←h,List.length_map]at this
  exact Nat.le_trans this hl
 ·obtain⟨t,ht,_,e⟩:=given_is h hy
  rw[e]
  obtain⟨n,hn⟩:=hL t ht
  exact hashesT_len (nodeOf_is hn)
theorem s1_has2{S G:List Nd5}{root:ByteArray}{M:List ByteArray}{i:Nat}(h:Path2 S G root M i){r:ByteArray}(hr:r∈M):(atL (S++picks G (frK S M)) r.data.toList).isSome=true:=by
 rw[atL_or]
 cases hs:atL S r.data.toList with
 | some y=>rfl
 | none =>
  obtain⟨y,hy⟩:=Option.isSome_iff_exists.1 (h.at' (frK_mem.2 ⟨hr,hs⟩))
  have hm:y∈picks G (frK S M):=List.mem_filterMap.2 ⟨r,frK_mem.2 ⟨hr,hs⟩,hy⟩
  cases hp:atL (picks G (frK S M)) r.data.toList with
  | some z=>rfl
  | none=>exact absurd (atL_mem hy).2.symm (atL_none.1 hp y hm)
structure AddY(w:World)(s bm:Nat)(room:Int)(S:List Nd5)(L:List ByteArray)(top:ByteArray)(G:List Nd5)(M:List ByteArray)(e:Ending)(w':World):Prop where
 given:G.map kvI=readG L
 nodes:∀ t∈L,∃ n,IsNode t n
 news:∀ y∈G,w.heap.size≤y.2.1
 path:Path2 S G (shaB top) M (frK S M).length
 fits:¬ room - S.length < (frK S M).length
 res:e=.returned (.tuple #[.string (shaB top),.int .i64 0])
 st:StoreAt w' s bm room (bumpH (shaB top).data.toList (bumps ((frK S M).flatMap (refsO G)) (S++picks G (frK S M))))
 kp:Keeps (fun z=>z=bm∨z∈S.map (·.2.1)) w w'
 rk:RK w w'
 rows:RowsN w w' G
def AddWhy(Q:Prop)(room:Int)(S:List Nd5)(L:List ByteArray)(k:Int):Prop:=(k=2∧Q)∨(k=2∧∃ G,G.map kvI=readG L∧∃ x r,r∈refsO G x∧¬ has2 S G r)∨(k=3∧∃ top G M,L[0]?=some top∧G.map kvI=readG L∧Path2 S G (shaB top) M (frK S M).length∧room - S.length < (frK S M).length)
def AddGen(Q:Prop)(w:World)(s bm:Nat)(room:Int)(S:List Nd5)(L:List ByteArray)(e:Ending)(w':World):Prop:=(∃ k:Int,AddWhy Q room S L k∧k≠0∧e=.returned (.tuple #[.string ⟨#[]⟩,.int .i64 k])∧Ext w w')∨∃ top G M,L[0]?=some top∧AddY w s bm room S L top G M e w'
theorem add_gen(w:World)(hc:Cubes w)(hGE:ErrT w)(s bm:Nat)(room:Int)(S:List Nd5)(h:StoreAt w s bm room S)(v:Value)(L:List ByteArray)(hv:RdS w v L)(Q:Prop)(hL:AnyQ Q L)(hll:L.length≤1000)(top:ByteArray)(htop:L[0]?=some top)(hr0:0≤room)(hr1:room≤9223372036854775807)(hS:S.length≤100000)(hSu:∀ x∈S,0≤x.2.2.used∧x.2.2.used≤1000000000)(hSh:∀ x∈S,0≤x.2.2.held∧x.2.2.held≤1000000000) :
  Calls Tryz.prog 27 #[.pointer (some ⟨s,0,none⟩),v] w (AddGen Q w s bm room S L):=by
 have h0:L≠[]:=fun e=>by subst e;cases htop
 have hpos:0 < L.length:=List.length_pos_iff.2 h0
 obtain⟨a,c,rfl,_⟩:=hv.slice
 have HR:=Hd (sread_any w hc hGE _ L hv hll h0 Q hL)
 have HC:=Hd hc
 have HV:=Hd hv
 have HL:=Hd hL
 have HS:=Hd h
 have HTOP:=Hd htop
 have HSU:=Hd hSu
 have HSHD:=Hd hSh
 clear hc h hv hL htop h0 hSu hSh
 go_enter Tryz.func27,Tryz.ntmps27
 go_wp2_with fail
 refine HR.out.mono ?_
 rintro e w1 (⟨rfl,hE,hq⟩ |⟨hnode,bg,G,rfl,hG,hrn⟩)
 ·have HE:=Hd hE
  have HQ:=Hd hq
  clear hE HR hq
  go_wp2_with fail
  go_ret2
  exact .inl ⟨2,.inl ⟨rfl,HQ.out⟩,by decide,rfl,HE.out⟩
 have HND0:=Hd hnode
 have HRN:=Hd hrn
 have HGI:=Hd (show ∀ x∈G,x.2.1 < w1.heap.size from fun x hx=>(hG.at'.items x hx).lt)
 have HG1:=Hd hG.ext
 clear hnode hrn
 obtain⟨ax,cx,hh,hcell⟩:=HV.out.slice
 obtain⟨ba,oa,hao,hqa⟩:=hcell 0 top HTOP.out
 subst hao
 cases hh
 have q1:=cell_ext hqa hG.ext
 have HG:=Hd hG
 rw[Nat.add_zero]at q1
 clear hcell hqa hG HR
 go_wp2_with fail
 refine (of_t _ _ [top] (by simp) (rds_lit w1 [top] 9) (HC.out.ext (HG.out.ext.alloc _))).mono ?_
 rintro e w2 ⟨rfl,hE⟩
 rw[catB_one]
 have hx2:=((ExtR w1).alloc (.cells #[.string top] 9)).trans hE
 have HG2:=Hd (HG.out.keeps hx2)
 have HX2:=Hd hx2
 obtain⟨rt,hrt⟩:∃ rt,rt=shaB top:=⟨_,rfl⟩
 have HRT:=Hd hrt
 have HTG:=Hd (show (atL G rt.data.toList).isSome=true by rw[hrt];exact given_has HG.out.is (List.mem_of_getElem? HTOP.out))
 rw[←hrt]
 clear hE hx2 hrt q1
 go_wp2_with fail
 have HSH:=Hd (given_fair HG2.out.is HND0.out hll)
 have HS2:=Hd (HS.out.ext HG2.out.ext)
 refine (reached_any w2 s bm room S G bg HS2.out HG2.out.at' HSH.out rt HTG.out).mono ?_
 rintro e w3 (⟨rfl,hE,hno⟩ |⟨v3,n,M,rfl,hP,hF⟩)
 ·have HE:=Hd (HG2.out.ext.trans hE)
  have HNO:=Hd hno
  clear hE hno
  go_wp2_with fail
  go_ret2
  exact .inl ⟨2,.inr (.inl ⟨rfl,G,HG2.out.is,HNO.out⟩),by decide,rfl,HE.out⟩
 have hlen:=frK_len2 (S:=S) (M:=M) (fun x hx=>hP.at' hx)
 have hfew:=HSH.out.few
 have hn:(frK S M).length=n:=by have:=hF.len;simpa using this
 obtain⟨ad,cp,rfl⟩:=hF.sl
 have HP:=Hd hP
 have HF:=Hd hF
 obtain⟨F,hFe⟩:∃ F,F=frK S M:=⟨_,rfl⟩
 rw[←hFe]at HF hn hlen
 have HFE:=Hd hFe
 have HGX:=Hd (HG2.out.keeps hF.ext)
 have HSX:=Hd (HS2.out.ext hF.ext)
 clear hP hF hFe
 go_wp2_with fail
 refine (sroom_c w3 s bm room S HSX.out hr0 hr1 (by omega)).mono ?_
 rintro e w4 ⟨rfl,hE⟩
 obtain⟨m,hm⟩:∃ m,m=room - (S.length:Int):=⟨_,rfl⟩
 rw[←hm]
 have HM:=Hd hm
 have HE4:=Hd hE
 clear hE hm
 by_cases hfull:m < (n:Int)
 ·go_wp2_with fail
  go_ret2
  exact .inl ⟨3,.inr (.inr ⟨rfl,top,G,M,HTOP.out,HG2.out.is,by rw[←HRT.out];exact HP.out,by rw[←HFE.out,hn, ←HM.out];exact hfull⟩),by decide,rfl,(HG2.out.ext.trans HF.out.ext).trans HE4.out⟩
 ·have HRK4:=Hd (show RK w1 w4 from(((RK.refl w1).ext HX2.out).ext HF.out.ext).ext HE4.out)
  have hA0:Ad1 w4 s bm bg room S G F (.slice ad n cp) 0 w4:=⟨Keeps.refl _ _,by rw[List.take_zero];show StoreAt w4 s bm room (S++[]);rw[List.append_nil];exact HSX.out.ext HE4.out,HGX.out.at'.ext HE4.out,by rw[hn];exact own_ext HF.out.own HE4.out⟩
  have HA0:=Hd hA0
  have hbm:=HS.out.mp.mp
  obtain⟨_,_,hbm,_⟩:=hbm
  have hbmlt:=hbm.lt
  have HNE:=Hd (show ∀ z,(Value.slice ad n cp).ownBlock=some z→z≠bm from fun z hz e=>by have:=HF.out.new z hz;have:=HG2.out.ext.size;omega)
  have HBG:=Hd (show bg≠bm from fun e=>by have:=HG2.out.new;omega)
  have HSG:=Hd (show ∀ x∈S,∀ y∈G,x.2.1≠y.2.1 from fun x hx y hy e=>by have:=(HS.out.mp.items x hx).lt;have:=HG2.out.news y hy;omega)
  have HND:=Hd (show F.Nodup by rw[HFE.out];exact frK_nodup S M)
  have HFS:=Hd (show ∀ x∈F,atL S x.data.toList=none from fun x hx=>by rw[HFE.out]at hx;exact (frK_mem.1 hx).2)
  have HFG:=Hd (show ∀ x∈F,(atL G x.data.toList).isSome=true from fun x hx=>by rw[HFE.out]at hx;exact HP.out.at' hx)
  have HST:=Hd (HS.out.st)
  subst hn
  clear hA0 hbm
  go_wp2_with fail
  rw[show decide (m < (F.length:Int))=false from decide_eq_false (Int.not_lt.2 hfull)]
  go_loopw [46] (fun iv wr=>AdR1 w4 s bm bg room S G F (.slice ad F.length cp) iv wr∧RK w1 wr) (fun iv _=>F.length - (intOf iv).toNat)
  case atStart=>exact⟨⟨0,Nat.zero_le _,rfl,HA0.out⟩,HRK4.out⟩
  case round =>
   obtain⟨⟨i,hi,rfl,hA⟩,hrk⟩:=hrel
   have HRK:=Hd hrk
   clear hrk
   have HA:=Hd hA
   by_cases hlt:i < F.length
   ·have b1:(i:Int) < (F.length:Int):=by omega
    obtain⟨x,hx⟩:∃ x,F[i]?=some x:=⟨_,List.getElem?_eq_getElem hlt⟩
    obtain⟨ax,cx,hh,hcell⟩:=(own_rd hA.row).slice
    obtain⟨ba2,oa2,hao,hqa⟩:=hcell i x hx
    subst hao
    cases hh
    obtain⟨y,hy⟩:=Option.isSome_iff_exists.1 (HFG.out x (List.mem_of_getElem? hx))
    have Q1:=Hd (hA.st.st.cell (i:=1) (v:=.map (some bm)) (by rfl))
    have HGV:=Hd hA.gv
    have HX:=Hd hx
    have HY:=Hd hy
    obtain⟨yb,hyb⟩:∃ yb,yb=y.2.1:=⟨_,rfl⟩
    have HYB:=Hd hyb
    clear hcell hx hy hA hyb
    go_wp2_with fail
    refine wp_region_mix [0,1,2,3,4,5,6,7,8] [8] Ext ExtR ExtT (by kernel_rfl) (by kernel_rfl) (by kernel_rfl) ?_
    (refine mix_pure _ rfl (by kernel_rfl) rfl rfl (fun K hK=>?_);go_big_quiet_op;refine hK _ ?_;clear hK K)
    refine mix_any _ (.pointer (some ⟨s,0,none⟩)) rfl (by kernel_rfl) rfl (fun w1=>by kernel_rfl) ?_
    simp only[Act.put,sA,sB,sC]
    (refine mix_pure _ rfl (by kernel_rfl) rfl rfl (fun K hK=>?_);go_big_quiet_op;refine hK _ ?_;clear hK K)
    refine mix_load ⟨s,1,none⟩ _ rfl (by kernel_rfl) rfl rfl (fun w1 h1=>run_load_plain Tryz.underlying109 rfl (cell_ext Q1.out ((drewE _).trans h1))) ?_
    simp only[Act.put,sA,sB,sC]
    iterate 3 (refine mix_pure _ rfl (by kernel_rfl) rfl rfl (fun K hK=>?_);go_big_quiet_op;refine hK _ ?_;clear hK K)
    refine mix_val _ (.pointer (some ⟨yb,0,none⟩)) rfl (by kernel_rfl) rfl (fun w1 h1=>by
     have hx:=(HGV.out.ext ((drewE _).trans h1)).look x false
     rw[HY.out]at hx
     unfold ptrO at hx
     simp only[Bool.false_eq_true,if_false]at hx
     rw[←HYB.out]at hx
     simp[execOp,Act.eval,hx,Sem.run_bind,Result.andThen,Sem.run_pure]) ?_
    simp only[Act.put,sA,sB,sC]
    refine mix_hard _ rfl (by kernel_rfl) rfl (fun w5 he K hK=>?_)
    have hA5:=HA.out.ext ((drewE _).trans he)
    obtain⟨ob,hmu,hA6⟩:=hA5.put HSG.out HBG.out HNE.out HND.out HFS.out HX.out HY.out
    rw[←HYB.out]at hmu
    have HA6:=Hd hA6
    obtain⟨oes,ock,hobm,_⟩:=hA6.st.mp.mp
    have HRK6:=Hd ((HRK.out.ext ((drewE _).trans he)).put (Keeps.onePut _ bm ob) hobm)
    clear hobm
    clear hA5 hA6 he HA Q1 HGV hqa
    go_simp
    refine hK _ _ ?_
    clear hK K
    refine mix_end (by kernel_rfl) (fun w7 he=>?_)
    have HA7:=Hd (HA6.out.ext he)
    have HRK7:=Hd (HRK6.out.ext he)
    clear he HA6 hmu
    go_wp2_with fail
    go_roundw
    case rel=>exact⟨⟨i+1,by omega,by go_num,HA7.out⟩,HRK7.out⟩
    case measure=>simp[intOf];omega
   ·have hie:i=F.length:=by omega
    subst hie
    obtain⟨S1,hS1⟩:∃ S1,S1=S++picks G F:=⟨_,rfl⟩
    have HS1:=Hd hS1
    have HB0:=Hd (show Ad2 wr s bm bg room S1 G F (.slice ad F.length cp) [] wr from⟨Keeps.refl _ _,by have:=hA.st;rw[List.take_length]at this;rw[hS1];exact this,⟨G,hA.gv,fun k=>rfl⟩,hA.row⟩)
    have HU:=Hd (show ∀ x∈S1,0≤x.2.2.used∧x.2.2.used≤1000000000 from fun x hx=>by
     rw[hS1]at hx
     rcases List.mem_append.1 hx with hx | hx
     ·exact HSU.out x hx
     ·obtain⟨t,ht,_,e⟩:=given_is HG2.out.is (picks_mem hx).1
      rw[e];exact⟨Int.le_refl _,by show (0:Int)≤1000000000;decide⟩)
    have HR1:=Hd (show ∀ r∈F.flatMap (refsO G),(atL S1 r.data.toList).isSome=true from fun r hr=>by
     rw[hS1,HFE.out]
     refine s1_has2 HP.out ?_
     have:=HP.out.is
     rw[List.take_length, ←HFE.out]at this
     rw[this];exact List.mem_cons_of_mem _ hr)
    obtain⟨w5,hw5⟩:∃ w5,w5=wr:=⟨_,rfl⟩
    have HW5:=Hd hw5
    have HRK5:=Hd (show RK w1 w5 by rw[hw5];exact HRK.out)
    rw[←hw5]at HB0
    have HB0:=Hd (show Ad2 w5 s bm bg room S1 G F (.slice ad F.length cp) [] wr by rw[←hw5];exact HB0.out)
    have HA1:=Hd (show Keeps (fun z=>z=bm) w4 w5 by rw[hw5];exact hA.kp)
    clear HA0 hA HA hS1 hw5
    go_wp2_with fail
    go_loopw [61] (fun iv wr=>AdR2 w5 s bm bg room S1 G F (.slice ad F.length cp) iv wr∧RK w1 wr) (fun iv _=>F.length - (intOf iv).toNat)
    case atStart=>exact⟨⟨0,Nat.zero_le _,rfl,HB0.out⟩,by rw[←HW5.out];exact HRK5.out⟩
    case round =>
     obtain⟨⟨i,hi2,rfl,hA⟩,hrk2⟩:=hrel
     have HRKB:=Hd hrk2
     clear hrk2
     by_cases hlt2:i < F.length
     ·have b1:(i:Int) < (F.length:Int):=by omega
      obtain⟨x,hx⟩:∃ x,F[i]?=some x:=⟨_,List.getElem?_eq_getElem hlt2⟩
      obtain⟨ax,cx,hh,hcell⟩:=(own_rd hA.row).slice
      obtain⟨ba2,oa2,hao,hqa⟩:=hcell i x hx
      subst hao
      cases hh
      obtain⟨y,hy⟩:=Option.isSome_iff_exists.1 (HFG.out x (List.mem_of_getElem? hx))
      obtain⟨G',hG1,hG2⟩:=hA.gv
      have hk:=hG2 x.data.toList
      rw[hy]at hk
      obtain⟨y',hy',hk⟩:=Option.map_eq_some_iff.1 hk
      have hlk:=hG1.look x false
      rw[hy']at hlk
      unfold ptrO at hlk
      simp only[Bool.false_eq_true,if_false]at hlk
      obtain⟨rv,hIb,hIr⟩:=(hG1.items y' (atL_mem hy').1).cells
      have hyr:y'.2.2.refs=refsO G x:=by rw[refsO_some hy];exact congrArg (fun z=>z.2.2) hk
      obtain⟨R,hR⟩:∃ R,R=refsO G x:=⟨_,rfl⟩
      rw[hyr, ←hR]at hIr
      obtain⟨ar,cr,rfl⟩:=row_slice hIr
      have qr:=hIb.cell (i:=1) (v:=.slice ar R.length cr) (by rfl)
      obtain⟨T,hT⟩:∃ T,T=(F.take i).flatMap (refsO G):=⟨_,rfl⟩
      have HT1:=Hd (show (F.take (i+1)).flatMap (refsO G)=T++R by rw[List.take_add_one,hx,List.flatMap_append,hT,hR];simp)
      have HTL:=Hd (show T.length≤16000 by
       have:=flatG_len2 HSH.out (F.take i)
       rw[hT];rw[List.length_take]at this;omega)
      have HRL:=Hd (show R.length≤16 by rw[hR,refsO_some hy];exact HSH.out.refs y (atL_mem hy).1)
      have HRR:=Hd (show ∀ r∈R,(atL S1 r.data.toList).isSome=true from fun r hr=>HR1.out r (List.mem_flatMap.2 ⟨x,List.mem_of_getElem? hx,by rw[←hR];exact hr⟩))
      rw[←hT]at hA
      have HA3:=Hd (show AdR3 w5 s bm bg room S1 G F (.slice (some ⟨ba2,oa2,none⟩) F.length cp) T R (.slice ar R.length cr) (.int .i64 0) wr from⟨0,Nat.zero_le _,rfl,by rw[List.take_zero,List.append_nil];exact hA,hIr⟩)
      obtain⟨yb,hyb⟩:∃ yb,yb=y'.2.1:=⟨_,rfl⟩
      rw[←hyb]at hlk qr
      clear hcell hx hy hG1 hG2 hk hy' hIb hIr hyr hR hT hA hyb
      go_wp2_with fail
      go_loopw [72] (fun jv wr2=>AdR3 w5 s bm bg room S1 G F (.slice (some ⟨ba2,oa2,none⟩) F.length cp) T R (.slice ar R.length cr) jv wr2∧RK w1 wr2) (fun jv _=>R.length - (intOf jv).toNat)
      case atStart=>exact⟨HA3.out,HRKB.out⟩
      case round =>
       obtain⟨⟨j,hj,rfl,hB,hrw⟩,hrk3⟩:=hrel
       have HRKC:=Hd hrk3
       clear hrk3
       by_cases hlt3:j < R.length
       ·have b2:(j:Int) < (R.length:Int):=by omega
        obtain⟨z,hz⟩:∃ z,R[j]?=some z:=⟨_,List.getElem?_eq_getElem hlt3⟩
        obtain⟨ax3,cx3,hh3,hcell3⟩:=(own_rd hrw).slice
        obtain⟨ba3,oa3,hao3,hqa3⟩:=hcell3 j z hz
        subst hao3
        cases hh3
        have qs:=hB.st.st.cell (i:=1) (v:=.map (some bm)) (by rfl)
        obtain⟨zb,u,hlk3,qu,fu,hu0,hu1,hB2,hrow2⟩:=hB.bump HU.out (by have:=HTL.out;have:=HRL.out;rw[List.length_append,List.length_take];omega) z (HRR.out z (List.mem_of_getElem? hz))
        have hrl:=HRL.out
        have hw1 : -9223372036854775808≤u+1:=by omega
        have hw2:u+1≤9223372036854775807:=by omega
        have HB2:=Hd (And.intro (show Ad2 w5 s bm bg room S1 G F (.slice (some ⟨ba2,oa2,none⟩) F.length cp) (T++R.take (j+1)) _ by rw[List.take_add_one,hz, ←List.append_assoc];exact hB2) (hrow2 _ _ _ hrw))
        clear hcell3 hz hB hrw hB2 hrow2 hlk qr
        go_wp2_with fail
        go_roundw
        case rel=>exact⟨⟨j+1,by omega,by go_num,HB2.out.1,HB2.out.2⟩,HRKC.out.set zb (.inl rfl) _⟩
        case measure=>simp[intOf];omega
       ·have hje:j=R.length:=by omega
        subst hje
        rw[List.take_length, ←HT1.out]at hB
        have HB4:=Hd hB
        clear hB hrw HA3 hlk qr
        go_wp2_with fail
        go_roundw
        case rel=>exact⟨⟨i+1,by omega,by go_num,HB4.out⟩,HRKC.out⟩
        case measure=>simp[intOf];omega
     ·have hie2:i=F.length:=by omega
      subst hie2
      rw[List.take_length]at hA
      have HB5:=Hd hA
      have hroot:(atL S1 rt.data.toList).isSome=true:=by
       rw[HS1.out,HFE.out]
       exact s1_has2 HP.out (by rw[HP.out.is];exact List.mem_cons_self)
      have HHD:=Hd (show ∀ x∈S1,0≤x.2.2.held∧x.2.2.held≤1000000000 from fun x hx=>by
       rw[HS1.out]at hx
       rcases List.mem_append.1 hx with hx | hx
       ·exact HSHD.out x hx
       ·obtain⟨t,ht,_,e⟩:=given_is HG2.out.is (picks_mem hx).1
        rw[e];exact⟨Int.le_refl _,by show (0:Int)≤1000000000;decide⟩)
      have qs:=hA.st.st.cell (i:=1) (v:=.map (some bm)) (by rfl)
      obtain⟨zb,u,hlk3,qu,fu,hu0,hu1,hSE,hKE⟩:=hA.hold HHD.out rt hroot
      have hw1 : -9223372036854775808≤u+1:=by omega
      have hw2:u+1≤9223372036854775807:=by omega
      have HSE:=Hd hSE
      have HKE:=Hd (((HG2.out.ext.trans HF.out.ext).trans HE4.out).mono (G:=fun z=>z=bm∨z∈S.map (·.2.1)) (fun _ _ g=>g.elim))
      have HK5:=Hd hKE
      have HKA:=Hd HA1.out
      clear hA HB0 HA1 hSE hKE hroot
      go_wp2_with fail
      go_ret2
      refine .inr ⟨top,G,M,HTOP.out,HG2.out.is,HND0.out,HG2.out.news,by rw[←HRT.out];exact HP.out,by rw[←HFE.out, ←HM.out];exact Int.not_lt.2 hfull,by rw[HRT.out];rfl,?_,?_,((RK.refl w).ext HG1.out).trans (HRKB.out.set zb (.inr rfl) _),HRN.out.rk (HRKB.out.set zb (.inr rfl) _) HGI.out⟩
      ·rw[←HFE.out, ←HS1.out, ←HRT.out];exact HSE.out
      ·refine (Keeps.trans' (F:=fun z=>z=bm∨z∈S.map (·.2.1)) HKE.out HKA.out (fun z hz e=>.inl e)).trans' HK5.out (fun z hz e=>?_)
       rw[HS1.out,List.map_append]at e
       rcases List.mem_append.1 e with e | e
       ·exact .inr e
       ·obtain⟨y,hy,rfl⟩:=List.mem_map.1 e
        have:=HG2.out.news y (picks_mem hy).1
        omega
def ComP(w:World)(s bm:Nat)(room:Int)(S:List Nd5)(l:List Pair)(cs:List Chg)(e:Ending)(w':World):Prop:=
 (applyE l cs≠0∧e=.returned (.tuple #[.string ⟨#[]⟩,.int .i64 (applyE l cs)])∧Ext w w')∨(applyE l cs=0∧∃ w1,Ext w w1∧AddGen False w1 s bm room S (newM S (afterM l cs)) e w')
theorem ComP.bad{w w':World}{s bm:Nat}{room:Int}{S:List Nd5}{l:List Pair}{cs:List Chg}{x:Int}(h:applyE l cs=x)(h0:x≠0)(hE:Ext w w'):ComP w s bm room S l cs (.returned (.tuple #[.string ⟨#[]⟩,.int .i64 x])) w':=by
 subst h;exact .inl ⟨h0,rfl,hE⟩
theorem ComP.go{w w1 w':World}{s bm:Nat}{room:Int}{S:List Nd5}{l:List Pair}{cs:List Chg}{L:List ByteArray}{e:Ending}(h:applyE l cs=0)(hL:L=newM S (afterM l cs))(hE:Ext w w1)(hA:AddGen False w1 s bm room S L e w'):ComP w s bm room S l cs e w':=by
 subst hL;exact .inr ⟨h,w1,hE,hA⟩
theorem new_len{S:List Nd5}{m:List Pair}(h:checkN m=0):(newM S m).length≤119:=by
 unfold newM
 rw[List.length_cons]
 have h1:=fresh_len S (belowM m)
 have h2:=below_len h
 omega
theorem new_mem{S:List Nd5}{m:List Pair}(h:checkN m=0){t:ByteArray}(ht:t∈newM S m):t∈flatT (trieT m):=by
 unfold newM at ht
 have e:flatT (trieT m)=(trieT m).text :: belowM m:=by rw[below_is h];show flatT (.mk _ _)=_;rw[flatT];rfl
 rw[e]
 rcases List.mem_cons.1 ht with rfl | ht
 ·exact List.mem_cons_self
 ·unfold freshU at ht
  exact List.mem_cons_of_mem _ ((firsts_mem _ _).1 (List.mem_filter.1 ht).1)
theorem new_nodes{S:List Nd5}{m:List Pair}(h:checkN m=0):∀ t∈newM S m,∃ n,IsNode t n:=fun t ht=>by
 obtain⟨n,hn,_⟩:=(texts h).node t ((firsts_mem _ _).2 (new_mem h ht))
 exact⟨n,hn⟩
theorem commit_c(w:World)(hc:Cubes w)(he:ErrT w)(s bm:Nat)(room:Int)(S:List Nd5)(hs:StoreAt w s bm room S)(hN:NodesS S)(l:List Pair)(h:HasM S l)(u:Value)(cs:List Chg)(hu:RdC w u cs)(hnc:cs.length≤9223372036854775807)(hsc:∀ c∈cs,c.key.size≤9223372036854775807∧c.value.size≤9223372036854775807)(hr0:0≤room)(hr1:room≤9223372036854775807)(hS:S.length≤100000)(hSu:∀ x∈S,0≤x.2.2.used∧x.2.2.used≤1000000000)(hSh:∀ x∈S,0≤x.2.2.held∧x.2.2.held≤1000000000) :
  Calls Tryz.prog 35 #[.pointer (some ⟨s,0,none⟩),.string (rootM l),u] w (ComP w s bm room S l cs):=by
 have HU:=Hd (upd_c w hc he s bm room S hs hN l h u cs hu hnc hsc)
 have HCC:=Hd (And.intro hc he)
 have HST:=Hd hs
 have HB:=Hd (And.intro hS (And.intro hSu hSh))
 have HR:=Hd (And.intro hr0 hr1)
 obtain⟨a,c,hus⟩:=hu.sl
 subst hus
 obtain⟨rt,hrt⟩:∃ rt,rt=rootM l:=⟨_,rfl⟩
 rw[←hrt]at HU ⊢
 clear hrt hs hN h hc he hu hnc hsc hS hSu hSh hr0 hr1
 go_enter Tryz.func35,Tryz.ntmps35
 go_wp2_with fail
 refine HU.out.mono ?_
 rintro e w1 hU
 unfold UpdP at hU
 by_cases h0:applyE l cs=0
 case neg =>
  rw[if_neg h0]at hU
  obtain⟨rfl,hE⟩:=hU
  have HX:=Hd hE
  obtain⟨x0,hx0⟩:∃ x0,x0=applyE l cs:=⟨_,rfl⟩
  have HX0:=Hd hx0.symm
  rw[←hx0]at h0 ⊢
  have H0:=Hd h0
  have hne:(x0 != 0)=true:=by simpa using h0
  have hnb:(x0 == 0)=false:=by simpa using h0
  clear hE hx0 h0
  go_wp2_with fail
  go_ret2
  exact ComP.bad HX0.out H0.out HX.out
 rw[if_pos h0]at hU
 obtain⟨r,rfl,hR⟩:=hU
 have H0:=Hd h0
 have hcm:=after_check h0
 have hcm:checkN (afterM l cs)=0:=hcm
 have hL1:=new_len (S:=S) hcm
 have HRD:=Hd hR.rd
 have HX:=Hd hR.ext
 have HAN:=Hd (any_nodesQ (new_nodes (S:=S) hcm))
 have HTOP:=Hd (show (newM S (afterM l cs))[0]?=some (trieT (afterM l cs)).text from rfl)
 obtain⟨L,hL⟩:∃ L,L=newM S (afterM l cs):=⟨_,rfl⟩
 rw[←hL]at HRD HAN HTOP hL1 hR
 have HLL:=Hd hL
 have HL1:=Hd hL1
 obtain⟨a3,c3,e3⟩:=hR.sl
 subst e3
 obtain⟨top,htop⟩:∃ top,top=(trieT (afterM l cs)).text:=⟨_,rfl⟩
 rw[←htop]at HTOP
 clear hR hL h0 hcm hL1 htop
 go_wp2_with fail
 refine (add_gen w1 (HCC.out.1.ext HX.out) (HCC.out.2.ext HX.out) s bm room S (HST.out.ext HX.out) _ L HRD.out False HAN.out (by have:=HL1.out;omega) top HTOP.out HR.out.1 HR.out.2 HB.out.1 HB.out.2.1 HB.out.2.2).mono ?_
 intro e w2 hA
 have HA:=Hd hA
 rcases hA with⟨k,_,_,rfl,_⟩ |⟨_,_,_,_,hY⟩
 ·go_wp2_with fail
  go_ret2
  exact ComP.go H0.out HLL.out HX.out HA.out
 ·have hre:=hY.res
  subst hre
  clear hY
  go_wp2_with fail
  go_ret2
  exact ComP.go H0.out HLL.out HX.out HA.out
end
section
open Go Go.RowKit
theorem sheld_c(w:World)(s bm:Nat)(room:Int)(L:List Nd5)(k:ByteArray)(h:StoreAt w s bm room L):Calls Tryz.prog 42 #[.pointer (some ⟨s,0,none⟩),.string k] w fun e w'=>e=.returned (.int .i64 (heldO (atL L k.data.toList)))∧Ext w w':=by
 have q1:=h.st.cell (i:=1) (v:=.map (some bm)) (by rfl)
 have hlk:=h.mp.look k true
 have HI:=Hd h.mp.items
 simp only[if_true]at hlk
 clear h
 cases ha:atL L k.data.toList with
 | none =>
  rw[ha]at hlk
  unfold ptrO at hlk
  simp only[Option.isSome]at hlk
  clear ha
  go_enter Tryz.func42,Tryz.ntmps42
  go_wp2_with fail
  go_ret
  exact⟨rfl,ExtR w⟩
 | some x =>
  rw[ha]at hlk
  obtain⟨rv,hB,_⟩:=(HI.out x (atL_mem ha).1).cells
  have q2:=hB.cell (i:=3) (v:=.int .i64 x.2.2.held) (by rfl)
  unfold ptrO at hlk
  simp only[Option.isSome]at hlk
  clear ha hB
  go_enter Tryz.func42,Tryz.ntmps42
  go_wp2_with fail
  go_ret
  exact⟨rfl,ExtR w⟩
end
section
open Go Go.RowKit
attribute [local go_sem] Oper.semAt_some
end
end Go.Proofs.YtpaacnhboilkkaaGreatDoor
