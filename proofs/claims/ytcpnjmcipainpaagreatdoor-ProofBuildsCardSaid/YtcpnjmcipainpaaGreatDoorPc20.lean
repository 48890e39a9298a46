/- Parts of the proof, one behind the other: HashA, RowT, CanonPb, FewB, StoreA. Each is under no condition but those that it states. -/
import Derived.Test.YtcpnjmcipainpaaGreatDoorPc18
import Derived.Test.YtcpnjmcipainpaaGreatDoorPc19
namespace Go.Proofs.YtcpnjmcipainpaaGreatDoor
set_option linter.unusedSimpArgs false
set_option linter.unusedVariables false
set_option maxRecDepth 100000
set_option maxHeartbeats 16000000
section
open Go Go.RowKit
attribute [local go_sem] Oper.semAt_some
theorem jet:∀ (l:List ByteArray) (i:Nat),((jar i l).filterMap fun x=>jcv x.2)=l.filterMap jcv
 | [],_=>rfl
 | x :: l,i=>by
  unfold jar
  by_cases h:x.size=0
  ·rw[if_pos h,jet l,List.filterMap_cons,jbE h,jeK]
  ·rw[if_neg h,List.filterMap_cons,List.filterMap_cons,jet l]
def jbT(n:jac)(k:Nat):List ByteArray:=(n.refsL.take k).filterMap fun x=>jcv x.2
theorem jmE(n:jac):jbT n n.refsL.length=jaY n:=by
 unfold jbT;rw[List.take_length];exact jet _ _
theorem jlf(n:jac){k:Nat}(hk:k < n.refsL.length):jbT n (k+1)=jbT n k++(jcv (n.rr k)).toList:=by
 unfold jbT;rw[List.take_succ_eq_append_getElem hk,List.filterMap_append]
 congr 1
 have:n.rr k=(n.refsL[k]).2:=by simp[jac.rr,List.getD_eq_getElem?_getD,hk]
 rw[this,List.filterMap_cons];cases jcv (n.refsL[k]).2 <;> rfl
theorem jmF(n:jac)(k:Nat):(jbT n k).length≤n.refs.length:=by
 have h1:∀ (l:List ByteArray) (i:Nat),(jar i l).length≤l.length:=by
  intro l;induction l with
  | nil=>intro i;simp[jar]
  | cons x r ih=>intro i;unfold jar;split <;> simp <;> have:=ih (i+1) <;> omega
 have h2:=h1 n.refs 0;unfold jbT;have h3:=List.length_filterMap_le (fun x:Nat × ByteArray=>jcv x.2) (n.refsL.take k);rw[List.length_take]at h3
 have:n.refsL=jar 0 n.refs:=rfl
 rw[this]at h3 ⊢;omega
theorem jkp{x:ByteArray}{l:List ByteArray}(h:x∈l):x.size≤(jaU l).size:=Nat.le_trans (jfD l x h) (jhE l)
theorem jko{d:Nat}{r:ByteArray}(h:MayP (InlD d) r)(hs:r.size < 32):jcv r=none:=by
 rcases h with h |⟨m,h⟩
 ·have:=h.size;omega
 ·exact jgc (inlP d) h
theorem ji9{d:Nat}{n:jac}(h:jbj (InlD d) n)(hs:(jaH n).size < 32):jaY n=[]:=by
 unfold jaY;cases h with
 | none=>exact jdb 16
 | leaf p v h1 h2 h3=>exact jdb 16
 | ext p r h1 h2 h3 =>
  show (r :: jat 15).filterMap jcv=[];have hr:r.size < 32:=by
   have e:jaH ⟨2,p,⟨#[]⟩,r :: jat 15⟩=jaU [jam (putB p false),r]:=rfl
   have:=jkp (x:=r) (l:=[jam (putB p false),r]) (by simp)
   rw[e]at hs;omega
  rw[List.filterMap_cons,jdb,jko (h3.imp id fun ⟨m,h,_⟩=>⟨m,h⟩) hr]
 | branch v rs h1 h2 h3 h4 =>
  show rs.filterMap jcv=[];rw[List.filterMap_eq_nil_iff];intro r hr
  by_cases h0:r.size=0
  ·rw[jbE h0,jeK]
  ·have e:jaH ⟨3,⟨#[]⟩,v,rs⟩=jaU (jaR rs v):=by
    show jaU (jbv _)=_;rw[jcB _ h1]
   have hm:r∈jaR rs v:=by
    unfold jaR;refine List.mem_append.2 (.inl (List.mem_map.2 ⟨r,hr,?_⟩));rw[if_neg h0]
   have:=jkp hm
   rw[e]at hs;exact jko (h3 r hr h0) (by omega)
theorem jrH{w:World}{B:Nat}{T:TypeId}{sz:Nat}{ad:Option Addr}{n cp:Nat}{xs:List Value}(h:w.ownsRow B T sz (.slice ad n cp) n xs):n≤cp:=by
 obtain⟨_,⟨h1,h2⟩ |⟨g,cap,cur,h1,h2,h3,h4,_⟩⟩:=h
 ·omega
 ·obtain⟨_,_,h5⟩:=Value.slice.inj h1;omega
structure HsS(w:World)(g3 gi m:Nat)(n:jac)(k:Nat)(W:World):Prop where
 ext:Ext w W
 it:Blk W gi (.cells n.cells.toArray 208)
 row:∃ v,Blk W g3 (.cells #[v] 34)∧W.ownsRow 0 9 1 v (jbT n k).length ((jbT n k).map Value.string)∧(∀ b,v.ownBlock=some b→m+2≤b)∧(jbT n k=[]→v=.slice none 0 0)
theorem HsS.st{w:World}{g3 gi m:Nat}{n:jac}{k:Nat}{W W':World}(h:HsS w g3 gi m n k W)(e:Ext W W'):HsS w g3 gi m n k W':=
 let ⟨v,h1,h2,h3,h4⟩:=h.row
 ⟨h.ext.trans e,h.it.keeps e (fun h=>h),v,h1.keeps e (fun h=>h),jbx h2 e,h3,h4⟩
theorem HsS.put{w:World}{g3 gi m:Nat}{n:jac}{k:Nat}{W:World}(h:HsS w g3 gi m n k W){r:Nat}(hr:w.heap.size≤r)(h1:g3 < r)(h1':gi < r)(h2:r < m+2)(o:Obj):HsS w g3 gi m n k (W.putObj r o):=
 let ⟨v,h3,h4,h5,h6⟩:=h.row
 ⟨h.ext.putObj (.inr hr) _,h.it.put_other (by omega) _,v,h3.put_other (by omega) _,ja7 h4 (jag.onePut W r o) (fun b hb e=>by have:=h5 b hb;omega),h5,h6⟩
def jnQ(w:World)(n:jac)(e:Ending)(w':World):Prop:=∃ v,e=.returned v∧SRow w w' v (jaY n).length (jaY n)∧(jaY n=[]→v=.slice none 0 0)
theorem jop{I:ByteArray→jac→Prop}{n:jac}(h:jbj I n):∀ r∈n.refs,r.size≠0→MayP I r:=by
 have hz:∀ r∈jat 16,r.size≠0→MayP I r:=fun r hr h0=>by rw[List.eq_of_mem_replicate hr]at h0;exact absurd rfl h0
 cases h with
 | none=>exact hz
 | leaf p v h1 h2 h3=>exact hz
 | ext p r h1 h2 h3 =>
  intro x hx h0;rcases List.mem_cons.1 hx with rfl | hx
  ·exact h3.imp id fun ⟨m,h,_⟩=>⟨m,h⟩
  ·rw[List.eq_of_mem_replicate hx]at h0;exact absurd rfl h0
 | branch v rs h1 h2 h3 h4=>exact h3
theorem Tryz.enterHashes:∀ args w,(callFunc 132 args).run Tryz.prog w=.ok (.enter 132 args) w:=fun _ _=>by kernel_rfl
theorem jge(d:Nat)(n:jac)(h:jbj (InlD d) n)(ih:∀ r m,InlD d r m→∀ w,Calls Tryz.prog 132 #[m.V] w (jnQ w m))(w:World):Calls Tryz.prog 132 #[n.V] w (jnQ w n):=by
 have hr:=(h.one (inlP d)).refs
 obtain⟨i0,hi,hz0,hz1,hz2⟩:=info_parts Tryz.infoStr
 have HV:=Hd (fun w=>jh3 (inlP d) w n h);have HM:=Hd (jop h);have HIH:=Hd ih;have HQ:=Hd (show ∀ (v:Value) W',jnQ w n (.returned v) W'↔(SRow w W' v (jaY n).length (jaY n)∧(jaY n=[]→v=.slice none 0 0))from fun v W'=>⟨fun ⟨_,e,h⟩=>by cases e;exact h,fun h=>⟨v,rfl,h⟩⟩);have hld:=jap (w.alloc (.cells n.cells.toArray 144)) _ n hr (Blk.new w _);clear h ih;unfold jac.V at hld ⊢;rw[←callsIn_wide (n:=0)];refine callsIn_of_wp_marks Tryz.func132 rfl trivial ?_ rfl;simp only[Tryz.ntmps132,List.size_toArray,List.length_cons,List.length_nil,Nat.reduceAdd,Nat.reduceSub,Array.replicate_succ,Array.replicate_zero,List.push_toArray,List.append_toArray,List.nil_append,List.cons_append];gi_wp2_with (refine jaZ rfl 144 (.tmp 1) rfl _ _ rfl hld ?_)
 refine⟨trivial,rfl,CallsIn.mono (callsIn_wide.2 (HV.o _)) ?_⟩
 rintro e w1 ⟨rfl,hE⟩;have hB1:=(Blk.new w (.cells n.cells.toArray 144)).keeps hE (fun h=>h);have HE1:=Hd (((ExtR w).alloc _).trans hE)
 obtain⟨W2,hW2⟩:∃ W2,W2=w1.alloc (.cells #[.slice none 0 0] 34):=⟨_,rfl⟩
 have HW2:=Hd hW2;have hB2:Blk W2 w.heap.size (.cells n.cells.toArray 144):=by rw[hW2];exact hB1.alloc _
 have HB3:=Hd (show Blk W2 w1.heap.size (.cells #[.slice none 0 0] 34) by rw[hW2];exact Blk.new w1 _);have HE2:=Hd (show Ext w W2 by rw[hW2];exact HE1.o.alloc _);have hld2:=jap W2 _ n hr hB2;have hg3:=hB1.lt;rw[hW2]at hld2;clear hld hE hB1 hW2 hB2;unfold jac.V at hld2;gi_wp2_with (refine jaZ rfl 144 (.tmp 1) rfl _ _ rfl hld2 ?_)
 rw[←HW2.o]
 refine⟨trivial,rfl,CallsIn.mono (callsIn_wide.2 (jkz W2 n)) ?_⟩
 rintro e w3 ⟨rfl,hbn,hE⟩;have hW2s:=HB3.o.lt
 obtain⟨gi,hgi⟩:∃ g,g=W2.heap.size:=⟨_,rfl⟩
 obtain⟨g3,hg3e⟩:∃ g,g=w1.heap.size:=⟨_,rfl⟩
 rw[←hg3e]at HB3 hW2s hg3;rw[←hgi]at hbn hW2s ⊢;rw[←hg3e];have S0:HsS w g3 gi w3.heap.size n 0 w3:=⟨HE2.o.trans hE,hbn,_,HB3.o.keeps hE (fun h=>h),World.ownsRow_nil _ _ _ _,(fun b hb=>by cases hb),(fun _=>rfl)⟩;have hl1:=hbn.lt;have hgw:=HE1.o.size;have HS0:=Hd S0;have HGW:=Hd (show w.heap.size≤g3 by omega);clear hld2 hbn hE HE1 HW2 HB3 HE2 S0 hgw hgi hg3e;gi_wp2_with fail
 refine jdl (N:=n.refsL.length) (gf:=215) (lb:=#[.pointer (some ⟨gi,0,none⟩)]) rfl Tryz.enterRefs1 (jhR gi n hr)
  (fun k=>rfl) (HsS w g3 gi w3.heap.size n) (fun _ _ _=>False) (fun k W W' h e=>h.st e) (fun _ _ _ _ h _=>h) (fun k W h=>h.it)
  (fun k W o h=>h.put (by have:=HGW.o;omega) (by omega) (by omega) (by omega) _)
  (fun k W o h=>h.put (by have:=HGW.o;omega) (by omega) (by omega) (by omega) _) (fun _ _ _ _ h=>h)
  HS0.o (fun k=>{ tmps:=#[.agg n.cells.toArray,.pointer (some ⟨w.heap.size,0,none⟩),.slice none 0 0,.pointer (some ⟨g3,0,none⟩),undef,.string (n.rr k),undef,undef,undef,undef,.agg n.cells.toArray,.bool true,.bool false,.agg n.cells.toArray,.func (.func 215) #[] #[.pointer (some ⟨gi,0,none⟩)],.int .i64 (n.ri k:Nat),.string (n.rr k),undef,undef,undef,undef,undef,undef,undef,undef,undef,undef,undef,undef,undef,undef,undef,undef,undef,undef,undef,undef],defers:=[] })
  ?hassign ?hbody ?hdone ?hstop
 case hassign =>
  intro l j W K hK;rw[joS,jle];simp only[List.set_cons_zero,List.set_cons_succ];gi_wp2;exact hK
 case hbody =>
  intro l k W hk hS hlt;have hri:=joN n hr hk;have hmay:=HM.o _ (List.mem_of_getElem? hri.2.1) hri.2.2;have hst:=jlf n hk;have hkl:=jmF n k;rw[hr]at hkl
  obtain⟨r,hre⟩:∃ r,r=n.rr k:=⟨_,rfl⟩
  rw[←hre]at hmay hst ⊢;have HS:=Hd hS;have HST:=Hd hst;have hwg:=HGW.o;have HWG:=Hd hwg;clear hS hri hst hre hwg;rcases hmay with hh |⟨m,hm⟩
  ·obtain⟨hs,x,q,h3,h4⟩:=hh.known
   have HX:=Hd (show jbT n (k+1)=jbT n k++[x] by
    rw[HST.o];unfold jcv;rw[h3];show _++(jfx r q).toList=_;rw[h4];rfl)
   have H3:=Hd h3;have H4:=Hd h4;clear h3 h4 hh;gi_wp2_with fail
   refine⟨trivial,rfl,CallsIn.mono (CallsIn.inRound l (callsIn_wide.2 (jcT W r q hs H3.o))) ?_⟩
   rintro e w5 ⟨rfl,hE⟩;rw[H4.o];have S5:=HS.o.st hE
   obtain⟨v,h1,h2,h3,h4⟩:=S5.row
   obtain⟨ad,cp,rfl⟩:=ja1 h2
   have q4:w5.cell? ⟨g3,0,none⟩=some (.slice ad (jbT n k).length cp):=h1.cell (i:=0) (by rfl);have f4:w5.frozen? ⟨g3,0,none⟩=false:=h1.frozen;have hsz:=hE.size;have HS5:=Hd S5;have HE5:=Hd hE;have HB1:=Hd h1;have HB2:=Hd h2;have HB3:=Hd h3;clear S5 h1 h2 h3 h4 hE;unfold optV;gi_wp2_with (gi_at_builtin;refine jb5 _ rfl (.tmp 23) (.tmp 25) 34 rfl 9 i0 _ 1 16 Tryz.uStrs hi hz0 hz1 hz2 rfl (by decide) (.slice ad (jbT n k).length cp) (jbT n k).length _ rfl (jbx HB2.o ((ExtR w5).alloc _)) ⟨w5.heap.size,0,none⟩ 1 1 [.string x] rfl rfl (jbg (Blk.new w5 _)) (by simp[Value.oneCell']) (by unfold maxLen;omega) (by omega) ?_)
   intro v' w6 r1 r2 r3;have K6:jag (fun b=>(Value.slice ad (jbT n k).length cp).ownBlock=some b) w5 w6:=((jag.refl _ w5).alloc _).trans r2;have hl:(jbT n (k+1)).length=(jbT n k).length+1:=by rw[HX.o];simp
   have r1:w6.ownsRow 0 9 1 v' (jbT n (k+1)).length ((jbT n (k+1)).map Value.string):=by
    rw[hl,HX.o,List.map_append];exact r1
   have nb:∀ b,b < w3.heap.size+2→¬(Value.slice ad (jbT n k).length cp).ownBlock=some b:=fun b hb e=>by have:=HB3.o b e;omega
   obtain⟨ad',cp',rfl⟩:=ja1 r1
   have hv':∀ b,(Value.slice ad' (jbT n (k+1)).length cp').ownBlock=some b→w3.heap.size+2≤b:=fun b hb=>by
    rcases r3 with r3 | r3
    ·exact HB3.o b (r3 ▸ hb)
    ·have:=r3 b hb;first | omega |(simp at this;omega)
   have B4:=HB1.o.keeps K6 (nb _ (by omega));have q4':w6.cell? ⟨g3,0,none⟩=some (.slice ad (jbT n k).length cp):=B4.cell (i:=0) (by rfl);have f4':w6.frozen? ⟨g3,0,none⟩=false:=B4.frozen;have HK6:=Hd K6;have HB4:=Hd B4;have R1:=Hd r1;have HV':=Hd hv';have NB:=Hd nb;clear K6 r1 r2 r3 hv' B4 nb q4 f4 hl;gi_wp2;have k7:jag (fun b=>b=g3) w6 (w6.setCell ⟨g3,0,none⟩ (.slice ad' (jbT n (k+1)).length cp')):=jag.oneSet w6 ⟨g3,0,none⟩ _
   refine⟨((HE5.o.mono (fun _ _ h=>h.elim)).trans (HK6.o.mono (fun x _ e=>?_))).trans' k7 (fun x _ e=>?_),?_⟩
   ·have:=HB3.o x e;show x≠_∧x≠_;omega
   ·have e:x=_:=e;show x≠_∧x≠_;omega
   ·refine⟨(HS5.o.ext.trans' HK6.o (fun x hx e=>by have:=HB3.o x e;have:=HWG.o;omega)).trans' k7 (fun x hx e=>by have e:x=_:=e;have:=HWG.o;omega),
     (HS5.o.it.keeps HK6.o (NB.o _ (by omega))).keeps k7 (fun e=>by omega),
     _,HB4.o.set_same (i:=0) _,ja7 R1.o k7 (fun b hb e=>by have:=HV'.o b hb;omega),HV'.o,fun h0=>?_⟩
    rw[HX.o]at h0;simp at h0
  ·have hs:=(inlP d).small r m hm
   obtain⟨q,h3,h4⟩:=(inlP d).nohash r m hm
   have HX:=Hd (show jbT n (k+1)=jbT n k by
    rw[HST.o,jgc (inlP d) hm];simp)
   have HC:=Hd ((inlP d).inl r m hm);have HRL:=Hd ((inlP d).refs r m hm);have H3:=Hd h3;have H4:=Hd h4;have HCM:=Hd (show ∀ W,Calls Tryz.prog 132 #[m.V] W fun e W'=>e=.returned (.slice none 0 0)∧Ext W W' from fun W=>by
    have hsm:jaY m=[]:=by
     cases d with
     | zero=>exact hm.elim
     | succ d=>exact ji9 hm.1 (by rw[←hm.2.1];exact hm.2.2.1)
    refine (HIH.o r m hm W).mono ?_;rintro e W' ⟨v,rfl,h1,h2⟩;rw[h2 hsm];exact⟨rfl,h1.ext⟩)
   clear h3 h4 hm;gi_wp2_with fail
   refine⟨trivial,rfl,CallsIn.mono (CallsIn.inRound l (callsIn_wide.2 (jcT W r q (by omega) H3.o))) ?_⟩
   rintro e w5 ⟨rfl,hE⟩;rw[H4.o];have HE5:=Hd hE;clear hE;unfold optV;gi_wp2_with fail
   refine⟨trivial,rfl,CallsIn.mono (CallsIn.inRound l (callsIn_wide.2 (HC.o w5))) ?_⟩
   rintro e w6 ⟨rfl,hE⟩;have HE6:=Hd (HE5.o.trans hE);clear hE HE5;unfold jac.V;gi_wp2_with (refine jfw Tryz.allocNode rfl rfl ?_;intro W7 hB7 hE7;refine jdw (vs:=m.cells) rfl rfl rfl rfl hB7 (by rw[m.cells_len HRL.o];rfl) (by rw[m.cells_len HRL.o];exact Tryz.szNode) m.one ?_;intro W8 hB8 hE8)
   have hX8:Ext w6 W8:=hE7.trans' hE8 (fun x hx e=>by have e:x=w6.heap.size:=e;omega);have S8:=HS.o.st (HE6.o.trans hX8)
   obtain⟨v,h1,h2,h3,h4⟩:=S8.row
   obtain⟨ad,cp,rfl⟩:=ja1 h2
   have hcp:=jrH h2;have HS8:=Hd S8;have HB8:=Hd hB8;have H1:=Hd h1;have HX8:=Hd hX8;have HCP:=Hd hcp;clear hB7 hE7 hE8 hB8 hX8 S8 h1 h2 h3 h4 hcp;gi_wp2_with fail
   refine jfp [0,1,2,3,4] [4] Ext ExtR ExtT (by kernel_rfl) (by kernel_rfl) (by kernel_rfl) (by kernel_rfl) ?_;refine jaI ⟨g3,0,none⟩ _ rfl (by kernel_rfl) rfl rfl (fun w1 h1=>jaa Tryz.uStrs rfl (jab (by exact H1.o.cell (i:=0) (v:=.slice ad (jbT n k).length cp) (by rfl)) ((jas _).trans h1))) ?_;simp only[Act.put,sA,sB,sC];refine jaI ⟨w6.heap.size,0,none⟩ _ rfl (by kernel_rfl) rfl rfl (fun w1 h1=>jap w1 _ m HRL.o (HB8.o.keeps ((jas _).trans h1) (fun h=>h))) ?_;simp only[Act.put,sA,sB,sC];refine jcm _ 132 #[m.V] (.slice none 0 0) rfl (by kernel_rfl) rfl (fun w1=>jau Tryz.enterHashes (by kernel_rfl)) (fun w1 h1=>HCM.o w1) ?_;simp only[Act.put,sA,sB,sC];refine jc1 _ (.slice ad (jbT n k).length cp) rfl (by kernel_rfl) rfl (fun w1=>jf3 (jdU Tryz.uStrs hi ad (jbT n k).length cp HCP.o 0 w1) (by kernel_rfl)) ?_;simp only[Act.put,sA,sB,sC];refine jbl _ rfl (by kernel_rfl) rfl (fun w1 he K hK=>?_);have S9:=HS8.o.st ((jas _).trans he);have hEW:Ext W w1:=(HE6.o.trans HX8.o).trans ((jas _).trans he)
   obtain⟨v,h1,h2,h3,h4⟩:=S9.row
   have hcell:w1.cell? ⟨g3,0,none⟩=some (.slice ad (jbT n k).length cp):=jab (H1.o.cell (i:=0) (v:=.slice ad (jbT n k).length cp) (by rfl)) ((jas _).trans he);have hve:v=.slice ad (jbT n k).length cp:=by
    have:=h1.cell (i:=0) (v:=v) (by rfl)
    rw[hcell]at this;exact (Option.some.inj this).symm
   rw[hve]at h1 h2 h3 h4;have q4:=hcell;have f4:w1.frozen? ⟨g3,0,none⟩=false:=h1.frozen;have HS9:=Hd S9;have HB1:=Hd h1;have HB2:=Hd h2;have HB3:=Hd h3;have HB4:=Hd h4;have HEW:=Hd hEW;clear S9 hcell hve h1 h2 h3 h4 he hEW;go_simp;refine hK _ _ ?_;clear hK K q4 f4;refine jbi (by kernel_rfl) (fun w2 he=>?_);have k7:jag (fun b=>b=g3) w1 (w1.setCell ⟨g3,0,none⟩ (.slice ad (jbT n k).length cp)):=jag.oneSet w1 ⟨g3,0,none⟩ _;have k8:jag (fun b=>b=g3) w1 w2:=k7.trans (he.mono (fun _ _ h=>h.elim))
   refine⟨(HEW.o.mono (fun _ _ h=>h.elim)).trans' k8 (fun x _ e=>?_),?_⟩
   ·have e:x=_:=e;show x≠_∧x≠_;omega
   ·refine⟨HS9.o.ext.trans' k8 (fun x hx e=>by have e:x=_:=e;have:=HWG.o;omega),HS9.o.it.keeps k8 (fun e=>by omega),.slice ad (jbT n k).length cp,(HB1.o.set_same (i:=0) _).keeps he (fun h=>h),?_⟩
    rw[HX.o]
    exact⟨ja7 HB2.o k8 (fun b hb e=>by have:=HB3.o b hb;omega),HB3.o,HB4.o⟩
 case hdone =>
  intro W hS hd
  obtain⟨v,h1,h2,h3,h4⟩:=hS.row
  rw[jmE]at h2 h4
  obtain⟨ad,cp,rfl⟩:=ja1 h2
  have q4:W.cell? ⟨g3,0,none⟩=some (.slice ad (jaY n).length cp):=h1.cell (i:=0) (by rfl);have HS:=Hd hS;have HR:=Hd (show ORow 9 1 w W (.slice ad (jaY n).length cp) (jaY n).length ((jaY n).map Value.string)from⟨⟨_,_,rfl⟩,h2,hS.ext,fun b hb=>by have:=h3 b hb;have:=HGW.o;omega⟩);have H3:=Hd h3;have H4:=Hd h4;have HD:=Hd hd;clear hS h1 h2 h3 h4 hd;gi_wp2
  refine⟨by simp,.inl ⟨_,_,rfl,run_takeDeferred HD.o,?_⟩⟩
  refine⟨.slice ad (jaY n).length cp,by simp[results,Tryz.results132,go_sem],(HQ.o _ _).2 ⟨HR.o.keeps (jag.onePut W w3.heap.size (.deferred none)) (fun b hb e=>by have:=H3.o b hb;omega) (fun b hb e=>by have:=HGW.o;omega),H4.o⟩⟩
 case hstop=>intro c k W _ _ h;exact h.elim
theorem jkj:∀ (d:Nat) (n:jac),jbj (InlD d) n→∀ w,Calls Tryz.prog 132 #[n.V] w (jnQ w n)
 | 0,n,h,w=>jge 0 n h (fun _ _ hm=>hm.elim) w
 | d+1,n,h,w=>jge (d+1) n h (fun r m hm w=>jkj d m hm.1 w) w
end
section
open Go Go.RowKit
open Classical in
noncomputable def nodeOf(t:ByteArray):jac:=if h:∃ n,jbN t n then h.choose else jav
theorem jcc{t:ByteArray}{n:jac}(h:jbN t n):jbN t (nodeOf t):=by
 unfold nodeOf;have hh:∃ n,jbN t n:=⟨n,h⟩;rw[dif_pos hh];exact hh.choose_spec
theorem jgd{t:ByteArray}{n:jac}(h:jbN t n):(jaY n).length≤16:=by
 obtain⟨_,g,hg⟩:=h
 have:=(hg.one (inlP g)).refs
 unfold jaY;have h2:=List.length_filterMap_le jcv n.refs;omega
theorem jll{L:List ByteArray}(h:L.Nodup){i:Nat}{t:ByteArray}(ht:L[i]?=some t):t ∉ L.take i:=fun hm=>by
 obtain⟨k,hk,e⟩:=List.mem_take_iff_getElem.1 hm
 obtain⟨hi,e2⟩:=List.getElem?_eq_some_iff.1 ht
 exact List.pairwise_iff_getElem.1 h k i (by omega) hi (by omega) (e.trans e2.symm)
end
section
open Go Go.RowKit
theorem jmZ(w:World)(v:Value)(l:List Pair)(hv:RdP w v l)(hn:l.length≤9223372036854775807)(hs:∀ p∈l,p.1.size≤9223372036854775807∧p.2.size≤9223372036854775807)(h:ja6 l≠0):Calls Tryz.prog 26 #[v] w fun e w'=>e=.returned (.tuple #[.slice none 0 0,.int .i64 (ja6 l)])∧Ext w w':=by
 have hck:=jht w v l hv hn hs
 obtain⟨a,c,hsl⟩:=hv.sl
 subst hsl
 obtain⟨x,hx⟩:∃ x,x=ja6 l:=⟨_,rfl⟩
 rw[←hx]at h hck ⊢;have hne:(x == 0)=false:=by simpa using h
 have HT:=Hd hck;clear hck hv hx hs;rw[←callsIn_wide (n:=0)];refine callsIn_of_wp_marks Tryz.func26 rfl trivial ?_ rfl;simp only[Tryz.ntmps26,List.size_toArray,List.length_cons,List.length_nil,Nat.reduceAdd,Nat.reduceSub,Array.replicate_succ,Array.replicate_zero,List.push_toArray,List.append_toArray,List.nil_append,List.cons_append];gi_wp2_with fail
 refine⟨trivial,rfl,CallsIn.mono (callsIn_wide.2 HT.o) ?_⟩
 rintro e w1 ⟨rfl,hE⟩;have HE:=Hd hE;clear hE;gi_wp2_with fail
 refine⟨_,results_tmp2 rfl _ _ _,?_⟩
 exact⟨rfl,HE.o⟩
def jdY(p:Pair):Bool:=decide (p.1.size≤20) && decide (p.2.size≤100)
def fewB(l:List Pair):Bool:=l.all jdY && decide (l.length≤45)
def jr8(w:World)(l:List Pair)(i:Value)(wr:World):Prop:=∃ k:Nat,k≤l.length∧k≤46∧i=.int .i64 k∧Ext w wr∧(l.take k).all jdY=true
theorem jnV{l:List Pair}{k:Nat}{p:Pair}(h:l[k]?=some p):(l.take (k+1)).all jdY=((l.take k).all jdY && jdY p):=by
 rw[List.take_add_one,h,List.all_append];simp
theorem jlP{l:List Pair}{k:Nat}{p:Pair}(h:l[k]?=some p)(hb:jdY p=false):fewB l=false:=by
 unfold fewB
 have:l.all jdY=false:=by
  rw[Bool.eq_false_iff];intro h2
  have:=List.all_eq_true.1 h2 p (List.mem_of_getElem? h)
  rw[hb]at this;cases this
 rw[this];rfl
theorem jrp(w:World)(v:Value)(l:List Pair)(hv:RdP w v l)(hn:l.length≤9223372036854775807)(hs:∀ p∈l,p.1.size≤9223372036854775807∧p.2.size≤9223372036854775807) :
  Calls Tryz.prog 25 #[v] w fun e w'=>e=.returned (.bool (fewB l))∧Ext w w':=by
 have HV:=Hd hv;have HS:=Hd hs
 obtain⟨a,c,hsl⟩:=hv.sl
 subst hsl;clear hv hs
 obtain⟨R,hR⟩:∃ R,R=fewB l:=⟨_,rfl⟩
 rw[←hR];have HR:=Hd hR;clear hR;go_enter Tryz.func25,Tryz.ntmps25;go_wp2_with fail
 go_loopw [3] (fun i wr=>jr8 w l i wr) (fun i _=>l.length - (intOf i).toNat)
 case atStart=>exact⟨0,by omega,by omega,rfl,ExtR w,rfl⟩
 case round =>
  obtain⟨k,hk,hk6,rfl,hE,hall⟩:=hrel
  have HE:=Hd hE;have HALL:=Hd hall;clear hE hall
  by_cases hlt:k < l.length
  ·have b1:(k:Int) < (l.length:Int):=by omega
   by_cases h45:k≤45
   ·have b2:(k:Int)≤45:=by omega
    obtain⟨p,hp⟩:∃ p,l[k]?=some p:=⟨_,List.getElem?_eq_getElem hlt⟩
    rcases HV.o with⟨_,_,_,h0⟩ |⟨b,o,c1,hh,hb,hc,hcell⟩
    ·rw[h0]at hlt;cases hlt
    cases hh
    obtain⟨q1,q2⟩:=hcell k p hp
    have q1:=jab q1 HE.o;have q2:=jab q2 HE.o;have hsp:=HS.o p (List.mem_of_getElem? hp);have HP:=Hd hp
    obtain⟨x,y⟩:=p
    simp only at q1 q2 hsp;clear hcell hb hc hp
    by_cases hx:20 < x.size
    ·have b3:(20:Int) < (x.size:Int):=by omega
     have HF:=Hd (show R=false by rw[HR.o];exact jlP HP.o (by unfold jdY;simp;omega));clear hx;go_wp2_with fail
     go_ret
     exact⟨by rw[HF.o];rfl,HE.o⟩
    ·have b3:¬(20:Int) < (x.size:Int):=by omega
     by_cases hy:100 < y.size
     ·have b4:(100:Int) < (y.size:Int):=by omega
      have HF:=Hd (show R=false by rw[HR.o];exact jlP HP.o (by unfold jdY;simp;omega));clear hx hy;go_wp2_with fail
      go_ret
      exact⟨by rw[HF.o];rfl,HE.o⟩
     ·have b4:¬(100:Int) < (y.size:Int):=by omega
      have HG:=Hd (show (l.take (k+1)).all jdY=true by rw[jnV HP.o,HALL.o];unfold jdY;simp;omega);clear hx hy;go_wp2_with fail
      go_roundw
      case rel=>exact⟨k+1,by omega,by omega,by go_num,HE.o,HG.o⟩
      case measure=>simp[intOf];omega
   ·have b2:¬(k:Int)≤45:=by omega
    have b3:¬(l.length:Int)≤45:=by omega
    have HF:=Hd (show R=false by rw[HR.o];unfold fewB;simp;omega);clear h45;go_wp2_with fail
    go_ret
    exact⟨by rw[HF.o];rfl,HE.o⟩
  ·have hkl:k=l.length:=by omega
   have b1:¬(k:Int) < (l.length:Int):=by omega
   have hall:=HALL.o;rw[hkl,List.take_length]at hall
   by_cases h45:l.length≤45
   ·have b2:(l.length:Int)≤45:=by omega
    have HF:=Hd (show R=true by rw[HR.o];unfold fewB;rw[hall];simp;omega);clear hkl hall h45;go_wp2_with fail
    go_ret
    exact⟨by rw[HF.o];rfl,HE.o⟩
   ·have b2:¬(l.length:Int)≤45:=by omega
    have HF:=Hd (show R=false by rw[HR.o];unfold fewB;simp;omega);clear hkl hall h45;go_wp2_with fail
    go_ret
    exact⟨by rw[HF.o];rfl,HE.o⟩
abbrev Key:=List UInt8
abbrev EntK:=Ent Key
def kvE(x:EntK):Key × Value:=(x.1,x.2.1)
def getV(m:List (Key × Value))(k:Key):Option Value:=(m.find? fun x=>decide (k=x.1)).map (·.2)
def putV:List (Key × Value)→Key→Value→List (Key × Value)
 | [],k,v=>[(k,v)]
 | x :: r,k,v=>if k=x.1 then (k,v) :: r else x :: putV r k v
structure MapV(es:List EntK)(ck:Nat)(m:List (Key × Value)):Prop where
 same:es.map kvE=m
 born:(es.map (·.2.2)).Nodup
 lt:∀ x∈es,x.2.2 < ck
 keys:(m.map (·.1)).Nodup
theorem MapV.nil(ck:Nat):MapV [] ck []:=⟨rfl,by simp,by simp,by simp⟩
theorem MapV.len{es:List EntK}{ck:Nat}{m:List (Key × Value)}(h:MapV es ck m):es.length=m.length:=by rw[←h.same];simp
theorem jpe(k:Key):∀ es:List EntK,jbh es k=getV (es.map kvE) k
 | []=>rfl
 | x :: r=>by
  have ih:=jpe k r;unfold getV jbh at *;rw[List.map_cons,List.find?_cons,List.find?_cons]
  by_cases h:k=x.1
  ·simp[h,kvE]
  ·simp[h,kvE]at ih ⊢;exact ih
theorem MapV.get{es:List EntK}{ck:Nat}{m:List (Key × Value)}(h:MapV es ck m)(k:Key):jbh es k=getV m k:=by rw[jpe,h.same]
theorem jm9(k:Key)(v:Value)(n:Nat):∀ es:List EntK,(jbP es k v n).map kvE=putV (es.map kvE) k v
 | []=>rfl
 | x :: r=>by
  unfold jbP;rw[List.map_cons,putV]
  by_cases h:k=x.1
  ·rw[if_pos h,if_pos (show k=(kvE x).1 from h),List.map_cons];rfl
  ·rw[if_neg h,if_neg (show ¬ k=(kvE x).1 from h),List.map_cons,jm9 k v n r]
theorem jiw(x:EntK)(r:List EntK)(k:Key):jbh (x :: r) k=if k=x.1 then some x.2.1 else jbh r k:=by
 by_cases h:k=x.1 <;> simp[jbh,h]
theorem jiQ(k:Key)(v:Value)(n:Nat):∀ es:List EntK,(jbP es k v n).map (·.2.2)=if (jbh es k).isSome then es.map (·.2.2)else es.map (·.2.2)++[n]
 | []=>rfl
 | x :: r=>by
  unfold jbP;rw[jiw]
  by_cases h:k=x.1
  ·rw[if_pos h,if_pos h];simp
  ·rw[if_neg h,if_neg h,List.map_cons,jiQ k v n r]
   cases (jbh r k).isSome <;> simp
theorem jiR(k:Key)(v:Value):∀ m:List (Key × Value),(putV m k v).map (·.1)=if k∈m.map (·.1)then m.map (·.1)else m.map (·.1)++[k]
 | []=>rfl
 | x :: r=>by
  rw[putV]
  by_cases h:k=x.1
  ·rw[if_pos h,if_pos (by simp[h])];simp[h]
  ·rw[if_neg h,List.map_cons,jiR k v r]
   by_cases h2:k∈r.map (·.1)
   ·rw[if_pos h2,if_pos (by rw[List.map_cons];exact List.mem_cons_of_mem _ h2)];rfl
   ·rw[if_neg h2,if_neg (by rw[List.map_cons,List.mem_cons];exact fun e=>e.elim h h2)];rfl
theorem MapV.put{es:List EntK}{ck:Nat}{m:List (Key × Value)}(h:MapV es ck m)(k:Key)(v:Value):MapV (jbP es k v ck) (if (jbh es k).isSome then ck else ck+1) (putV m k v):=by
 have hb:=jiQ k v ck es
 refine⟨by rw[jm9,h.same],?_,?_,?_⟩
 ·rw[hb]
  split
  ·exact h.born
  ·rw[List.nodup_append]
   refine⟨h.born,by simp,fun a ha b hb e=>?_⟩
   obtain⟨x,hx,e1⟩:=List.mem_map.1 ha
   have:=h.lt x hx
   simp at hb;omega
 ·intro x hx
  have hm:x.2.2∈(jbP es k v ck).map (·.2.2):=List.mem_map.2 ⟨x,hx,rfl⟩;rw[hb]at hm;split at hm
  ·rename_i hs
   rw[if_pos hs]
   obtain⟨y,hy,e⟩:=List.mem_map.1 hm
   rw[←e];exact h.lt y hy
  ·rename_i hs
   rw[if_neg hs];rcases List.mem_append.1 hm with hm | hm
   ·obtain⟨y,hy,e⟩:=List.mem_map.1 hm
    have:=h.lt y hy;omega
   ·simp at hm;omega
 ·rw[jiR]
  split
  ·exact h.keys
  ·rename_i hn
   rw[List.nodup_append]
   exact⟨h.keys,by simp,fun a ha b hb e=>by simp at hb;subst hb;subst e;exact hn ha⟩
structure It where
 text:ByteArray
 refs:List ByteArray
 used:Int
 held:Int
abbrev Nd5:=Key × Nat × It
theorem Tryz.uMapIt:Tryz.prog.underlying 115=some (.map 9 121):=by kernel_rfl
theorem Tryz.zeroIt(w:World):(zeroValue 121).run Tryz.prog w=.ok (.pointer none) w:=by kernel_rfl
structure jdy(W:World)(b:Nat)(it:It):Prop where
 cells:∃ rv,Blk W b (.cells #[.string it.text,rv,.int .i64 it.used,.int .i64 it.held] 125)∧W.ownsRow 0 9 1 rv it.refs.length (it.refs.map Value.string)
def jgH(W:World)(F:BSet):Prop:=∀ b cur fz,F b→¬ Blk W b (.cells cur 9 fz)
theorem jgH.none(W:World):jgH W (fun _=>False):=fun _ _ _ h=>h.elim
theorem jeV{W W':World}{F:BSet}{v:Value}{n:Nat}{xs:List Value}(h:W.ownsRow 0 9 1 v n xs)(k:jag F W W')(hF:jgH W F):W'.ownsRow 0 9 1 v n xs:=by
 refine ja7 h k fun b hb hf=>?_
 obtain⟨_,⟨h1,_⟩ |⟨g,cap,cur,h1,_,h3,_⟩⟩:=h
 ·rw[h1]at hb;cases hb
 ·rw[h1]at hb
  have e:some g=some b:=hb;obtain rfl:=Option.some.inj e;exact hF g cur (0,0) hf h3
theorem jdy.keeps{W W':World}{F:BSet}{b:Nat}{it:It}(h:jdy W b it)(k:jag F W W')(hb:¬ F b)(hF:jgH W F):jdy W' b it:=by
 obtain⟨rv,h1,h2⟩:=h.cells
 exact⟨rv,h1.keeps k hb,jeV h2 k hF⟩
theorem jdy.lt{W:World}{b:Nat}{it:It}(h:jdy W b it):b < W.heap.size:=by obtain⟨rv,h1,_⟩:=h.cells;exact h1.lt
def kvN(x:Nd5):Key × Value:=(x.1,.pointer (some ⟨x.2.1,0,none⟩))
structure jct(W:World)(bm:Nat)(L:List Nd5):Prop where
 mp:∃ es ck,Blk W bm (.map (Tryz.ES.arr es) ck)∧MapV es ck (L.map kvN)
 blks:(L.map (·.2.1)).Nodup
 items:∀ x∈L,jdy W x.2.1 x.2.2
theorem jct.keeps{W W':World}{F:BSet}{bm:Nat}{L:List Nd5}(h:jct W bm L)(k:jag F W W')(hm:¬ F bm)(hL:∀ x∈L,¬ F x.2.1)(hF:jgH W F):jct W' bm L:=by
 obtain⟨es,ck,h1,h2⟩:=h.mp
 exact⟨⟨es,ck,h1.keeps k hm,h2⟩,h.blks,fun x hx=>(h.items x hx).keeps k (hL x hx) hF⟩
theorem jct.ext{W W':World}{bm:Nat}{L:List Nd5}(h:jct W bm L)(k:Ext W W'):jct W' bm L:=h.keeps k (fun h=>h) (fun _ _ h=>h) (jgH.none W)
def atL(L:List Nd5)(k:Key):Option Nd5:=L.find? fun x=>decide (k=x.1)
theorem jmC(k:Key):∀ L:List Nd5,getV (L.map kvN) k=(atL L k).map fun x=>.pointer (some ⟨x.2.1,0,none⟩)
 | []=>rfl
 | x :: r=>by
  have ih:=jmC k r;unfold getV atL at *;rw[List.map_cons,List.find?_cons,List.find?_cons]
  by_cases h:k=x.1
  ·simp[h,kvN]
  ·simp[h,kvN]at ih ⊢;exact ih
theorem ja8{L:List Nd5}{k:Key}{x:Nd5}(h:atL L k=some x):x∈L∧x.1=k:=by
 unfold atL at h;have h2:=List.find?_some h
 exact⟨List.mem_of_find?_eq_some h,(of_decide_eq_true h2).symm⟩
def ptrO(o:Option Nd5):Value:=match o with | some x=>.pointer (some ⟨x.2.1,0,none⟩) | none=>.pointer none
theorem jct.look{W:World}{bm:Nat}{L:List Nd5}(h:jct W bm L)(k:ByteArray)(ok:Bool) :
  (Instr.lookup 115 (.map (some bm)) (.string k) ok).run Tryz.prog W=.ok (if ok then .tuple #[ptrO (atL L k.data.toList),.bool (atL L k.data.toList).isSome]else ptrO (atL L k.data.toList)) W:=by
 obtain⟨es,ck,h1,h2⟩:=h.mp
 have:=jdh Tryz.ES Tryz.uMapIt h1 (Tryz.zeroIt W) k.data.toList ok
 rw[h2.get,jmC]at this;cases ha:atL L k.data.toList with
 | none=>rw[ha]at this;exact this
 | some x=>rw[ha]at this;exact this
structure jbo(W:World)(s bm:Nat)(room:Int)(L:List Nd5):Prop where
 st:Blk W s (.cells #[.int .i64 room,.map (some bm)] 123)
 mp:jct W bm L
theorem jbo.ext{W W':World}{s bm:Nat}{room:Int}{L:List Nd5}(h:jbo W s bm room L)(k:Ext W W'):jbo W' s bm room L:=⟨h.st.keeps k (fun h=>h),h.mp.ext k⟩
theorem jnt(w:World)(s bm:Nat)(room:Int)(L:List Nd5)(k:ByteArray)(h:jbo w s bm room L):Calls Tryz.prog 29 #[.pointer (some ⟨s,0,none⟩),.string k] w fun e w'=>e=.returned (optV ((atL L k.data.toList).map (·.2.2.text)))∧Ext w w':=by
 have q1:=h.st.cell (i:=1) (v:=.map (some bm)) (by rfl);have hlk:=h.mp.look k true;have HI:=Hd h.mp.items;simp only[if_true]at hlk;clear h;cases ha:atL L k.data.toList with
 | none =>
  rw[ha]at hlk;unfold ptrO at hlk;simp only[Option.isSome]at hlk;clear ha;go_enter Tryz.func29,Tryz.ntmps29;go_wp2_with fail
  go_ret2
  exact⟨rfl,ExtR w⟩
 | some x =>
  rw[ha]at hlk
  obtain⟨rv,hB,_⟩:=(HI.o x (ja8 ha).1).cells
  have q2:=hB.cell (i:=0) (v:=.string x.2.2.text) (by rfl);unfold ptrO at hlk;simp only[Option.isSome]at hlk;clear ha hB;go_enter Tryz.func29,Tryz.ntmps29;go_wp2_with fail
  go_ret2
  exact⟨rfl,ExtR w⟩
end
end Go.Proofs.YtcpnjmcipainpaaGreatDoor
