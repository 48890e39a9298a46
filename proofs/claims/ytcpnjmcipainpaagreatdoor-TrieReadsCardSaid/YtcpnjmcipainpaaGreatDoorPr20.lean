/- Lemmas; each is under no condition but those that it states. -/
import Derived.Test.YtcpnjmcipainpaaGreatDoorPr18
import Derived.Test.YtcpnjmcipainpaaGreatDoorPr19
namespace Go.Proofs.YtcpnjmcipainpaaGreatDoor
set_option linter.unusedSimpArgs false
set_option linter.unusedVariables false
set_option maxRecDepth 100000
set_option maxHeartbeats 16000000
open Go Go.RowKit
section
attribute [local go_sem] Oper.semAt_some
theorem jfI:∀ (l:List vB) (i:Nat),((jas i l).filterMap fun x=>jcB x.2)=l.filterMap jcB
 | [],_=>rfl
 | x :: l,i=>by
  unfold jas
  by_cases h:x.size=0
  ·rw[if_pos h,jfI l,List.filterMap_cons,jbh h,jf0]
  ·rw[if_neg h,List.filterMap_cons,List.filterMap_cons,jfI l]
def jcf(n:jad)(k:Nat):List vB:=(n.refsL.take k).filterMap fun x=>jcB x.2
theorem jqj(n:jad):jcf n n.refsL.length=jaU n:=by
 unfold jcf;rw[List.take_length];exact jfI _ _
theorem joA(n:jad){k:Nat}(hk:k < n.refsL.length):jcf n (k+1)=jcf n k++(jcB (n.rr k)).toList:=by
 unfold jcf;rw[List.take_succ_eq_append_getElem hk,List.filterMap_append]
 congr 1
 have:n.rr k=(n.refsL[k]).2:=by simp[jad.rr,List.getD_eq_getElem?_getD,hk]
 rw[this,List.filterMap_cons];cases jcB (n.refsL[k]).2 <;> rfl
theorem jqk(n:jad)(k:Nat):(jcf n k).length<=n.refs.length:=by
 have h1:∀ (l:List vB) (i:Nat),(jas i l).length<=l.length:=by
  intro l;induction l with
  | nil=>intro i;simp[jas]
  | cons x r ih=>intro i;unfold jas;split <;> simp <;> have:=ih (i+1) <;> omega
 have h2:=h1 n.refs 0;unfold jcf;have h3:=List.length_filterMap_le (fun x:Nat × vB=>jcB x.2) (n.refsL.take k);rw[List.length_take]at h3
 have:n.refsL=jas 0 n.refs:=rfl
 rw[this]at h3 ⊢;omega
theorem jnw{x:vB}{l:List vB}(h:x∈l):x.size<=(ja4 l).size:=Nat.le_trans (jg6 l x h) (jjG l)
theorem jnu{d:Nat}{r:vB}(h:MayP (InlD d) r)(hs:r.size < 32):jcB r=none:=by
 rcases h with h |⟨m,h⟩
 ·have:=h.size;omega
 ·exact jdw (inlP d) h
theorem jlG{d:Nat}{n:jad}(h:jbx (InlD d) n)(hs:(jaN n).size < 32):jaU n=[]:=by
 unfold jaU;cases h with
 | none=>exact jd1 16
 | leaf p v h1 h2 h3=>exact jd1 16
 | ext p r h1 h2 h3 =>
  show (r :: jam 15).filterMap jcB=[];have hr:r.size < 32:=by
   have e:jaN ⟨2,p,⟨#[]⟩,r :: jam 15⟩=ja4 [jao (putB p false),r]:=rfl
   have:=jnw (x:=r) (l:=[jao (putB p false),r]) (by simp)
   rw[e]at hs;omega
  rw[List.filterMap_cons,jd1,jnu (h3.imp id fun ⟨m,h,_⟩=>⟨m,h⟩) hr]
 | branch v rs h1 h2 h3 h4 =>
  show rs.filterMap jcB=[];rw[List.filterMap_eq_nil_iff];intro r hr
  by_cases h0:r.size=0
  ·rw[jbh h0,jf0]
  ·have e:jaN ⟨3,⟨#[]⟩,v,rs⟩=ja4 (ja0 rs v):=by
    show ja4 (jbH _)=_;rw[jdl _ h1]
   have hm:r∈ja0 rs v:=by
    unfold ja0;refine List.mem_append.2 (.inl (List.mem_map.2 ⟨r,hr,?_⟩));rw[if_neg h0]
   have:=jnw hm
   rw[e]at hs;exact jnu (h3 r hr h0) vO
theorem jxF{w:World}{B:Nat}{T:TypeId}{sz:Nat}{ad:Option Addr}{n cp:Nat}{xs:List Value}(h:w.ownsRow B T sz (.slice ad n cp) n xs):n<=cp:=by
 obtain⟨_,⟨h1,h2⟩ |⟨g,cap,cur,h1,h2,h3,h4,_⟩⟩:=h
 ·omega
 ·obtain⟨_,_,h5⟩:=Value.slice.inj h1;omega
structure HsS(w:World)(g3 gi m:Nat)(n:jad)(k:Nat)(W:World):Prop where
 ext:Ext w W
 it:Blk W gi (.cells n.cells.toArray 208)
 row:∃ v,Blk W g3 (.cells #[v] 34)/\W.ownsRow 0 9 1 v (jcf n k).length ((jcf n k).map Value.string)/\(∀ b,v.ownBlock=some b->m+2<=b)/\(jcf n k=[]->v=.slice none 0 0)
theorem HsS.st{w:World}{g3 gi m:Nat}{n:jad}{k:Nat}{W W':World}(h:HsS w g3 gi m n k W)(e:Ext W W'):HsS w g3 gi m n k W':=
 let ⟨v,h1,h2,h3,h4⟩:=h.row
 ⟨h.ext.trans e,h.it.keeps e (fun h=>h),v,h1.keeps e (fun h=>h),jbe h2 e,h3,h4⟩
theorem HsS.put{w:World}{g3 gi m:Nat}{n:jad}{k:Nat}{W:World}(h:HsS w g3 gi m n k W){r:Nat}(hr:w.heap.size<=r)(h1:g3 < r)(h1':gi < r)(h2:r < m+2)(o:Obj):HsS w g3 gi m n k (W.putObj r o):=
 let ⟨v,h3,h4,h5,h6⟩:=h.row
 ⟨h.ext.putObj (.inr hr) _,h.it.put_other vO _,v,h3.put_other vO _,jaW h4 (jae.onePut W r o) (fun b hb e=>by have:=h5 b hb;omega),h5,h6⟩
def jsa(w:World)(n:jad)(e:Ending)(w':World):Prop:=∃ v,e=.returned v/\SRow w w' v (jaU n).length (jaU n)/\(jaU n=[]->v=.slice none 0 0)
theorem js1{I:vB->jad->Prop}{n:jad}(h:jbx I n):∀ r∈n.refs,r.size≠0->MayP I r:=by
 have hz:∀ r∈jam 16,r.size≠0->MayP I r:=fun r hr h0=>by rw[List.eq_of_mem_replicate hr]at h0;exact absurd rfl h0
 cases h with
 | none=>exact hz
 | leaf p v h1 h2 h3=>exact hz
 | ext p r h1 h2 h3 =>
  intro x hx h0;rcases List.mem_cons.1 hx with rfl | hx
  ·exact h3.imp id fun ⟨m,h,_⟩=>⟨m,h⟩
  ·rw[List.eq_of_mem_replicate hx]at h0;exact absurd rfl h0
 | branch v rs h1 h2 h3 h4=>exact h3
theorem jhR(d:Nat)(n:jad)(h:jbx (InlD d) n)(ih:∀ r m,InlD d r m->∀ w,vQ 132 #[m.V] w (jsa w m))(w:World):vQ 132 #[n.V] w (jsa w n):=by
 have hr:=(h.one (inlP d)).refs
 obtain⟨i0,hi,hz0,hz1,hz2⟩:=info_parts Tryz.infoStr
 have HV:=Hd (fun w=>jkh (inlP d) w n h);have HM:=Hd (js1 h);have HIH:=Hd ih;have HQ:=Hd (show ∀ (v:Value) W',jsa w n (.returned v) W'↔(SRow w W' v (jaU n).length (jaU n)/\(jaU n=[]->v=.slice none 0 0))from fun v W'=>⟨fun ⟨_,e,h⟩=>by cases e;exact h,fun h=>⟨v,rfl,h⟩⟩);have hld:=jan (w.alloc (.cells n.cells.toArray 144)) _ n hr (Blk.new w _);clear h ih;unfold jad.V at hld ⊢;refine (callsIn_wide (n:=0)).1 ?_;refine callsIn_of_wp_marks Tryz.func132 rfl trivial ?_ rfl;simp only[Tryz.ntmps132,List.size_toArray,List.length_cons,List.length_nil,Nat.reduceAdd,Nat.reduceSub,Array.replicate_succ,Array.replicate_zero,List.push_toArray,List.append_toArray,List.nil_append,List.cons_append];gi_wp2_with (refine jbk rfl 144 (.tmp 1) rfl _ _ rfl hld ?_)
 refine⟨trivial,rfl,CallsIn.mono (callsIn_wide.2 (HV.o _)) ?_⟩
 rintro e w1 ⟨rfl,hE⟩;have hB1:=(Blk.new w (.cells n.cells.toArray 144)).keeps hE (fun h=>h);have HE1:=Hd (((ExtR w).alloc _).trans hE)
 obtain⟨W2,hW2⟩:=vE (w1.alloc (.cells #[.slice none 0 0] 34))
 have HW2:=Hd hW2;have hB2:Blk W2 w.heap.size (.cells n.cells.toArray 144):=by rw[hW2];exact hB1.alloc _
 have HB3:=Hd (show Blk W2 w1.heap.size (.cells #[.slice none 0 0] 34) by rw[hW2];exact Blk.new w1 _);have HE2:=Hd (show Ext w W2 by rw[hW2];exact HE1.o.alloc _);have hld2:=jan W2 _ n hr hB2;have hg3:=hB1.lt;rw[hW2]at hld2;clear hld hE hB1 hW2 hB2;unfold jad.V at hld2;gi_wp2_with (refine jbk rfl 144 (.tmp 1) rfl _ _ rfl hld2 ?_)
 rw[<-HW2.o]
 refine⟨trivial,rfl,CallsIn.mono (callsIn_wide.2 (jnJ W2 n)) ?_⟩
 rintro e w3 ⟨rfl,hbn,hE⟩;have hW2s:=HB3.o.lt
 obtain⟨gi,hgi⟩:∃ g,g=W2.heap.size:=⟨_,rfl⟩
 obtain⟨g3,hg3e⟩:∃ g,g=w1.heap.size:=⟨_,rfl⟩
 rw[<-hg3e]at HB3 hW2s hg3;rw[<-hgi]at hbn hW2s ⊢;rw[<-hg3e];have S0:HsS w g3 gi w3.heap.size n 0 w3:=⟨HE2.o.trans hE,hbn,_,HB3.o.keeps hE (fun h=>h),World.ownsRow_nil _ _ _ _,(fun b hb=>by cases hb),(fun _=>rfl)⟩;have hl1:=hbn.lt;have hgw:=HE1.o.size;have HS0:=Hd S0;have HGW:=Hd (show w.heap.size<=g3 by omega);clear hld2 hbn hE HE1 HW2 HB3 HE2 S0 hgw hgi hg3e;gi_wp2_with fail
 refine jei (N:=n.refsL.length) (gf:=215) (lb:=#[.pointer (some ⟨gi,0,none⟩)]) rfl (vX 215) (jj1 gi n hr)
  (fun k=>rfl) (HsS w g3 gi w3.heap.size n) (fun _ _ _=>False) (fun k W W' h e=>h.st e) (fun _ _ _ _ h _=>h) (fun k W h=>h.it)
  (fun k W o h=>h.put (by have:=HGW.o;omega) vO vO vO _)
  (fun k W o h=>h.put (by have:=HGW.o;omega) vO vO vO _) (fun _ _ _ _ h=>h)
  HS0.o (fun k=>{ tmps:=#[.agg n.cells.toArray,.pointer (some ⟨w.heap.size,0,none⟩),.slice none 0 0,.pointer (some ⟨g3,0,none⟩),undef,.string (n.rr k),undef,undef,undef,undef,.agg n.cells.toArray,.bool true,.bool false,.agg n.cells.toArray,.func (.func 215) #[] #[.pointer (some ⟨gi,0,none⟩)],.int .i64 (n.ri k:Nat),.string (n.rr k),undef,undef,undef,undef,undef,undef,undef,undef,undef,undef,undef,undef,undef,undef,undef,undef,undef,undef,undef,undef],defers:=[] })
  ?hassign ?hbody ?hdone ?hstop
 case hassign =>
  intro l j W K hK;rw[jtQ,jqc];simp only[List.set_cons_zero,List.set_cons_succ];gi_wp2;exact hK
 case hbody =>
  intro l k W hk hS hlt;have hri:=jtL n hr hk;have hmay:=HM.o _ (List.mem_of_getElem? hri.2.1) hri.2.2;have hst:=joA n hk;have hkl:=jqk n k;rw[hr]at hkl
  obtain⟨r,hre⟩:=vE (n.rr k)
  rw[<-hre]at hmay hst ⊢;have HS:=Hd hS;have HST:=Hd hst;have hwg:=HGW.o;have HWG:=Hd hwg;clear hS hri hst hre hwg;rcases hmay with hh |⟨m,hm⟩
  ·obtain⟨hs,x,q,h3,h4⟩:=hh.known
   have HX:=Hd (show jcf n (k+1)=jcf n k++[x] by
    rw[HST.o];unfold jcB;rw[h3];show _++(jfZ r q).toList=_;rw[h4];rfl)
   have H3:=Hd h3;have H4:=Hd h4;clear h3 h4 hh;gi_wp2_with fail
   refine⟨trivial,rfl,CallsIn.mono (CallsIn.inRound l (callsIn_wide.2 (jd0 W r q hs H3.o))) ?_⟩
   rintro e w5 ⟨rfl,hE⟩;rw[H4.o];have S5:=HS.o.st hE
   obtain⟨v,h1,h2,h3,h4⟩:=S5.row
   obtain⟨ad,cp,rfl⟩:=jaJ h2
   have q4:w5.cell? ⟨g3,0,none⟩=some (.slice ad (jcf n k).length cp):=h1.cell (i:=0) vF;have f4:w5.frozen? ⟨g3,0,none⟩=false:=h1.frozen;have hsz:=hE.size;have HS5:=Hd S5;have HE5:=Hd hE;have HB1:=Hd h1;have HB2:=Hd h2;have HB3:=Hd h3;clear S5 h1 h2 h3 h4 hE;unfold optV;gi_wp2_with (gi_at_builtin;refine jbV _ rfl (.tmp 23) (.tmp 25) 34 rfl 9 i0 _ 1 16 Tryz.uStrs hi hz0 hz1 hz2 rfl vI (.slice ad (jcf n k).length cp) (jcf n k).length _ rfl (jbe HB2.o ((ExtR w5).alloc _)) ⟨w5.heap.size,0,none⟩ 1 1 [.string x] rfl rfl (jaS (Blk.new w5 _)) (by simp[Value.oneCell']) (by unfold maxLen;omega) vO ?_)
   intro v' w6 r1 r2 r3;have K6:jae (fun b=>(Value.slice ad (jcf n k).length cp).ownBlock=some b) w5 w6:=((jae.refl _ w5).alloc _).trans r2;have hl:(jcf n (k+1)).length=(jcf n k).length+1:=by rw[HX.o];simp
   have r1:w6.ownsRow 0 9 1 v' (jcf n (k+1)).length ((jcf n (k+1)).map Value.string):=by
    rw[hl,HX.o,List.map_append];exact r1
   have nb:∀ b,b < w3.heap.size+2->¬(Value.slice ad (jcf n k).length cp).ownBlock=some b:=fun b hb e=>by have:=HB3.o b e;omega
   obtain⟨ad',cp',rfl⟩:=jaJ r1
   have hv':∀ b,(Value.slice ad' (jcf n (k+1)).length cp').ownBlock=some b->w3.heap.size+2<=b:=fun b hb=>by
    rcases r3 with r3 | r3
    ·exact HB3.o b (r3 ▸ hb)
    ·have:=r3 b hb;first | omega |(simp at this;omega)
   have B4:=HB1.o.keeps K6 (nb _ vO);have q4':w6.cell? ⟨g3,0,none⟩=some (.slice ad (jcf n k).length cp):=B4.cell (i:=0) vF;have f4':w6.frozen? ⟨g3,0,none⟩=false:=B4.frozen;have HK6:=Hd K6;have HB4:=Hd B4;have R1:=Hd r1;have HV':=Hd hv';have NB:=Hd nb;clear K6 r1 r2 r3 hv' B4 nb q4 f4 hl;gi_wp2;have k7:jae (fun b=>b=g3) w6 (w6.setCell ⟨g3,0,none⟩ (.slice ad' (jcf n (k+1)).length cp')):=jae.oneSet w6 ⟨g3,0,none⟩ _
   refine⟨((HE5.o.mono (fun _ _ h=>h.elim)).trans (HK6.o.mono (fun x _ e=>?_))).trans' k7 (fun x _ e=>?_),?_⟩
   ·have:=HB3.o x e;show x≠_/\x≠_;omega
   ·have e:x=_:=e;show x≠_/\x≠_;omega
   ·refine⟨(HS5.o.ext.trans' HK6.o (fun x hx e=>by have:=HB3.o x e;have:=HWG.o;omega)).trans' k7 (fun x hx e=>by have e:x=_:=e;have:=HWG.o;omega),
     (HS5.o.it.keeps HK6.o (NB.o _ vO)).keeps k7 (fun e=>by omega),
     _,HB4.o.set_same (i:=0) _,jaW R1.o k7 (fun b hb e=>by have:=HV'.o b hb;omega),HV'.o,fun h0=>?_⟩
    rw[HX.o]at h0;simp at h0
  ·have hs:=(inlP d).small r m hm
   obtain⟨q,h3,h4⟩:=(inlP d).nohash r m hm
   have HX:=Hd (show jcf n (k+1)=jcf n k by
    rw[HST.o,jdw (inlP d) hm];simp)
   have HC:=Hd ((inlP d).inl r m hm);have HRL:=Hd ((inlP d).refs r m hm);have H3:=Hd h3;have H4:=Hd h4;have HCM:=Hd (show ∀ W,vQ 132 #[m.V] W fun e W'=>e=.returned (.slice none 0 0)/\Ext W W' from fun W=>by
    have hsm:jaU m=[]:=by
     cases d with
     | zero=>exact hm.elim
     | succ d=>exact jlG hm.1 (by rw[<-hm.2.1];exact hm.2.2.1)
    refine (HIH.o r m hm W).mono ?_;rintro e W' ⟨v,rfl,h1,h2⟩;rw[h2 hsm];exact⟨rfl,h1.ext⟩)
   clear h3 h4 hm;gi_wp2_with fail
   refine⟨trivial,rfl,CallsIn.mono (CallsIn.inRound l (callsIn_wide.2 (jd0 W r q vO H3.o))) ?_⟩
   rintro e w5 ⟨rfl,hE⟩;rw[H4.o];have HE5:=Hd hE;clear hE;unfold optV;gi_wp2_with fail
   refine⟨trivial,rfl,CallsIn.mono (CallsIn.inRound l (callsIn_wide.2 (HC.o w5))) ?_⟩
   rintro e w6 ⟨rfl,hE⟩;have HE6:=Hd (HE5.o.trans hE);clear hE HE5;unfold jad.V;gi_wp2_with (refine jlP Tryz.allocNode rfl rfl ?_;intro W7 hB7 hE7;refine jkk (vs:=m.cells) rfl rfl rfl rfl hB7 (by rw[m.cells_len HRL.o];rfl) (by rw[m.cells_len HRL.o];exact Tryz.szNode) m.one ?_;intro W8 hB8 hE8)
   have hX8:Ext w6 W8:=hE7.trans' hE8 (fun x hx e=>by have e:x=w6.heap.size:=e;omega);have S8:=HS.o.st (HE6.o.trans hX8)
   obtain⟨v,h1,h2,h3,h4⟩:=S8.row
   obtain⟨ad,cp,rfl⟩:=jaJ h2
   have hcp:=jxF h2;have HS8:=Hd S8;have HB8:=Hd hB8;have H1:=Hd h1;have HX8:=Hd hX8;have HCP:=Hd hcp;clear hB7 hE7 hE8 hB8 hX8 S8 h1 h2 h3 h4 hcp;gi_wp2_with fail
   refine jgS [0,1,2,3,4] [4] Ext ExtR ExtT vY vY vY vY ?_;refine qL ⟨g3,0,none⟩ _ rfl (fun w1 h1=>jab Tryz.uStrs rfl (jaa (by exact H1.o.cell (i:=0) (v:=.slice ad (jcf n k).length cp) vF) ((jaj _).trans h1))) ?_;refine vS ?_;refine qL ⟨w6.heap.size,0,none⟩ _ rfl (fun w1 h1=>jan w1 _ m HRL.o (HB8.o.keeps ((jaj _).trans h1) (fun h=>h))) ?_;refine vS ?_;refine jcY _ 132 #[m.V] (.slice none 0 0) rfl vY rfl (fun w1=>jay (vX 132) vY) (fun w1 h1=>HCM.o w1) ?_;refine vS ?_;refine qA _ (.slice ad (jcf n k).length cp) rfl (fun w1=>jep (jcM Tryz.uStrs hi ad (jcf n k).length cp HCP.o 0 w1) vY) ?_;refine vS ?_;refine qH _ rfl (fun w1 he K hK=>?_);have S9:=HS8.o.st ((jaj _).trans he);have hEW:Ext W w1:=(HE6.o.trans HX8.o).trans ((jaj _).trans he)
   obtain⟨v,h1,h2,h3,h4⟩:=S9.row
   have hcell:w1.cell? ⟨g3,0,none⟩=some (.slice ad (jcf n k).length cp):=jaa (H1.o.cell (i:=0) (v:=.slice ad (jcf n k).length cp) vF) ((jaj _).trans he);have hve:v=.slice ad (jcf n k).length cp:=by
    have:=h1.cell (i:=0) (v:=v) vF
    rw[hcell]at this;exact (Option.some.inj this).symm
   rw[hve]at h1 h2 h3 h4;have q4:=hcell;have f4:w1.frozen? ⟨g3,0,none⟩=false:=h1.frozen;have HS9:=Hd S9;have HB1:=Hd h1;have HB2:=Hd h2;have HB3:=Hd h3;have HB4:=Hd h4;have HEW:=Hd hEW;clear S9 hcell hve h1 h2 h3 h4 he hEW;go_simp;refine hK _ _ ?_;clear hK K q4 f4;refine qE (fun w2 he=>?_);have k7:jae (fun b=>b=g3) w1 (w1.setCell ⟨g3,0,none⟩ (.slice ad (jcf n k).length cp)):=jae.oneSet w1 ⟨g3,0,none⟩ _;have k8:jae (fun b=>b=g3) w1 w2:=k7.trans (he.mono (fun _ _ h=>h.elim))
   refine⟨(HEW.o.mono (fun _ _ h=>h.elim)).trans' k8 (fun x _ e=>?_),?_⟩
   ·have e:x=_:=e;show x≠_/\x≠_;omega
   ·refine⟨HS9.o.ext.trans' k8 (fun x hx e=>by have e:x=_:=e;have:=HWG.o;omega),HS9.o.it.keeps k8 (fun e=>by omega),.slice ad (jcf n k).length cp,(HB1.o.set_same (i:=0) _).keeps he (fun h=>h),?_⟩
    rw[HX.o]
    exact⟨jaW HB2.o k8 (fun b hb e=>by have:=HB3.o b hb;omega),HB3.o,HB4.o⟩
 case hdone =>
  intro W hS hd
  obtain⟨v,h1,h2,h3,h4⟩:=hS.row
  rw[jqj]at h2 h4
  obtain⟨ad,cp,rfl⟩:=jaJ h2
  have q4:W.cell? ⟨g3,0,none⟩=some (.slice ad (jaU n).length cp):=h1.cell (i:=0) vF;have HS:=Hd hS;have HR:=Hd (show ORow 9 1 w W (.slice ad (jaU n).length cp) (jaU n).length ((jaU n).map Value.string)from⟨⟨_,_,rfl⟩,h2,hS.ext,fun b hb=>by have:=h3 b hb;have:=HGW.o;omega⟩);have H3:=Hd h3;have H4:=Hd h4;have HD:=Hd hd;clear hS h1 h2 h3 h4 hd;gi_wp2
  refine⟨by simp,.inl ⟨_,_,rfl,run_takeDeferred HD.o,?_⟩⟩
  refine⟨.slice ad (jaU n).length cp,by simp[results,Tryz.results132,go_sem],(HQ.o _ _).2 ⟨HR.o.keeps (jae.onePut W w3.heap.size (.deferred none)) (fun b hb e=>by have:=H3.o b hb;omega) (fun b hb e=>by have:=HGW.o;omega),H4.o⟩⟩
 case hstop=>intro c k W _ _ h;exact h.elim
theorem jnm:∀ (d:Nat) (n:jad),jbx (InlD d) n->∀ w,vQ 132 #[n.V] w (jsa w n)
 | 0,n,h,w=>jhR 0 n h (fun _ _ hm=>hm.elim) w
 | d+1,n,h,w=>jhR (d+1) n h (fun r m hm w=>jnm d m hm.1 w) w
end
section
open Classical in
noncomputable def nodeOf(t:vB):jad:=if h:∃ n,jbK t n then h.choose else jar
theorem jb9{t:vB}{n:jad}(h:jbK t n):jbK t (nodeOf t):=by
 unfold nodeOf;have hh:∃ n,jbK t n:=⟨n,h⟩;rw[dif_pos hh];exact hh.choose_spec
theorem jhQ{t:vB}{n:jad}(h:jbK t n):(jaU n).length<=16:=by
 obtain⟨_,g,hg⟩:=h
 have:=(hg.one (inlP g)).refs
 unfold jaU;have h2:=List.length_filterMap_le jcB n.refs;omega
theorem joM{L:List vB}(h:L.Nodup){i:Nat}{t:vB}(ht:L[i]?=some t):t ∉ L.take i:=fun hm=>by
 obtain⟨k,hk,e⟩:=List.mem_take_iff_getElem.1 hm
 obtain⟨hi,e2⟩:=List.getElem?_eq_some_iff.1 ht
 exact List.pairwise_iff_getElem.1 h k i vO hi vO (e.trans e2.symm)
end
end Go.Proofs.YtcpnjmcipainpaaGreatDoor
