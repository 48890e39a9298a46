/- Lemmas; each is under no condition but those that it states. -/
import Derived.Test.YtcpnjmcipainpaaGreatDoorPr35
namespace Go.Proofs.YtcpnjmcipainpaaGreatDoor
set_option linter.unusedSimpArgs false
set_option linter.unusedVariables false
set_option maxRecDepth 100000
set_option maxHeartbeats 16000000
open Go Go.RowKit
section
attribute [local go_sem] Oper.semAt_some
theorem jl8(k:Int)(p v r r':vB):(jb4 k p v r).toArray.setIfInBounds 3 (.string r')=(jb4 k p v r').toArray:=by simp[jb4]
theorem jve(w0 W:World)(q:vB)(n:PA)(T:TypeId)(x:Value)(Dn:Nat->Prop)(b:Nat)(hB:Blk w0 b (.cells #[.string q,.iface T x] 286))(hv:PaO n (.iface T x) Dn w0)(hR:juR n)(g:Nat)(v:Value)(Tx:List vB)(hc:jb2 w0)(he:ErrT w0)(hE:Ext w0 W)(hW:WrAt w0.heap.size g v Tx W)(hl:Tx.length+cntP n<=100000) :
  vQ 313 #[.pointer (some ⟨b,0,none⟩),.pointer (some ⟨g,0,none⟩)] W (FoP w0.heap.size g v W (jad.V ⟨2,q,⟨#[]⟩,refB (textP n) :: jam 15⟩) (Tx++(bigs (textP n)++underP n))):=by
 have Q0:=Hd (hB.cell (i:=0) (v:=.string q) vF);have Q1:=Hd (hB.cell (i:=1) (v:=.iface T x) vF);have HW:=Hd (And.intro hW hE);have HREF:=Hd (fun w (e:Ext w0 w) (k:WrAt w0.heap.size g v Tx w)=>hR w0 w T x Dn g v Tx hc he hv e k hl)
 obtain⟨t,ht⟩:=vE (refB (textP n))
 obtain⟨U,hU⟩:=vE (Tx++(bigs (textP n)++underP n))
 rw[<-ht, <-hU]at HREF;rw[<-ht, <-hU];clear hB hv hR hc he hE hW hl ht hU;have hbd:∀ w,(Instr.build 144 #[(0,.int .i64 2),(1,.string q)]).run Tryz.prog w=.ok (.agg (jb4 2 q ⟨#[]⟩ ⟨#[]⟩).toArray) w:=fun w=>by kernel_rfl
 go_enter Tryz.func313,Tryz.ntmps313;go_wp2_with (first |(refine jah (w:=W) Tryz.allocNode rfl rfl ?_;intro W1 hB1 hE1;have HB1:=Hd hB1;have HE1:=Hd hE1;have q0:=jaa Q0.o (HW.o.2.trans hE1);clear hB1 hE1) |(refine jah (w:=W1) Tryz.allocNode rfl rfl ?_;intro W2 hB2 hE2) |(refine jag (vs:=jb4 2 q ⟨#[]⟩ ⟨#[]⟩) rfl rfl rfl rfl hB2 rfl Tryz.szNode (jb5 _ _ _ _) ?_;intro W3 hB3 hE3;have q1:=jaa (jaa Q1.o (HW.o.2.trans HE1.o)) (hE2.trans' hE3 (fun x hx e=>by have e:x=W1.heap.size:=e;omega))))
 have hE3':Ext W1 W3:=hE2.trans' hE3 (fun x hx e=>by have e:x=W1.heap.size:=e;omega);have HB3:=Hd (And.intro hB3 (And.intro (HB1.o.keeps hE3' (fun e=>e)) (HE1.o.trans hE3')));have hlt:=HB1.o.lt;have HN:=Hd (show W.heap.size < W1.heap.size/\W1.heap.size < W3.heap.size from⟨hlt,hB3.lt⟩);clear hB2 hE2 hB3 hE3 hE3' hlt;refine (HREF.o W3 (HW.o.2.trans HB3.o.2.2) (HW.o.1.ext HB3.o.2.2)).mono ?_;rintro e w4 ⟨rfl,v4,hT4⟩;have hgw:=HW.o.1.var.lt;have hg1:W1.heap.size≠g:=by have:=HN.o.1;omega
 have ho1:v.ownBlock≠some W1.heap.size:=fun e=>by have:=(HW.o.1.own _ e).2.2;have:=HN.o.1;omega
 have hB4:=hT4.blk HB3.o.1 hg1 ho1;have hB4v:=hT4.blk HB3.o.2.1 vO (fun e=>by have:=(HW.o.1.own _ e).2.2;omega);have qf:w4.cell? ⟨W1.heap.size,3,none⟩=some (.string ⟨#[]⟩):=hB4.cellL (i:=3) vF;have ff:w4.frozen? ⟨W1.heap.size,3,none⟩=false:=hB4.frozen
 obtain⟨W5,hW5⟩:=vE (w4.setCell ⟨W1.heap.size,3,none⟩ (.string t))
 have hB5:Blk W5 W1.heap.size (.cells (jb4 2 q ⟨#[]⟩ t).toArray 144):=by
  have:=hB4.set_same (i:=3) (.string t)
  rw[jl8]at this;rw[hW5];exact this
 have hK5:jae (fun z=>z=W1.heap.size) w4 W5:=by rw[hW5];exact jae.oneSet w4 ⟨W1.heap.size,3,none⟩ (.string t)
 have hB5v:Blk W5 W.heap.size (.cells jar.cells.toArray 144):=hB4v.keeps hK5 (fun e=>by have:=HN.o.1;have e:W.heap.size=W1.heap.size:=e;omega);have hv4:v4.ownBlock≠some W1.heap.size:=fun e=>by
  rcases hT4.sub _ e with e | e
  ·exact ho1 e
  ·have:=HN.o.2;omega
 have hT5:=(WrTo.ahead HB3.o.2.2 hT4).fill hK5 hg1 hv4 (by have:=HN.o.1;omega);have hv4v:v4.ownBlock≠some W.heap.size:=fun e=>by
  rcases hT4.sub _ e with e | e
  ·have:=(HW.o.1.own _ e).2.2;omega
  ·have:=HN.o.1;have:=HN.o.2;omega
 have HT5:=Hd (And.intro hT5 (And.intro hB5v (And.intro hv4v (show W.heap.size≠g by omega))));have HW5:=Hd hW5;clear hT4 hgw hg1 ho1 hB4 hB4v hK5 hv4 hT5 hv4v hW5 hB5v q0 q1;have hL5:Blk (w4.setCell ⟨W1.heap.size,3,none⟩ (.string t)) W1.heap.size (.cells (jad.cells ⟨2,q,⟨#[]⟩,t :: jam 15⟩).toArray 144):=by rw[<-HW5.o];exact hB5
 have hF5:Blk (w4.setCell ⟨W1.heap.size,3,none⟩ (.string t)) W.heap.size (.cells jar.cells.toArray 144):=by rw[<-HW5.o];exact HT5.o.2.1
 go_wp2_with (refine jaf 144 (.tmp 5) rfl rfl _ _ rfl (jan _ _ ⟨2,q,⟨#[]⟩,t :: jam 15⟩ rfl hL5) ?_;refine jag (vs:=jad.cells ⟨2,q,⟨#[]⟩,t :: jam 15⟩) rfl rfl rfl rfl hF5 rfl Tryz.szNode (jad.one _) ?_;intro W8 hB8 hE8)
 rw[<-HW5.o]at hE8;refine bodyPost_ret (jbE rfl rfl (jap W8 _ ⟨2,q,⟨#[]⟩,t :: jam 15⟩ rfl hB8)) rfl ?_
 exact⟨rfl,v4,HT5.o.1.fill hE8 HT5.o.2.2.2 HT5.o.2.2.1 (Nat.le_refl _)⟩
def bfN(u:vB)(rs:List vB)(k:Nat):jad:=⟨3,⟨#[]⟩,u,rs.take k++jam (16 - k)⟩
theorem ju0(u:vB){rs:List vB}(h:rs.length=16){k:Nat}(hk:k < 16)(r:vB)(hr:rs[k]?=some r):(bfN u rs k).cells.set (3+k) (.string r)=(bfN u rs (k+1)).cells:=by
 have e1:(rs.take k++jam (16 - k)).set k r=rs.take (k+1)++jam (16 - (k+1)):=by
  rw[List.set_append_right _ _ (by simp[h];omega)]
  have:k - (rs.take k).length=0:=by simp[h];omega
  rw[this,show 16 - k=(16 - (k+1))+1 by omega];unfold jam;rw[List.replicate_succ,List.set_cons_zero,List.take_add_one,hr];simp
 unfold jad.cells bfN;simp only;rw[show 3+k=k+1+1+1 by omega,List.set_cons_succ,List.set_cons_succ,List.set_cons_succ, <-e1,List.map_set]
theorem jss(u:vB){rs:List vB}(h:rs.length=16){k:Nat}(hk:k < 16)(hr:rs[k]?=some ⟨#[]⟩):bfN u rs (k+1)=bfN u rs k:=by
 unfold bfN;rw[List.take_add_one,hr,show 16 - k=(16 - (k+1))+1 by omega];unfold jam;rw[List.replicate_succ];simp
theorem juZ(u:vB){rs:List vB}(h:rs.length=16){k:Nat}(hk:k<=16):(bfN u rs k).refs.length=16:=by
 unfold bfN jam;simp[h];omega
theorem jyD(u:vB)(rs:List vB):(bfN u rs 0).cells=jb4 3 ⟨#[]⟩ u ⟨#[]⟩:=rfl
theorem jw1(u:vB){rs:List vB}(h:rs.length=16):bfN u rs 16=⟨3,⟨#[]⟩,u,rs⟩:=by
 unfold bfN jam;rw[List.take_of_length_le vO];simp
noncomputable def underK(ks:Nat->PA)(k:Nat):List vB:=(List.range k).flatMap fun i=>if (ks i).isNil then []else bigs (textP (ks i))++underP (ks i)
theorem jmM(ks:Nat->PA)(k:Nat):underK ks (k+1)=underK ks k++(if (ks k).isNil then []else bigs (textP (ks k))++underP (ks k)):=by
 unfold underK;rw[List.range_succ,List.flatMap_append]
 simp
theorem jo9(ks:Nat->PA)(k:Nat):(underK ks k).length<=sumF (fun i=>cntP (ks i)) k:=jfY _ _ (fun i=>by
 show (if (ks i).isNil=true then ([]:List vB)else bigs (textP (ks i))++underP (ks i)).length<=cntP (ks i);cases hn:(ks i).isNil with
 | true=>rw[if_pos rfl];exact Nat.zero_le _
 | false =>
  rw[if_neg ff,List.length_append];have h1:=jg5 (textP (ks i))
  have:=jeh (ks i) hn
  omega) k
noncomputable def refsK(ks:Nat->PA):List vB:=(List.range 16).map fun i=>if (ks i).isNil then ⟨#[]⟩else refB (textP (ks i))
theorem jc8(ks:Nat->PA):(refsK ks).length=16:=by unfold refsK;simp
theorem jtH(ks:Nat->PA){k:Nat}(hk:k < 16):(refsK ks)[k]?=some (if (ks k).isNil then ⟨#[]⟩else refB (textP (ks k))):=by
 unfold refsK;rw[List.getElem?_map,List.getElem?_range hk];rfl
def jye(z g:Nat)(v:Value)(W:World)(L:Nat)(u:vB)(rs:List vB)(Tx:List vB)(ks:Nat->PA)(iv:Value)(wr:World):Prop:=
 ∃ k:Nat,k<=16/\iv=.int .i64 k/\∃ v',WrTo z g v W wr v' (Tx++underK ks k)/\Blk wr L (.cells (bfN u rs k).cells.toArray 144)/\Blk wr W.heap.size (.cells jar.cells.toArray 144)/\v'.ownBlock≠some L/\v'.ownBlock≠some W.heap.size
theorem ju1(w0 W:World)(u:vB)(ks:Nat->PA)(b:Nat)(vk:Nat->Value)(Dk:Nat->Nat->Prop)(hb:BrRd u ks b vk Dk w0)(hR:∀ i,i < 16->(ks i).isNil=false->juR (ks i))(g:Nat)(v:Value)(Tx:List vB)(hc:jb2 w0)(he:ErrT w0)(hE:Ext w0 W)(hW:WrAt w0.heap.size g v Tx W)(hl:Tx.length+(1+sumF (fun i=>cntP (ks i)) 16)<=100000) :
  vQ 317 #[.pointer (some ⟨b,0,none⟩),.pointer (some ⟨g,0,none⟩)] W (FoP w0.heap.size g v W (jad.V ⟨3,⟨#[]⟩,u,refsK ks⟩) (Tx++underK ks 16)):=by
 have q0:=jaa (hb.blk.cellL (i:=0) (v:=.string u) vF) hE;have HB:=Hd hb;have HW:=Hd (And.intro hW hE);have HREF:=Hd (fun(k:Nat) (hk:k < 16) (hn:(ks k).isNil=false) (T:TypeId) (x:Value) (hx:vk k=.iface T x) (w:World) (v':Value) (e:Ext w0 w) (h:WrAt w0.heap.size g v' (Tx++underK ks k) w)=>hR k hk hn w0 w T x (Dk k) g v' (Tx++underK ks k) hc he (hx ▸ hb.kid k hk) e h (by
  have h1:=jo9 ks k;have h2:=jec (fun i=>cntP (ks i)) (k+1) (15 - k);rw[show k+1+(15 - k)=16 by omega]at h2;have h3:sumF (fun i=>cntP (ks i)) k+cntP (ks k)<=sumF (fun i=>cntP (ks i)) 16:=h2;rw[List.length_append];omega))
 have hnn:=jjJ;clear hR hc he hl;have hbd:∀ w,(Instr.build 144 #[(0,.int .i64 3),(2,.string u)]).run Tryz.prog w=.ok (.agg (jb4 3 ⟨#[]⟩ u ⟨#[]⟩).toArray) w:=fun w=>by kernel_rfl
 clear hb hW hE;go_enter Tryz.func317,Tryz.ntmps317;go_wp2_with (first |(refine jah (w:=W) Tryz.allocNode rfl rfl ?_;intro W1 hB1 hE1;have HB1:=Hd hB1;have HE1:=Hd hE1;have q1:=jaa q0 hE1;clear hB1 hE1) |(refine jah (w:=W1) Tryz.allocNode rfl rfl ?_;intro W2 hB2 hE2) |(refine jag (vs:=jb4 3 ⟨#[]⟩ u ⟨#[]⟩) rfl rfl rfl rfl hB2 rfl Tryz.szNode (jb5 _ _ _ _) ?_;intro W3 hB3 hE3;have hE3':Ext W1 W3:=hE2.trans' hE3 (fun x hx e=>by have e:x=W1.heap.size:=e;omega);have hla:=jbc (HB.o.blk.keeps ((HW.o.2.trans HE1.o).trans hE3') (fun e=>e))) |(refine jaf 288 (.tmp 15) rfl rfl _ _ rfl hla ?_))
 have HB3:=Hd (And.intro hB3 (And.intro (HB1.o.keeps hE3' (fun e=>e)) (HE1.o.trans hE3')));have hlt:=HB1.o.lt;have HN:=Hd (show W.heap.size < W1.heap.size/\W1.heap.size < W3.heap.size from⟨hlt,hB3.lt⟩);clear hB2 hE2 hB3 hE3 hE3' hlt hla q0 q1
 obtain⟨L,hL⟩:=vE W1.heap.size
 rw[<-hL]at HB3 HN ⊢;clear hL HB1 HE1;have HG:=Hd HW.o.1.var.lt;go_loopw [17] (fun iv wr=>jye w0.heap.size g v W L u (refsK ks) Tx ks iv wr) (fun iv _=>16 - (intOf iv).toNat)
 case atStart =>
  have:=HN.o
  have hg:=HG.o
  exact⟨0,by omega,rfl,v,by rw[show underK ks 0=[]from rfl,List.append_nil];exact WrTo.refl HW.o.1 HB3.o.2.2,by rw[jyD];exact HB3.o.1,HB3.o.2.1,fun e=>by have:=(HW.o.1.own _ e).2.2;omega,fun e=>by have:=(HW.o.1.own _ e).2.2;omega⟩
 case round =>
  obtain⟨k,hk,rfl,v1,hT,hBL,hBr,ho1,ho2⟩:=hrel
  have HT:=Hd (And.intro hT (And.intro hBL (And.intro hBr (And.intro ho1 ho2))));clear hT hBL hBr ho1 ho2
  by_cases hlt:k < 16
  ·have hix:=jex vk hlt
   have hst:=jmM ks k;have hra:=jtH ks hlt;rcases (HB.o.kid k hlt).at'.kid with⟨hn,hv⟩ |⟨hn,T,x,hv⟩
   ·rw[hn,if_pos rfl,List.append_nil]at hst
    rw[hn,if_pos rfl]at hra;rw[hv]at hix;have HST:=Hd hst;have HSK:=Hd (jss u (jc8 ks) hlt hra);clear hst hn hv hra;go_wp2;go_roundw
    case rel=>exact⟨k+1,by omega,by go_num,v1,by rw[HST.o];exact HT.o.1,by rw[HSK.o];exact HT.o.2.1,HT.o.2.2.1,HT.o.2.2.2⟩
    case measure=>simp[intOf];omega
   ·rw[hn,if_neg ff]at hst
    rw[hn,if_neg ff]at hra;rw[hv]at hix;have hq:=jdh T x;have HCALL:=Hd (HREF.o k hlt hn T x hv wr v1 (HT.o.1.ext0 HW.o.1 HW.o.2 (Nat.le_refl _)) HT.o.1.at');rw[List.append_assoc, <-hst]at HCALL
    obtain⟨r,hr⟩:=vE (refB (textP (ks k)))
    rw[<-hr]at hra HCALL;have HRA:=Hd hra;clear hst hn hv hra hr;have b2:(k:Int) < 16:=by omega
    go_wp2_with fail
    refine HCALL.o.mono ?_;rintro e w4 ⟨rfl,v4,hT4⟩;have hg1:L≠g:=by have:=HN.o.1;have:=HG.o;omega
    have hg2:W.heap.size≠g:=by have:=HG.o;omega
    have hB4:=hT4.blk HT.o.2.1 hg1 HT.o.2.2.2.1;have hB4v:=hT4.blk HT.o.2.2.1 hg2 HT.o.2.2.2.2;have hv4:∀ y,y < wr.heap.size->v1.ownBlock≠some y->v4.ownBlock≠some y:=fun y hy h1 e=>by
     rcases hT4.sub y e with e | e
     ·exact h1 e
     ·omega
    have hvL:=hv4 L HT.o.2.1.lt HT.o.2.2.2.1;have hvr:=hv4 W.heap.size HT.o.2.2.1.lt HT.o.2.2.2.2;have hl3:(bfN u (refsK ks) k).cells.length=19:=jad.cells_len _ (juZ u (jc8 ks) hk)
    obtain⟨old,qf⟩:∃ v,w4.cell? ⟨L,3+k,none⟩=some v:=⟨_,hB4.cellL (List.getElem?_eq_getElem vO)⟩
    have ff4:w4.frozen? ⟨L,3+k,none⟩=false:=hB4.frozen;have hB5:=hB4.set_same (i:=3+k) (.string r);rw[show (bfN u (refsK ks) k).cells.toArray.setIfInBounds (3+k) (.string r)=((bfN u (refsK ks) k).cells.set (3+k) (.string r)).toArray by simp,ju0 u (jc8 ks) hlt r HRA.o]at hB5;have K5:jae (fun z=>z=L) w4 (w4.setCell ⟨L,3+k,none⟩ (.string r)):=jae.oneSet w4 ⟨L,3+k,none⟩ (.string r);have hB5v:=hB4v.keeps K5 (fun e=>by have e:W.heap.size=L:=e;have:=HN.o.1;omega);have hT5:=(HT.o.1.trans hT4).fill K5 hg1 hvL (by have:=HN.o.1;omega);have H5:=Hd (And.intro hT5 (And.intro hB5 (And.intro hB5v (And.intro hvL hvr))));clear hT4 hg1 hg2 hB4 hB4v hv4 hvL hvr hl3 hB5 K5 hB5v hT5;go_wp2_with fail
    go_roundw
    case rel=>exact⟨k+1,by omega,by go_num,v4,H5.o⟩
    case measure=>simp[intOf];omega
  ·obtain rfl:k=16:=by omega
   have hL5:=HT.o.2.1;rw[jw1 u (jc8 ks)]at hL5;have hF5:=HT.o.2.2.1;go_wp2_with (refine jaf 144 (.tmp 5) rfl rfl _ _ rfl (jan _ _ ⟨3,⟨#[]⟩,u,refsK ks⟩ (jc8 ks) hL5) ?_;refine jag (vs:=jad.cells ⟨3,⟨#[]⟩,u,refsK ks⟩) rfl rfl rfl rfl hF5 (by rw[jad.cells_len _ (jc8 ks)];rfl) (by rw[jad.cells_len _ (jc8 ks)];exact Tryz.szNode) (jad.one _) ?_;intro W8 hB8 hE8)
   refine bodyPost_ret (jbE rfl rfl (jap W8 _ ⟨3,⟨#[]⟩,u,refsK ks⟩ (jc8 ks) hB8)) rfl ?_
   exact⟨rfl,v1,HT.o.1.fill hE8 (by have:=HG.o;omega) HT.o.2.2.2.2 (Nat.le_refl _)⟩
end
theorem jjP:∀ (P:PA),PutP P->jwu P
 | .nil=>fun _ w0 W T x D g v Tx hc he h hE hW hl=>by cases h.at'
 | .no=>fun _ w0 W T x D g v Tx hc he h hE hW hl=>by
  have e:Value.iface T x=noV:=h.at';unfold noV at e;injection e with e1 e2;subst e1 e2;show Calls _ _ _ W (FoP w0.heap.size g v W jar.V (Tx++[]));rw[List.append_nil];exact jtr _ g v Tx W hW
 | .leaf q u=>fun _ w0 W T x D g v Tx hc he h hE hW hl=>by
  obtain⟨b,e,h1,h2⟩:=h.at'
  unfold jiw at e;injection e with e1 e2;subst e1 e2;show Calls _ _ _ W (FoP w0.heap.size g v W (jad.V ⟨1,q,u,jam 16⟩) (Tx++[]));rw[List.append_nil];exact jvy w0 _ g v Tx W hE q u b h2 hW
 | .ext q m=>fun hp w0 W T x D g v Tx hc he h hE hW hl=>by
  obtain⟨b,T',x',Dn,e,h1,h2,h3,h4,h5⟩:=h.at'
  unfold extV at e;injection e with e1 e2;subst e1 e2;have hl:Tx.length+(1+cntP m)<=100000:=hl;have hn:m.isNil=false:=by
   cases m with
   | nil=>cases h3
   | _=>rfl
  exact jve w0 W q m T' x' Dn b h2 ⟨h3,fun z hz=>h.lt z (h5 z hz)⟩ (juA m (jr6 m hn hp.2 (jjP m hp.2))) g v Tx hc he hE hW vO
 | .br u ks=>fun hp w0 W T x D g v Tx hc he h hE hW hl=>by
  obtain⟨b,vk,Dk,e,h1,h2,h3,h4⟩:=h.at'
  unfold brV at e;injection e with e1 e2;subst e1 e2;have hb:BrRd u ks b vk Dk w0:=⟨h2,fun i hi=>⟨(h3 i hi).1,fun z hz=>h.lt z ((h3 i hi).2.2 z hz)⟩⟩;exact ju1 w0 W u ks b vk Dk hb (fun i _ hn=>juA (ks i) (jr6 (ks i) hn (hp.2 i) (jjP (ks i) (hp.2 i)))) g v Tx hc he hE hW hl
theorem jlg:∀ (f:Nat) (l:List Pair),jaA f l->PutP (jaY (f+1) l):=by
 intro f;induction f with
 | zero =>
  intro l h;have hl:=jb1 h;have hg:=(good 0 l h).1;have hn:=(jfi 0 l h).1;rw[<-hn]at hg;have hp:=jlo hg
  by_cases h0:l.length=0
  ·rw[jbN _ h0]at hp ⊢;exact hp
  ·rw[jbT _ vO]at hp ⊢;exact hp
 | succ f ih =>
  intro l h;have hg:=(good (f+1) l h).1;have hn:=(jfi (f+1) l h).1;rw[<-hn]at hg;have hp:=jlo hg
  by_cases h0:l.length=0
  ·rw[jbN _ h0]at hp ⊢;exact hp
  by_cases h1:l.length=1
  ·rw[jbT _ h1]at hp ⊢;exact hp
  have h2:2<=l.length:=by omega
  by_cases hk:0 < comK l
  ·obtain⟨k1,k2,_,_⟩:=jfE h h2 hk
   rw[jdi _ h2 hk]at hp ⊢
   exact⟨hp,ih _ k1⟩
  ·rw[jev _ h2 hk]at hp ⊢
   refine⟨hp,fun i=>?_⟩
   show PutP (if (cutL i l).length=0 then PA.nil else jaY (f+1) (jal 1 (cutL i l)))
   by_cases hc:(cutL i l).length=0
   ·rw[if_pos hc];exact trivial
   ·rw[if_neg hc];exact ih _ (jf2 h hc).1
theorem jrg(f:Nat)(l:List Pair)(h:jaA f l):TopC (jaY (f+1) l):=jr6 _ jdo (jlg f l h) (jjP _ (jlg f l h))
section
attribute [local go_sem] Oper.semAt_some
noncomputable def rootM(l:List Pair):vB:=shaB (jaL l).text
theorem jsP{l:List Pair}(h:jaG l=0):entP (jaY 13 (jaO l)) ⟨#[]⟩=l:=by
 have e0:∀ q:vB,(⟨#[]⟩:vB)++q=q:=fun q=>jbt (by rw[jkv];rfl);rw[jrd 12 _ (jbA (jaP h)) ⟨#[]⟩ (fun q hq=>by
  obtain⟨p,hp,rfl⟩:=List.mem_map.1 hq
  rw[e0];exact jty p.1)]
 unfold jaO;rw[List.map_map]
 conv=>rhs;rw[<-List.map_id l]
 refine List.map_congr_left fun p hp=>?_;show (jbr (⟨#[]⟩++ja5 p.1),p.2)=p;rw[e0,jgK]
structure PaM(w w1:World)(l:List Pair)(T:TypeId)(x:Value):Prop where
 ext:Ext w w1
 pa:PaO (jaY 13 (jaO l)) (.iface T x) (jko w w1) w1
theorem jqS(w:World)(s bm:Nat)(room:Int)(S:List Nd5)(hs:jaT w s bm room S)(hN:jeK S)(l:List Pair)(h:HasM S l) :
  vQ 71 #[.pointer (some ⟨s,0,none⟩),.string (rootM l)] w fun e w'=>∃ T x,e=.returned (.tuple #[.iface T x,.bool true])/\PaM w w' l T x:=by
 refine (jwb w s bm room S hs hN (rootM l)).mono ?_;rintro e w' ⟨hE,h1⟩
 obtain⟨k,hk⟩:=jrr w h
 unfold rootM at h1;rw[hk]at h1
 obtain⟨T,x,rfl,hp⟩:=h1
 exact⟨T,x,rfl,hE,hp,fun z hz=>hz.2⟩
theorem jur(w1 W:World)(l:List Pair)(h:jaG l=0)(T:TypeId)(x:Value)(D:Nat->Prop)(hp:PaO (jaY 13 (jaO l)) (.iface T x) D w1)(hE:Ext w1 W) :
  vQ (jfF (jaY 13 (jaO l))) #[x,.string ⟨#[]⟩,.slice none 0 0] W fun e w'=>∃ v,e=.returned v/\ERow w1 w' v l.length l:=by
 have hr:=jbA (jaP h);have hc:=jjo (jaP h);refine (jmv _ w1 W T x D ⟨#[]⟩ (.slice none 0 0) 0 12 [] hp (ORow.nil _ _ hE) (jrc 12 _ 12 hr hr) (by have:(⟨#[]⟩:vB).size=0:=rfl;omega) (by rw[jjp 12 _ hr];omega)).mono ?_;rintro e w' ⟨v,n,rfl,h1⟩;rw[List.nil_append,jsP h]at h1
 have:=h1.len'
 subst this
 exact⟨v,rfl,h1⟩
theorem jux(w:World)(s bm:Nat)(room:Int)(S:List Nd5)(hs:jaT w s bm room S)(hN:jeK S)(l:List Pair)(h:HasM S l) :
  vQ 19 #[.pointer (some ⟨s,0,none⟩),.string (rootM l)] w fun e w'=>∃ v,e=.returned (.tuple #[v,.int .i64 0])/\ERow w w' v l.length l:=by
 have HR:=Hd (jqS w s bm room S hs hN l h);have HK:=Hd h.ok
 obtain⟨P,hP⟩:=vE (jaY 13 (jaO l))
 have HP:=Hd hP;have hee:=jdY P;clear hs hN h hP;go_enter Tryz.func19,Tryz.ntmps19;go_wp2_with fail
 refine HR.o.mono ?_;rintro e w1 ⟨T,x,rfl,hM⟩;have HM:=Hd hM;have hmt:=hM.pa.at'.meth;rw[<-HP.o]at hmt;have hme:∀ w,(Go.method (487+1) T x "guilloche/trie.entries").run Tryz.prog w=.ok (jfF P,x) w:=hmt.ent;have HC:=Hd (jur w1 w1 l HK.o T x _ hM.pa (ExtR w1));rw[<-HP.o]at HC;clear hM hmt;go_wp2_with fail
 refine HC.o.mono ?_;rintro e w2 ⟨v,rfl,h1⟩;have H1:=Hd h1
 obtain⟨a,c,hv⟩:=h1.sl
 subst hv;clear h1;go_wp2_with fail
 go_ret2
 exact⟨_,rfl,⟨_,_,rfl⟩,H1.o.own,HM.o.ext.trans H1.o.ext,fun b hb=>Nat.le_trans HM.o.ext.size (H1.o.new b hb)⟩
end
theorem jfx:∀ (xs:List Chg) (j:Nat) (p:Chg),xs[j]?=some p->(jeB xs)[j * 3]?=some (.string p.key)/\(jeB xs)[j * 3+1]?=some (.string p.value)/\(jeB xs)[j * 3+2]?=some (.bool p.gone)
 | [],j,p,h=>by simp at h
 | x :: r,0,p,h=>by simp at h;subst h;exact⟨rfl,rfl,rfl⟩
 | x :: r,j+1,p,h=>by
  obtain⟨h1,h2,h3⟩:=jfx r j p (by simpa using h)
  rw[show (j+1) * 3=j * 3+3 by omega]
  exact⟨h1,h2,h3⟩
theorem CRow.rdT{w0 w:World}{v:Value}{n:Nat}{xs:List Chg}(h:CRow w0 w v n xs):RdC w v xs:=by
 have hl:xs.length=n:=by have:=h.len;rw[jiI]at this;omega
 obtain⟨_,⟨rfl,h2⟩ |⟨g,cap,cur,rfl,h3,h4,h5,h6,h7⟩⟩:=h.own
 ·exact .inl ⟨none,0,rfl,List.eq_nil_of_length_eq_zero vO⟩
 ·subst hl
  refine .inr ⟨g,0,cap,rfl,(Array.getElem?_eq_some_iff.1 h4).1,h5,fun j x hx=>?_⟩;have hj:=(List.getElem?_eq_some_iff.1 hx).1
  obtain⟨e1,e2,e3⟩:=jfx xs j x hx
  exact⟨by rw[Nat.zero_add,h.own.cellAt (j * 3) vO,e1],by rw[Nat.zero_add,h.own.cellAt (j * 3+1) vO,e2],by rw[Nat.zero_add,h.own.cellAt (j * 3+2) vO,e3]⟩
theorem jop{l m:List Pair}(h1:l.length<=40)(h2:m.length<=40):(jgv l m).length<=80:=by
 have key:∀ l m:List Pair,(jbq l m).length<=l.length+m.length:=fun l m=>by
  fun_induction jbq l m <;> simp only[List.length_cons,List.length_nil]at * <;> omega
 unfold jgv;split
 ·have:=key l m;omega
 ·simp
theorem jnk{c:Chg}(h:c.bad=false):c.key.size<=6:=by
 unfold Chg.bad at h;have h1:jdI c.key=true:=by
  cases e:jdI c.key with
  | true=>rfl
  | false=>rw[e]at h;simp at h
 unfold jdI at h1;exact (of_decide_eq_true h1).2
structure OkP(P:PA):Prop where
 can:P=.no\/CanP P
 dp:Dp P 12
theorem OkP.va{P:PA}(h:OkP P):VaP P:=by
 rcases h.can with h | h
 ·subst h;trivial
 ·exact jpM P h
theorem OkP.there{P:PA}(h:OkP P):P.isNil=false:=by
 rcases h.can with h | h
 ·subst h;rfl
 ·cases P with
  | nil=>exact h.elim
  | _=>rfl
theorem OkP.dp9{P:PA}(h:OkP P):Dp P 900000:=jb6 P 12 _ h.dp vO
theorem OkP.step{P:PA}(h:OkP P){c:Chg}(hc:c.bad=false):OkP (jcd P c):=by
 refine⟨(jrS h.can hc).1,?_⟩
 have hk:=jnk hc;have hs:=jdz c.key;unfold jcd;split
 ·exact jhB P 12 _ h.dp
 ·exact jm7 P 12 _ _ h.dp vO
theorem jxD{l:List Pair}(h:jaG l=0):OkP (jaY 13 (jaO l)):=⟨jnC (jbA (jaP h)),jrc 12 _ 12 (jbA (jaP h)) (jbA (jaP h))⟩
noncomputable def lackB(S:List Nd5)(t:vB):Bool:=(atL S (shaB t).data.toList).isNone
noncomputable def freshU(S:List Nd5)(U:List vB):List vB:=(ja7 U).filter (lackB S)
theorem joz(S:List Nd5)(U:List vB)(x:vB):freshU S (U++[x])=freshU S U++(if memB (ja7 U) x=true then []else if lackB S x=true then [x]else []):=by
 unfold freshU;rw[jfC];unfold addF
 by_cases h:memB (ja7 U) x=true
 ·rw[if_pos h,if_pos h,List.append_nil]
 ·rw[if_neg h,if_neg h,List.filter_append]
  congr 1
  cases e:lackB S x <;> simp[e]
theorem jkR(S:List Nd5)(U:List vB):(freshU S U).length<=U.length:=Nat.le_trans (List.length_filter_le _ _) (jgy U)
noncomputable def belowM(m:List Pair):List vB:=underP (jaY 13 (jaO m))
theorem jg4{m:List Pair}(h:jaG m=0):belowM m=jaM (jaB (jac 12) (jaO m)):=(jfi 12 _ (jbA (jaP h))).2.2
theorem jwa{m:List Pair}(h:jaG m=0):textP (jaY 13 (jaO m))=(jaL m).text:=(jfi 12 _ (jbA (jaP h))).2.1
theorem jkx{m:List Pair}(h:jaG m=0):(belowM m).length<=118:=by
 have h1:=jeh (jaY 13 (jaO m)) jdo;have h2:cntP (jaY 13 (jaO m))=cntT 12 (jaO m):=jjp 12 _ (jbA (jaP h));have h3:=jjo (jaP h);unfold belowM;omega
noncomputable def newM(S:List Nd5)(m:List Pair):List vB:=(jaL m).text :: freshU S (belowM m)
def jbQ(l:List Pair)(cs:List Chg):List Pair:=jcO (jdW l cs)
def UpdP(w:World)(S:List Nd5)(l:List Pair)(cs:List Chg)(e:Ending)(w':World):Prop:=
 if jbs l cs=0 then ∃ r,e=.returned (.tuple #[r,.int .i64 0])/\SRow w w' r (newM S (jbQ l cs)).length (newM S (jbQ l cs))else e=.returned (.tuple #[.slice none 0 0,.int .i64 (jbs l cs)])/\Ext w w'
def jwS(W3:World)(D0:Nat->Prop)(P0:PA)(ds:List Chg)(pv iv:Value)(wr:World):Prop:=∃ (k:Nat) (T:TypeId) (x:Value) (D:Nat->Prop),k<=ds.length/\iv=.int .i64 k/\pv=.iface T x/\PaO ((ds.take k).foldl jcd P0) (.iface T x) D wr/\(∀ z,D z->D0 z\/W3.heap.size<=z)/\jae D0 W3 wr
theorem jnd{P:PA}(h:OkP P):∀ (ds:List Chg),(∀ c∈ds,c.bad=false)->OkP (ds.foldl jcd P)
 | [],_=>h
 | c :: ds,hc=>jnd (h.step (hc c List.mem_cons_self)) ds (fun d hd=>hc d (List.mem_cons_of_mem _ hd))
theorem jsW{P:PA}(h:OkP P)(ds:List Chg)(hc:ds.any Chg.bad=false)(k:Nat):OkP ((ds.take k).foldl jcd P):=jnd h _ fun c hcm=>by
 have:=List.any_eq_false.1 hc c (List.mem_of_mem_take hcm)
 cases e:c.bad with
 | false=>rfl
 | true=>exact absurd e this
structure UpB(W7:World)(S:List Nd5)(mb:Nat)(t:vB)(U:List vB)(k:Nat)(rv:Value)(wr:World):Prop where
 row:∃ n,SRow W7 wr rv n (t :: freshU S (U.take k))
 out:rv.ownBlock≠some mb
 tab:∃ es ck,Blk wr mb (.map (Tryz.ES.arr es) ck)/\∀ x:vB,jaX es x.data.toList=cntV (cntB (U.take k) x)
def jwT(W7:World)(S:List Nd5)(mb:Nat)(t:vB)(U:List vB)(rv iv:Value)(wr:World):Prop:=∃ k:Nat,k<=U.length/\iv=.int .i64 k/\UpB W7 S mb t U k rv wr
theorem jol(L:List vB)(x y:vB):cntB (L++[x]) y=cntB L y+(if x.data.toList=y.data.toList then 1 else 0):=by
 unfold cntB;rw[List.map_append,List.count_append,List.map_cons,List.map_nil,List.count_singleton]
 simp
theorem jmL{α:Type}{l:List α}{k:Nat}{x:α}(h:l[k]?=some x):l.take (k+1)=l.take k++[x]:=by rw[List.take_add_one,h];rfl
section
attribute [local go_sem] Oper.semAt_some
theorem UpdP.bad{w w':World}{S:List Nd5}{l:List Pair}{cs:List Chg}{x:Int}(h:jbs l cs=x)(h0:x≠0)(he:Ext w w'):UpdP w S l cs (.returned (.tuple #[.slice none 0 0,.int .i64 x])) w':=by
 unfold UpdP;rw[h,if_neg h0];exact⟨rfl,he⟩
theorem jya(w:World)(hc:jb2 w)(he:ErrT w)(s bm:Nat)(room:Int)(S:List Nd5)(hs:jaT w s bm room S)(hN:jeK S)(l:List Pair)(h:HasM S l)(u:Value)(cs:List Chg)(hu:RdC w u cs)(hnc:cs.length<=9223372036854775807)(hsc:∀ c∈cs,c.key.size<=9223372036854775807/\c.value.size<=9223372036854775807) :
  vQ 33 #[.pointer (some ⟨s,0,none⟩),.string (rootM l),u] w (UpdP w S l cs):=by
 have HR:=Hd (jqS w s bm room S hs hN l h);have HK:=Hd h.ok;have HCC:=Hd (And.intro hc he);have HST:=Hd hs;have hmo:=jaP h.ok;have HSM:=Hd (show (l.length<=9223372036854775807)/\∀ p∈l,p.1.size<=9223372036854775807/\p.2.size<=9223372036854775807 from⟨by have:=hmo.len;omega,fun p hp=>by have:=hmo.size p hp;omega⟩);have HAPP:=Hd (fun(w2:World) (v:Value) (hv:RdP w2 v l) (e:Ext w w2)=>juU w2 v u l cs hv (hu.ext e) HSM.o.1 hnc HSM.o.2 hsc)
 obtain⟨a,c,hus⟩:=hu.sl
 subst hus
 obtain⟨P,hP⟩:=vE (jaY 13 (jaO l))
 have HP:=Hd hP;have hee:=jdY P;have HRR:=Hd (fun(w3:World) (v:Value) (hv:RdP w3 v l) (e:Ext w w3)=>jmE w3 v l (hc.ext e) hv h.ok);have HRD:Hid (shaB (jaL l).text=rootM l):=rfl;rw[HRD.o]at HRR;clear hs hN h hP hc he hmo hu hsc HRD
 obtain⟨rt,hrt⟩:=vE (rootM l)
 rw[<-hrt]at HR HRR ⊢;clear hrt;go_enter Tryz.func33,Tryz.ntmps33;go_wp2_with fail
 refine HR.o.mono ?_;rintro e w1 ⟨T,x,rfl,hM⟩;have HM:=Hd hM;have hmt:=hM.pa.at'.meth;rw[<-HP.o]at hmt;have hme:∀ w,(Go.method (487+1) T x "guilloche/trie.entries").run Tryz.prog w=.ok (jfF P,x) w:=hmt.ent;have HC:=Hd (jur w1 w1 l HK.o T x _ hM.pa (ExtR w1));rw[<-HP.o]at HC;clear hM hmt;go_wp2_with fail
 refine HC.o.mono ?_;rintro e w2 ⟨v,rfl,h1⟩;have H1:=Hd h1;have HE2:=Hd (HM.o.ext.trans h1.ext);have HPA2:=Hd (And.intro (HM.o.pa.ext h1.ext) h1.ext.size);rw[<-HP.o]at HPA2;have HA:=Hd (HAPP.o w2 v h1.rd HE2.o)
 obtain⟨a1,c1,hv⟩:=h1.sl
 subst hv;clear h1 hme HAPP HC;go_wp2_with fail
 refine HA.o.mono ?_;rintro e w3 hap;unfold jeI at hap
 by_cases h0:jbs l cs=0
 case neg =>
  rw[if_neg h0]at hap
  obtain⟨rfl,hE⟩:=hap
  have HX:=Hd (HE2.o.trans hE)
  obtain⟨x0,hx0⟩:=vE (jbs l cs)
  have HX0:=Hd hx0.symm;rw[<-hx0]at h0 ⊢;clear hE hx0;go_wp2_with fail
  go_ret2;exact UpdP.bad HX0.o h0 HX.o
 rw[if_pos h0]at hap
 obtain⟨r,rfl,h3⟩:=hap
 have HK0:=Hd h0;have hcm:=jft h0
 obtain⟨m,hm⟩:=vE (jcO (jdW l cs))
 rw[<-hm]at h3 hcm;have HMM:=Hd hm;have HCM:=Hd hcm;have hmo:=jaP hcm;have HSM2:=Hd (show (m.length<=9223372036854775807)/\∀ p∈m,p.1.size<=9223372036854775807/\p.2.size<=9223372036854775807 from⟨by have:=hmo.len;omega,fun p hp=>by have:=hmo.size p hp;omega⟩);have HE3:=Hd (HE2.o.trans h3.ext);have HPA3:=Hd (And.intro (HPA2.o.1.ext h3.ext) (Nat.le_trans HPA2.o.2 h3.ext.size));have HV:=Hd (And.intro (ERow.rd (H1.o.mono h3.ext)) h3.rd)
 obtain⟨a2,c2,hr⟩:=h3.sl
 subst hr;have HRO:=Hd (HRR.o w3 _ HV.o.1 HE3.o);clear h3 hmo hcm hm h0 HA H1 HRR;go_wp2_with fail
 refine HRO.o.mono ?_;rintro e w4 ⟨rfl,hE⟩;have HE4:=Hd (HE3.o.trans hE);have HPA4:=Hd (And.intro (HPA3.o.1.ext hE) (Nat.le_trans HPA3.o.2 hE.size));have HDI:=Hd (jxc w4 _ _ l m (HV.o.1.ext hE) (HV.o.2.ext hE) HSM.o.1 HSM2.o.1 HSM.o.2 HSM2.o.2);clear hE HRO;go_wp2_with fail
 refine HDI.o.mono ?_;rintro e w5 ⟨dv,rfl,hd⟩;have HD:=Hd hd;have HE5:=Hd (HE4.o.trans hd.ext);have HPA5:=Hd (And.intro (HPA4.o.1.ext hd.ext) (Nat.le_trans HPA4.o.2 hd.ext.size));have hmk:=joq HK.o HCM.o;have hdl:=jop (jaP HK.o).len (jaP HCM.o).len
 obtain⟨ds,hds⟩:=vE (jgv l m)
 rw[<-hds]at HD hmk hdl;have HMK:=Hd hmk
 obtain⟨a3,c3,hdv⟩:=hd.sl
 rw[<-hds]at hdv;subst hdv;clear hd hmk hds HDI;have HOKP:=Hd (jxD HK.o);rw[<-HP.o]at HOKP;have HRDD:=Hd HD.o.rdT;go_wp2_with fail
 go_loopw [8,56] (fun pv iv wr=>jwS w5 (jko w w1) P ds pv iv wr) (fun _ iv _=>ds.length - (intOf iv).toNat)
 case atStart=>exact⟨0,T,x,jko w w1,by omega,rfl,rfl,HPA5.o.1,fun z hz=>.inl hz,(ExtR w5).mono (fun _ _ e=>e.elim)⟩
 case round =>
  obtain⟨k,Tk,xk,D,hk,rfl,rfl,hpo,hD,hkp⟩:=hrel
  by_cases hlt:k < ds.length
  ·rcases HRDD.o with⟨_,_,_,hz⟩ |⟨b,o,cd,hh,hb,hcd,hcell⟩
   ·rw[hz]at hlt;cases hlt
   cases hh
   obtain⟨p,hp⟩:∃ p,ds[k]?=some p:=⟨_,List.getElem?_eq_getElem hlt⟩
   obtain⟨q1,q2,q3⟩:=hcell k p hp
   have hbw:¬ jko w w1 b:=fun e=>by have h1:=HD.o.new b rfl;have h2:=HPA4.o.2;have h3:=e.2;omega
   have q1:=jaw q1 hkp hbw;have q2:=jaw q2 hkp hbw;have q3:=jaw q3 hkp hbw;have hpb:p.bad=false:=by
    cases e:p.bad with
    | false=>rfl
    | true=>exact absurd (jug hp e) (by rw[HMK.o.fine];simp)
   have hky:=jnk hpb;have b1:(k:Int) < (ds.length:Int):=by omega
   have hokk:=jsW HOKP.o ds HMK.o.fine k;have hstep:(ds.take (k+1)).foldl jcd P=jcd ((ds.take k).foldl jcd P) p:=by rw[jmL hp,List.foldl_append];rfl
   obtain⟨Q,hQ⟩:=vE ((ds.take k).foldl jcd P)
   rw[<-hQ]at hpo hokk hstep;have HOK:=Hd (And.intro hokk (hokk.step hpb));have HSTEP:=Hd hstep;have hmt:=hpo.at'.meth;have HPO:=Hd (And.intro hpo (And.intro hD hkp))
   obtain⟨ky,vl,gn⟩:=p
   simp only at q1 q2 q3 hky;clear hcell hp hb hcd hbw hpb hokk hstep hpo hD hkp hQ;have hed:=jfc Q;have hep:=jhF Q;have hmd:∀ w,(Go.method (487+1) Tk xk "guilloche/trie.drop").run Tryz.prog w=.ok (jeV Q,xk) w:=hmt.drop;have hmp:∀ w,(Go.method (487+1) Tk xk "guilloche/trie.put").run Tryz.prog w=.ok (jjM Q,xk) w:=hmt.put;clear hmt;go_wp2_with fail
   have HKY:=Hd hky;clear q1 q2 q3;refine vC (ji0 _ ky vO) fun w6 hE6=>?_;have hB6:=(Blk.new wr (.cells #[.string ky,.string vl,.bool gn] 86)).keeps hE6 (fun e=>e);have hE6w:=((ExtR wr).alloc (.cells #[.string ky,.string vl,.bool gn] 86)).trans hE6;have q1:w6.cell? ⟨wr.heap.size,1,none⟩=some (.string vl):=hB6.cell (i:=1) vF;have q2:w6.cell? ⟨wr.heap.size,2,none⟩=some (.bool gn):=hB6.cell (i:=2) vF;have HE6:=Hd hE6w;have hps:(ja5 ky).size<=900000:=by have:=jdz ky;omega
   have HPS:=Hd hps;clear hE6 hB6 hE6w hky hps;cases gn with
   | true =>
    have HCALL:=Hd (jhj Q HOK.o.1.va w6 Tk xk D (ja5 ky) (HPO.o.1.ext HE6.o) HPS.o (jch ky) HOK.o.1.dp9)
    obtain⟨pb,hpb⟩:=vE (ja5 ky)
    have HPB:=Hd hpb;rw[<-hpb]at HCALL ⊢;clear hpb;go_wp2_with fail
    refine HCALL.o.mono ?_;rintro e w7 ⟨v7,rfl,hp7,hk7⟩;have hst7:(ds.take (k+1)).foldl jcd P=jbL Q pb:=by rw[HSTEP.o,HPB.o];rfl
    have hth:=HOK.o.2.there;rw[show jcd Q ⟨ky,vl,true⟩=jbL Q pb by rw[HPB.o];rfl]at hth
    obtain⟨T7,x7,rfl⟩:=hp7.form hth
    have HF:=Hd (show PaO ((ds.take (k+1)).foldl jcd P) (.iface T7 x7) (Grow D w6 w7) w7 from by rw[hst7];exact PaTo.own hp7 hk7 (HPO.o.1.ext HE6.o).lt);have HK7:=Hd hk7;clear hp7 hk7 hst7 hth;go_wp2_with fail
    go_roundw
    case rel=>exact⟨k+1,T7,x7,_,by omega,by go_num,rfl,HF.o,fun z hz=>by
     rcases hz with hz | hz
     ·exact HPO.o.2.1 z hz
     ·exact .inr (Nat.le_trans HPO.o.2.2.size (Nat.le_trans HE6.o.size hz.1)),HPO.o.2.2.trans' ((HE6.o.mono (fun _ _ e=>e.elim)).trans HK7.o) (fun z hz e=>(HPO.o.2.1 z e).resolve_right vO)⟩
    case measure=>simp[intOf];omega
   | false =>
    have HCALL:=Hd (jmy Q HOK.o.1.va w6 Tk xk D (ja5 ky) vl (HPO.o.1.ext HE6.o) HPS.o (jch ky) HOK.o.1.dp9)
    obtain⟨pb,hpb⟩:=vE (ja5 ky)
    have HPB:=Hd hpb;rw[<-hpb]at HCALL ⊢;clear hpb;go_wp2_with fail
    refine HCALL.o.mono ?_;rintro e w7 ⟨v7,rfl,hp7,hk7⟩;have hst7:(ds.take (k+1)).foldl jcd P=putP Q pb vl:=by rw[HSTEP.o,HPB.o];rfl
    have hth:=HOK.o.2.there;rw[show jcd Q ⟨ky,vl,false⟩=putP Q pb vl by rw[HPB.o];rfl]at hth
    obtain⟨T7,x7,rfl⟩:=hp7.form hth
    have HF:=Hd (show PaO ((ds.take (k+1)).foldl jcd P) (.iface T7 x7) (Grow D w6 w7) w7 from by rw[hst7];exact PaTo.own hp7 hk7 (HPO.o.1.ext HE6.o).lt);have HK7:=Hd hk7;clear hp7 hk7 hst7 hth;go_wp2_with fail
    go_roundw
    case rel=>exact⟨k+1,T7,x7,_,by omega,by go_num,rfl,HF.o,fun z hz=>by
     rcases hz with hz | hz
     ·exact HPO.o.2.1 z hz
     ·exact .inr (Nat.le_trans HPO.o.2.2.size (Nat.le_trans HE6.o.size hz.1)),HPO.o.2.2.trans' ((HE6.o.mono (fun _ _ e=>e.elim)).trans HK7.o) (fun z hz e=>(HPO.o.2.1 z e).resolve_right vO)⟩
    case measure=>simp[intOf];omega
  ·obtain rfl:k=ds.length:=by omega
   rw[List.take_length,HP.o,jsV HK.o HCM.o HMK.o]at hpo;have HWW:Hid (Ext w wr):=(HE5.o.trans' hkp (fun z hz e=>by have:=e.1;omega))
   obtain⟨W6,hW6⟩:=vE (wr.alloc (.cells #[.slice none 0 0] 134))
   have hE6:Ext wr W6:=by rw[hW6];exact (ExtR wr).alloc _
   have hw6:WrAt wr.heap.size wr.heap.size (.slice none 0 0) [] W6:=⟨Nat.le_refl _,by rw[hW6];exact Blk.new wr _,World.ownsRow_nil _ _ _ _,fun b hb=>(by cases hb),fun _=>rfl⟩;have hcnt:cntP (jaY 13 (jaO m))=cntT 12 (jaO m):=jjp 12 _ (jbA (jaP HCM.o));have htop:=jrg 12 (jaO m) (jbA (jaP HCM.o)) wr W6 Tk xk D wr.heap.size (.slice none 0 0) [] (HCC.o.1.ext HWW.o) (HCC.o.2.ext HWW.o) hpo hE6 hw6 (by have:=jjo (jaP HCM.o);have:([]:List vB).length=0:=rfl;show 0+cntP (jaY 13 (jaO m))<=100000;omega);rw[List.nil_append,show textP (jaY (12+1) (jaO m))=(jaL m).text from jwa HCM.o,show underP (jaY (12+1) (jaO m))=belowM m from rfl]at htop;have HUL:=Hd (jkx HCM.o);have HRES:=Hd (show newM S (jbQ l cs)=(jaL m).text :: freshU S (belowM m)from by unfold newM jbQ;rw[<-HMM.o])
   obtain⟨t,ht⟩:=vE (jaL m).text
   obtain⟨U,hU⟩:=vE (belowM m)
   rw[<-ht, <-hU]at HRES;rw[<-hU]at HUL;rw[<-ht, <-hU]at htop;have HTOP:=Hd htop;have HW6:=Hd (And.intro hw6 (And.intro hE6 hW6));clear hpo hD hkp hE6 hw6 hcnt htop ht hU hW6;go_wp2_with fail
   rw[<-HW6.o.2.2];refine HTOP.o.mono ?_;rintro e w7 ⟨rfl,v7,hT7⟩;have HT7:=Hd (And.intro hT7.at' (And.intro (HWW.o.trans (hT7.ext0 HW6.o.1 HW6.o.2.1 (Nat.le_refl _))) hT7.at'.var.lt))
   obtain⟨g,hg⟩:=vE wr.heap.size
   rw[<-hg]at HT7 ⊢;clear hT7 hg
   obtain⟨a7,c7,hv7⟩:=jaJ HT7.o.1.row
   obtain⟨n7,hn7⟩:∃ n,n=U.length:=⟨_,rfl⟩
   have HROW7:=Hd HT7.o.1.row;rw[<-hn7]at hv7 HROW7;subst hv7;have HN7:=Hd hn7;have q7:=HT7.o.1.var.cell (i:=0) (v:=.slice a7 n7 c7) vF;clear hn7;have hmm:(Instr.makeMap 107 none).run Tryz.prog (w7.alloc (.cells #[.string t] 9))=.ok (.map (some (w7.heap.size+1))) ((w7.alloc (.cells #[.string t] 9)).alloc (.map #[] 0)):=by
    rw[<-World.size_alloc w7 (.cells #[.string t] 9)];exact Tryz.makeMapSI _
   obtain⟨W8,hW8⟩:=vE ((w7.alloc (.cells #[.string t] 9)).alloc (.map #[] 0))
   obtain⟨mb,hmb⟩:=vE (w7.heap.size+1)
   rw[<-hW8, <-hmb]at hmm;have hX8:Ext w7 W8:=by rw[hW8];exact ((ExtR w7).alloc _).alloc _
   have hB8:Blk W8 mb (.map (Tryz.ES.arr []) 0):=by
    rw[hW8,hmb, <-World.size_alloc w7 (.cells #[.string t] 9)];exact Blk.new _ _
   have hL8:SRow w7 (w7.alloc (.cells #[.string t] 9)) (.slice (some ⟨w7.heap.size,0,none⟩) 1 1) 1 [t]:=ORow.lit (n:=1) #[.string t] (ExtR w7) vI rfl;have hL8:SRow w7 W8 (.slice (some ⟨w7.heap.size,0,none⟩) 1 1) 1 [t]:=by rw[hW8];exact hL8.mono ((ExtR _).alloc _)
   have HU0:=Hd (show UpB w7 S mb t U 0 (.slice (some ⟨w7.heap.size,0,none⟩) 1 1) W8 from⟨⟨1,hL8⟩,fun e=>by injection e with e;have e:w7.heap.size=mb:=e;omega,[],0,hB8,fun y=>rfl⟩);have q7:=jaa q7 hX8;have HMB:=Hd (show w7.heap.size<=mb by omega);clear hW8 hmb hX8 hB8 hL8;go_wp2_with fail
   go_loopw [19,86] (fun rv iv wr=>jwT w7 S mb t U rv iv wr) (fun _ iv _=>U.length - (intOf iv).toNat)
   case atStart=>exact⟨0,by omega,rfl,HU0.o⟩
   case round =>
    obtain⟨k,hk,rfl,hub⟩:=hrel
    by_cases hlt:k < U.length
    ·rcases Nat.eq_zero_or_pos n7 with h0 | h0
     ·have:=HN7.o;omega
     obtain⟨b7,rfl⟩:=jmu HROW7.o vO
     obtain⟨x,hx⟩:∃ x,U[k]?=some x:=⟨_,List.getElem?_eq_getElem hlt⟩
     obtain⟨⟨n,hrow⟩,hout,es,ck,h5,h6⟩:=hub
     obtain⟨ar,cr,hrv⟩:=hrow.sl
     subst hrv;have HX:=Hd hrow.ext;have qx:=jaa (jgJ HROW7.o (j:=k) (u:=.string x) (by rw[List.getElem?_map,hx];rfl)) hrow.ext
     obtain⟨cn,hcn⟩:=vE (cntB (U.take k) x)
     have hcl:cn<=1000000:=by
      rw[hcn];unfold cntB;refine Nat.le_trans List.count_le_length ?_;rw[List.length_map,List.length_take];have:=HUL.o;omega
     have e6:=h6 x;rw[<-hcn]at e6;have hlk:(Instr.lookup 107 (.map (some mb)) (.string x) false).run Tryz.prog wr=.ok (.int .i64 (cn:Int)) wr:=by
      have:=jcF Tryz.ES Tryz.uMapSI h5 (Tryz.zeroI wr) x.data.toList false
      rw[e6]at this;unfold cntV at this
      by_cases h0:cn=0
      ·rw[if_pos h0]at this;rw[h0];exact this
      ·rw[if_neg h0]at this;exact this
     obtain⟨es2',hes2⟩:∃ es2,es2=jbn es x.data.toList (.int .i64 ((cn:Int)+1)) ck:=⟨_,rfl⟩
     obtain⟨ck2',hck2⟩:∃ ck2,ck2=(if (jaX es x.data.toList).isSome then ck else ck+1):=⟨_,rfl⟩
     obtain⟨W2,hW2⟩:=vE (wr.putObj mb (.map (Tryz.ES.arr es2') ck2'))
     have hmu:(Instr.mapUpdate 107 (.map (some mb)) (.string x) (.int .i64 ((cn:Int)+1))).run Tryz.prog wr=.ok () W2:=by
      have:=jci Tryz.ES Tryz.uMapSI h5 x.data.toList (.int .i64 ((cn:Int)+1))
      rw[<-hes2, <-hck2, <-hW2]at this;exact this
     have B2:Blk W2 mb (.map (Tryz.ES.arr es2') ck2'):=by rw[hW2];exact h5.put_same _
     have e7:∀ y:vB,jaX es2' y.data.toList=cntV (cntB (U.take (k+1)) y):=fun y=>by
      rw[hes2,jcQ,h6 y,jmL hx,jol]
      by_cases hxy:y.data.toList=x.data.toList
      ·have hyx:y=x:=ByteArray.ext (Array.ext' hxy)
       subst hyx;rw[if_pos rfl,if_pos rfl, <-hcn];unfold cntV;rw[if_neg vO];simp
      ·rw[if_neg hxy,if_neg (fun e=>hxy e.symm)];rfl
     have hlk2:∀ W3,Ext W2 W3->(Instr.lookup 107 (.map (some mb)) (.string x) false).run Tryz.prog W3=.ok (.int .i64 ((cn:Int)+1)) W3:=fun W3 e3=>by
      have:=jcF Tryz.ES Tryz.uMapSI (B2.keeps e3 (fun e=>e)) (Tryz.zeroI W3) x.data.toList false
      rw[hes2,jcQ,if_pos rfl]at this;exact this
     have K2:jae (fun z=>z=mb) wr W2:=by rw[hW2];exact jae.onePut _ _ _
     have O2:SRow w7 W2 (.slice ar n cr) n (t :: freshU S (U.take k)):=hrow.keeps K2 (fun b hb e=>hout (by rw[hb];exact congrArg some e)) (fun b hb e=>by have e:b=mb:=e;have:=HMB.o;omega);have HLEN:=Hd (show n<=119 by
      have h1:=hrow.len;rw[List.length_map,List.length_cons]at h1;have h2:=jkR S (U.take k);rw[List.length_take]at h2
      have:=HUL.o;omega)
     have HMEM:=Hd (show memB (ja7 (U.take k)) x=true↔cn≠0 from by
      rw[jfh,ja9,hcn];unfold cntB;rw[<-Nat.pos_iff_ne_zero,List.count_pos_iff,List.mem_map]
      exact⟨fun hm=>⟨x,hm,rfl⟩,fun ⟨y,hy,e⟩=>by rw[<-show y=x from ByteArray.ext (Array.ext' e)];exact hy⟩)
     have HFS:=Hd (joz S (U.take k) x);rw[<-jmL hx]at HFS;have HTAB:=Hd (show ∀ W3,Ext W2 W3->∃ es ck,Blk W3 mb (.map (Tryz.ES.arr es) ck)/\∀ y:vB,jaX es y.data.toList=cntV (cntB (U.take (k+1)) y)from fun W3 e3=>⟨es2',ck2',B2.keeps e3 (fun e=>e),e7⟩);have HT2:=Hd (And.intro B2 e7);have HLK:=Hd hlk2;have HO2:=Hd O2;have HOUT:=Hd hout;have b1:(k:Int) < (n7:Int):=by have:=HN7.o;omega
     have HK1:=Hd (And.intro hk hlt);have hul:=HUL.o;clear hrow hout h5 h6 hx hcn e6 hes2 hck2 hW2 B2 e7 hlk2 K2 O2 h0
     by_cases hc0:cn=0
     ·subst hc0
      have HNM:=Hd (show memB (ja7 (U.take k)) x=false by
       cases hm:memB (ja7 (U.take k)) x with
       | false=>rfl
       | true=>exact absurd rfl (HMEM.o.1 hm))
      have hlk':(Instr.lookup 107 (.map (some mb)) (.string x) false).run Tryz.prog wr=.ok (.int .i64 0) wr:=hlk;have hmu':(Instr.mapUpdate 107 (.map (some mb)) (.string x) (.int .i64 1)).run Tryz.prog wr=.ok () W2:=hmu;have HLK':Hid (∀ W3,Ext W2 W3->(Instr.lookup 107 (.map (some mb)) (.string x) false).run Tryz.prog W3=.ok (.int .i64 1) W3):=HLK.o;clear hlk hmu HLK;go_wp2_with fail
      refine vC (of_t _ _ [x] (by simp) (jdb W2 [x] 9) (HCC.o.1.ext (HT7.o.2.1.trans (HO2.o.ext.alloc _)))) fun w8 hE8=>?_;rw[jdE];have hE8:=((ExtR W2).alloc (.cells #[.string x] 9)).trans hE8;have HE8:=Hd hE8;have HGET:=Hd (jja w8 s bm room S (shaB x) (HST.o.ext (HT7.o.2.1.trans (HO2.o.ext.trans hE8))));have HLB:Hid (lackB S x=(atL S (shaB x).data.toList).isNone):=rfl
      obtain⟨ag,hag⟩:=vE (atL S (shaB x).data.toList)
      rw[<-hag]at HGET HLB
      obtain⟨sx,hsx⟩:=vE (shaB x)
      rw[<-hsx]at HGET ⊢;clear hE8 hag hsx qx;cases ag with
      | some y =>
       obtain⟨ty,hty⟩:=vE y.2.2.text
       have HG2:=Hd (show vQ 29 #[.pointer (some ⟨s,0,none⟩),.string sx] w8 (fun e w'=>e=.returned (.tuple #[.string y.2.2.text,.bool true])/\Ext w8 w')from HGET.o);go_wp2_with fail
       refine HG2.o.mono ?_;rintro e w9 ⟨rfl,hE9⟩;have HE9:=Hd (HE8.o.trans hE9);clear hE9;rw[<-hty];clear hty;have hfr:freshU S (U.take (k+1))=freshU S (U.take k):=by rw[HFS.o];rw[if_neg (by rw[HNM.o];simp),if_neg (by rw[HLB.o];simp),List.append_nil]
       have HF:=Hd hfr;clear hfr;go_wp2_with fail
       go_roundw
       case rel=>exact⟨k+1,by have:=HK1.o;omega,by go_num,⟨n,by rw[HF.o];exact HO2.o.mono HE9.o⟩,HOUT.o,HTAB.o w9 HE9.o⟩
       case measure=>simp[intOf];omega
      | none =>
       have HG2:=Hd (show vQ 29 #[.pointer (some ⟨s,0,none⟩),.string sx] w8 (fun e w'=>e=.returned (.tuple #[.string ⟨#[]⟩,.bool false])/\Ext w8 w')from HGET.o);go_wp2_with fail
       refine HG2.o.mono ?_;rintro e w9 ⟨rfl,hE9⟩;have HE9:=Hd (HE8.o.trans hE9);clear hE9;have hlk3:=HLK'.o w9 HE9.o;have hm1:n+1<=maxLen:=by have:=HLEN.o;unfold maxLen;omega
       have hm2:(n+1) * 16<=140737488355328:=by have:=HLEN.o;omega
       go_wp2_with (at_builtin;refine jba Tryz.sStrs ((HO2.o.mono HE9.o).mono ((ExtR w9).alloc _)) (.tmp 110) (.tmp 112) rfl rfl rfl (jaS (Blk.new w9 _)) (news:=[.string x]) (by intro u hu;simp at hu;rcases hu with rfl;rfl) rfl rfl hm1 hm2 ?_;intro v' w' r1 r2 r3)
       have r1':SRow w7 w' v' (n+1) (t :: freshU S (U.take (k+1))):=by
        have e1:freshU S (U.take (k+1))=freshU S (U.take k)++[x]:=by rw[HFS.o,if_neg (by rw[HNM.o];simp),if_pos (by rw[HLB.o];rfl)]
        unfold SRow;rw[e1, <-List.cons_append,List.map_append];exact r1
       obtain⟨ar',cr',rfl⟩:=r1'.sl
       have hlt9:=(HT2.o.1.keeps HE9.o (fun e=>e)).lt;have HR9:=Hd (And.intro r1' (show (Value.slice ar' (n+1) cr').ownBlock≠some mb from fun e=>by
        rcases r3 with r3 | r3
        ·exact HOUT.o (r3 ▸ e)
        ·have:=r3 mb e;rw[World.size_alloc]at this;omega))
       have HT9:=Hd (((HT2.o.1.keeps HE9.o (fun e=>e)).alloc (.cells #[.string x] 9)).keeps r2 (fun e=>HOUT.o e));clear r1 r2 r3 r1' hlt9;go_wp2_with fail
       go_roundw
       case rel=>exact⟨k+1,by have:=HK1.o;omega,by go_num,⟨n+1,HR9.o.1⟩,HR9.o.2,es2',ck2',HT9.o,HT2.o.2⟩
       case measure=>simp[intOf];omega
     ·have hc1:¬((cn:Int)+1=1):=by omega
      have hc2:(((cn:Int)+1) == 1)=false:=by simp;omega
      have HNM:=Hd (HMEM.o.2 hc0);go_wp2_with fail
      refine vC (of_t _ _ [x] (by simp) (jdb W2 [x] 9) (HCC.o.1.ext (HT7.o.2.1.trans (HO2.o.ext.alloc _)))) fun w8 hE8=>?_;rw[jdE];have hE8:=((ExtR W2).alloc (.cells #[.string x] 9)).trans hE8;have HE8:=Hd hE8;have HGET:=Hd (jja w8 s bm room S (shaB x) (HST.o.ext (HT7.o.2.1.trans (HO2.o.ext.trans hE8))))
      obtain⟨ag,hag⟩:=vE (atL S (shaB x).data.toList)
      rw[<-hag]at HGET
      obtain⟨sx,hsx⟩:=vE (shaB x)
      rw[<-hsx]at HGET ⊢;clear hE8 hag hsx qx hlk hmu;have hfr:freshU S (U.take (k+1))=freshU S (U.take k):=by rw[HFS.o,if_pos HNM.o,List.append_nil]
      have HF:=Hd hfr;clear hfr;cases ag with
      | some y =>
       obtain⟨ty,hty⟩:=vE y.2.2.text
       have HG2:=Hd (show vQ 29 #[.pointer (some ⟨s,0,none⟩),.string sx] w8 (fun e w'=>e=.returned (.tuple #[.string y.2.2.text,.bool true])/\Ext w8 w')from HGET.o);go_wp2_with fail
       refine HG2.o.mono ?_;rintro e w9 ⟨rfl,hE9⟩;have HE9:=Hd (HE8.o.trans hE9);clear hE9;rw[<-hty];clear hty;go_wp2_with fail
       go_roundw
       case rel=>exact⟨k+1,by have:=HK1.o;omega,by go_num,⟨n,by rw[HF.o];exact HO2.o.mono HE9.o⟩,HOUT.o,HTAB.o w9 HE9.o⟩
       case measure=>simp[intOf];omega
      | none =>
       have HG2:=Hd (show vQ 29 #[.pointer (some ⟨s,0,none⟩),.string sx] w8 (fun e w'=>e=.returned (.tuple #[.string ⟨#[]⟩,.bool false])/\Ext w8 w')from HGET.o);go_wp2_with fail
       refine HG2.o.mono ?_;rintro e w9 ⟨rfl,hE9⟩;have HE9:=Hd (HE8.o.trans hE9);clear hE9;have hlk3:=HLK.o w9 HE9.o;go_wp2_with fail
       go_roundw
       case rel=>exact⟨k+1,by have:=HK1.o;omega,by go_num,⟨n,by rw[HF.o];exact HO2.o.mono HE9.o⟩,HOUT.o,HTAB.o w9 HE9.o⟩
       case measure=>simp[intOf];omega
    ·obtain rfl:k=U.length:=by omega
     obtain⟨⟨n,hrow⟩, -, -⟩:=hub
     obtain⟨ar,cr,hrv⟩:=hrow.sl
     subst hrv;rw[List.take_length]at hrow;have HROW:=Hd hrow;have hb2:¬((U.length:Int) < (n7:Int)):=by have:=HN7.o;omega
     clear hrow;go_wp2_with fail
     go_ret2;unfold UpdP;rw[if_pos HK0.o,HRES.o];have hn:(t :: freshU S U).length=n:=by have:=HROW.o.len;simpa using this
     rw[hn]
     exact⟨_,rfl,HROW.o.sl,HROW.o.own,HT7.o.2.1.trans HROW.o.ext,fun b hb=>Nat.le_trans HT7.o.2.1.size (HROW.o.new b hb)⟩
def juN(W:World)(b c:Nat):Prop:=∃ rv,W.cell? ⟨b,1,none⟩=some rv/\rv.ownBlock=some c
def RK(w W:World):Prop:=w.heap.size<=W.heap.size/\∀ b,b < w.heap.size->∀ c,juN W b c->juN w b c
theorem jkE{W W':World}{b i:Nat}(h:W'.heap[b]?=W.heap[b]?):W'.cell? ⟨b,i,none⟩=W.cell? ⟨b,i,none⟩:=by unfold World.cell?;rw[h]
theorem RK.refl(w:World):RK w w:=⟨Nat.le_refl _,fun _ _ _ h=>h⟩
theorem RK.trans{a b c:World}(h:RK a b)(k:RK b c):RK a c:=⟨Nat.le_trans h.1 k.1,fun x hx y r=>h.2 x hx y (k.2 x (Nat.lt_of_lt_of_le hx h.1) y r)⟩
theorem RK.keeps{F:BSet}{w W W':World}(h:RK w W)(k:jae F W W')(hF:∀ b,F b->w.heap.size<=b):RK w W':=⟨Nat.le_trans h.1 k.size,fun b hb c r=>by
 obtain⟨rv,h1,h2⟩:=r
 rw[jkE (k.block b (Nat.lt_of_lt_of_le hb h.1) (fun f=>by have:=hF b f;omega))]at h1;exact h.2 b hb c ⟨rv,h1,h2⟩⟩
theorem RK.ext{w W W':World}(h:RK w W)(e:Ext W W'):RK w W':=h.keeps e (fun _ f=>f.elim)
theorem RK.put{w W W':World}{bm:Nat}{es:Array MapEntry}{ck:Nat}(h:RK w W)(k:jae (fun z=>z=bm) W W')(hm:Blk W' bm (.map es ck)):RK w W':=⟨Nat.le_trans h.1 k.size,fun b hb c r=>by
 obtain⟨rv,h1,h2⟩:=r
 by_cases e:b=bm
 ·subst e
  unfold World.cell? at h1;rw[show W'.heap[b]?=_ from hm]at h1;cases h1
 ·rw[jkE (k.block b (Nat.lt_of_lt_of_le hb h.1) e)]at h1
  exact h.2 b hb c ⟨rv,h1,h2⟩⟩
theorem RK.set{w W:World}(h:RK w W)(zb:Nat){f:Nat}(hf:f=2\/f=3)(v:Value):RK w (W.setCell ⟨zb,f,none⟩ v):=⟨by rw[World.size_setCell];exact h.1,fun b hb c r=>by
 obtain⟨rv,h1,h2⟩:=r
 rw[World.cell?_setCell_other _ _ _ _ (fun e=>by have:=congrArg Addr.off e;rcases hf with rfl | rfl <;> cases this)]at h1;exact h.2 b hb c ⟨rv,h1,h2⟩⟩
def jlU(w W:World)(G:List Nd5):Prop:=∀ x∈G,∀ c,juN W x.2.1 c->w.heap.size<=c
theorem jlU.rk{w W W':World}{G:List Nd5}(h:jlU w W G)(hk:RK W W')(hl:∀ x∈G,x.2.1 < W.heap.size):jlU w W' G:=fun x hx c r=>h x hx c (hk.2 _ (hl x hx) c r)
def jwG(w:World)(bg:Nat)(L:List vB)(iv:Value)(W:World):Prop:=∃ i:Nat,i<=L.length/\iv=.int .i64 i/\(∀ t∈L.take i,∃ n,jbK t n)/\∃ G,ReS w bg G (L.take i) W/\jlU w W G
def AnyQ(Q:Prop)(L:List vB):Prop:=∀ t∈L,(∃ n,jbK t n)\/(GetE t/\Q)
theorem jgn{L:List vB}(h:∀ t∈L,∃ n,jbK t n):AnyQ False L:=fun t ht=>.inl (h t ht)
def RdA(Q:Prop)(w:World)(L:List vB)(e:Ending)(w':World):Prop:=(e=.returned (.tuple #[.map none,.int .i64 2])/\Ext w w'/\Q)\/((∀ t∈L,∃ n,jbK t n)/\∃ bg G,e=.returned (.tuple #[.map (some bg),.int .i64 0])/\ReS w bg G L w'/\jlU w w' G)
theorem jnV{L:List vB}{i:Nat}{t:vB}{P:vB->Prop}(h:∀ x∈L.take i,P x)(ht:L[i]?=some t)(hp:P t):∀ x∈L.take (i+1),P x:=fun x hx=>by
 rw[List.take_add_one,ht]at hx;rcases List.mem_append.1 hx with hx | hx
 ·exact h x hx
 ·have hx:x∈[t]:=hx
  rw[List.mem_singleton.1 hx];exact hp
theorem jrP(w:World)(hc:jb2 w)(hGE:ErrT w)(v:Value)(L:List vB)(hv:RdS w v L)(hl:L.length<=1000)(h0:L≠[])(Q:Prop)(hN:AnyQ Q L) :
  vQ 81 #[v] w (RdA Q w L):=by
 have hpos:0 < L.length:=List.length_pos_iff.2 h0
 obtain⟨a,c,rfl,_⟩:=hv.slice
 have HL3:=Hd hv;have HC:=Hd hc;have HN:=Hd hN;have HGE:=Hd hGE;have hmm:=Tryz.makeMapIt w;clear hv hc hN h0 hGE;have hb0:((L.length:Int) == 0)=false:=by simpa using (by omega:L.length≠0)
 go_enter Tryz.func81,Tryz.ntmps81;go_wp2_with fail
 obtain⟨bg,hbg⟩:=vE w.heap.size
 have HBG:=Hd hbg;rw[<-hbg];clear hbg hmm;go_loopw [16] (fun iv wr=>jwG w bg L iv wr) (fun iv _=>L.length - (intOf iv).toNat)
 case atStart =>
  refine⟨0,Nat.zero_le _,rfl,fun t ht=>(by cases ht),[],⟨(ExtR w).alloc _,⟨⟨[],0,?_,MapV.nil 0⟩,by simp,fun x hx=>by cases hx⟩,rfl,by rw[HBG.o];exact Nat.le_refl _,fun x hx=>by cases hx⟩,fun x hx=>by cases hx⟩
  rw[HBG.o];exact Blk.new w _
 case round =>
  obtain⟨i,hi,rfl,hall,G,hS,hrn⟩:=hrel
  have HRN:=Hd hrn;clear hrn;have HALL:=Hd hall;have HSR:=Hd hS;clear hS hall
  by_cases hlt:i < L.length
  ·have b1:(i:Int) < (L.length:Int):=by omega
   obtain⟨t,ht⟩:∃ t,L[i]?=some t:=⟨_,List.getElem?_eq_getElem hlt⟩
   obtain⟨ax,cx,hh,hcell⟩:=HL3.o.slice
   obtain⟨ba,oa,hao,hqa⟩:=hcell i t ht
   subst hao;cases hh;have q1:=jaa hqa HSR.o.ext;rcases HN.o t (List.mem_of_getElem? ht)with hnode |⟨hbad,hq⟩
   case inr =>
    have HBAD:=Hd hbad;have HQ:=Hd hq
    obtain⟨n,hn⟩:=vE jar
    have HRF:=Hd (show n.refs.length=16 by rw[hn];rfl);have hg:=HBAD.o wr (HGE.o.ext HSR.o.ext);unfold jr9 at hg;rw[<-hn]at hg;clear hcell hqa ht hbad hn hq;go_wp2_with fail
    refine hg.mono ?_;rintro e w4 ⟨rfl,hE⟩;have HX4:=Hd (HSR.o.ext.trans hE);clear hE hg q1;unfold jad.V;go_wp2_with (refine jah Tryz.allocNode rfl rfl ?_;intro W3 hB3 hE3;refine jag (vs:=n.cells) rfl rfl rfl rfl hB3 (by rw[n.cells_len HRF.o];rfl) (by rw[n.cells_len HRF.o];exact Tryz.szNode) (jad.one _) ?_;intro W4 hB4 hE4;have hE34:Ext w4 W4:=hE3.trans' hE4 (fun x hx e=>by have e:x=w4.heap.size:=e;omega))
    go_ret2;exact .inl ⟨rfl,HX4.o.trans hE34,HQ.o⟩
   have HALL2:=Hd (jnV HALL.o ht hnode)
   obtain⟨n0,hn0⟩:=hnode
   have hIs:=jb9 hn0;have HTS:=Hd (joR ht);have HIT:=Hd (show itOf t=⟨t,jaU (nodeOf t),0,0⟩from rfl)
   obtain⟨n,hnn⟩:=vE (nodeOf t)
   rw[<-hnn]at hIs HIT;have h16:=jhQ hIs
   obtain⟨htx,g,hg⟩:=hIs
   have HG:=Hd hg;have HRF:=Hd ((hg.one (inlP g)).refs);have HTX:=Hd htx;clear hcell hn0 hnn htx hg hqa ht;go_wp2_with fail
   rw[HTX.o];refine vC (jhN (inlP g) wr n HG.o) fun w4 hE=>?_;rw[<-HTX.o];have HX4:=Hd hE;clear hE q1;unfold jad.V;go_wp2_with (refine jah Tryz.allocNode rfl rfl ?_;intro W3 hB3 hE3;refine jag (vs:=n.cells) rfl rfl rfl rfl hB3 (by rw[n.cells_len HRF.o];rfl) (by rw[n.cells_len HRF.o];exact Tryz.szNode) (jad.one _) ?_;intro W4 hB4 hE4;have hE34:Ext w4 W4:=hE3.trans' hE4 (fun x hx e=>by have e:x=w4.heap.size:=e;omega))
   have HX5:=Hd (HX4.o.trans hE34);have HB5:=Hd hB4;clear hB3 hE3 hB4 hE4 hE34 HX4;refine vC (of_t _ _ [t] (by simp) (jdb W4 [t] 9) (HC.o.ext ((HSR.o.ext.trans HX5.o).alloc _))) fun w6 hE=>?_;rw[jdE];have hx6:=((ExtR W4).alloc (.cells #[.string t] 9)).trans hE;have HX6:=Hd (HX5.o.trans hx6);have HB6:=Hd (HB5.o.keeps hx6 (fun h=>h));have HS6:=Hd (HSR.o.keeps HX6.o);have hlk:=HS6.o.at'.look (shaB t) false;have HNA:=Hd (juW (L:=G) (k:=ky t));have HKY:Hid ((shaB t).data.toList=ky t):=rfl;have HAD:=Hd (show addG (G.map kvI) t=if (G.map kvI).any (fun x=>decide (ky t=x.1))then G.map kvI else G.map kvI++[(ky t,itOf t)]from rfl);rw[HKY.o]at hlk;simp only[Bool.false_eq_true,if_false]at hlk
   obtain⟨sh,hsh⟩:=vE (shaB t)
   rw[<-hsh]at hlk HKY ⊢
   obtain⟨kt,hkt⟩:=vE (ky t)
   rw[<-hkt]at hlk HKY HNA HAD;clear hE hx6 HX5 HB5 hsh hkt;cases ha:atL G kt with
   | some x =>
    rw[ha]at hlk;unfold ptrO at hlk;simp only at hlk;have hz:addG (G.map kvI) t=G.map kvI:=by rw[HAD.o,HNA.o,ha];rfl
    have HZ:=Hd hz;clear ha hz;go_wp2_with fail
    go_roundw
    case rel =>
     exact⟨i+1,by omega,by go_num,HALL2.o,G,⟨HS6.o.ext,HS6.o.at',by rw[HTS.o, <-HS6.o.is,HZ.o],HS6.o.new,HS6.o.news⟩,HRN.o.rk ((RK.refl _).ext HX6.o) (fun x hx=>(HSR.o.at'.items x hx).lt)⟩
    case measure=>simp[intOf];omega
   | none =>
    rw[ha]at hlk;unfold ptrO at hlk;simp only at hlk;have hz:addG (G.map kvI) t=G.map kvI++[(kt,itOf t)]:=by rw[HAD.o,HNA.o,ha];rfl
    have HZ:=Hd hz;have HA:=Hd ha;have hld6:=jan w6 _ n HRF.o HB6.o;unfold jad.V at hld6;clear ha hz;go_wp2_with (refine jaf 144 (.tmp 7) rfl rfl _ _ rfl hld6 ?_)
    refine (jnm g n HG.o w6).mono ?_;rintro e w8 ⟨v8,rfl,hR8,hnil⟩;have hE8:=hR8.ext;have hnew8:=hR8.new;have hown:=hR8.own
    obtain⟨a8,c8,rfl⟩:=hR8.sl
    have S8:=HS6.o.keeps hE8;have hA9:=S8.at'.ext ((ExtR w8).alloc (.cells #[.string t,.slice a8 (jaU n).length c8,.int .i64 0,.int .i64 0] 125));have hb9:=Blk.new w8 (.cells #[.string t,.slice a8 (jaU n).length c8,.int .i64 0,.int .i64 0] 125);have hi9:jeA (w8.alloc (.cells #[.string t,.slice a8 (jaU n).length c8,.int .i64 0,.int .i64 0] 125)) w8.heap.size (itOf t):=by
     rw[HIT.o]
     exact⟨_,hb9,jbe hown ((ExtR w8).alloc _)⟩
    obtain⟨ob,hmu,hA10⟩:=hA9.put sh (by rw[HKY.o];exact HA.o) hi9 (fun x hx e=>by have:=(S8.at'.items x hx).lt;omega)
    rw[HKY.o]at hA10;have hE10:Ext w ((w8.alloc (.cells #[.string t,.slice a8 (jaU n).length c8,.int .i64 0,.int .i64 0] 125)).putObj bg ob):=(S8.ext.alloc _).putObj (.inr S8.new) _;have hsz6:=S8.ext.size;have hrk8:RK wr w8:=((RK.refl _).ext HX6.o).ext hE8;have hobm:∃ es ck,Blk ((w8.alloc (.cells #[.string t,.slice a8 (jaU n).length c8,.int .i64 0,.int .i64 0] 125)).putObj bg ob) bg (.map es ck):=by
     obtain⟨es,ck,h1,_⟩:=hA10.mp
     exact⟨_,ck,h1⟩
    obtain⟨oes,ock,hobm⟩:=hobm
    have hrk10:=(hrk8.ext ((ExtR w8).alloc (.cells #[.string t,.slice a8 (jaU n).length c8,.int .i64 0,.int .i64 0] 125))).put (jae.onePut _ bg ob) hobm;have HRN10:=Hd (show jlU w ((w8.alloc (.cells #[.string t,.slice a8 (jaU n).length c8,.int .i64 0,.int .i64 0] 125)).putObj bg ob) (G++[(kt,w8.heap.size,itOf t)])from fun x hx c r=>by
     rcases List.mem_append.1 hx with hx | hx
     ·exact HRN.o.rk hrk10 (fun x hx=>(HSR.o.at'.items x hx).lt) x hx c r
     ·rw[List.mem_singleton.1 hx]at r
      obtain⟨rv,r1,r2⟩:=r
      have hne:w8.heap.size≠bg:=fun e=>by
       obtain⟨_,_,h1,_⟩:=S8.at'.mp
       have:=h1.lt;omega
      have hq:((w8.alloc (.cells #[.string t,.slice a8 (jaU n).length c8,.int .i64 0,.int .i64 0] 125)).putObj bg ob).cell? ⟨w8.heap.size,1,none⟩=some (.slice a8 (jaU n).length c8):=(hb9.keeps (jae.onePut _ bg ob) hne).cell (i:=1) vF;have r1:_=some rv:=r1;rw[hq]at r1;have e:=Option.some.inj r1;rw[<-e]at r2
      have:=hnew8 c r2
      have:=HS6.o.ext.size
      omega)
    have HE10:=Hd hE10;have HA10:=Hd hA10;have HNW:Hid (w.heap.size<=w8.heap.size):=S8.ext.size;clear hrk8 hobm hrk10 hsz6 hE10 hA10 hi9 hb9 hA9 S8 hown hnew8 hE8 hR8 hnil hld6 hlk;go_wp2_with fail
    go_roundw
    case rel =>
     refine⟨i+1,by omega,by go_num,HALL2.o,G++[(kt,w8.heap.size,itOf t)],⟨HE10.o,HA10.o,?_,HS6.o.new,?_⟩,HRN10.o⟩
     ·rw[HTS.o, <-HS6.o.is,HZ.o,List.map_append];rfl
     ·intro x hx
      rcases List.mem_append.1 hx with hx | hx
      ·exact HS6.o.news x hx
      ·simp only[List.mem_singleton]at hx;subst hx;exact HNW.o
    case measure=>simp[intOf];omega
  ·have hie:i=L.length:=by omega
   subst hie;have HS:=Hd (show ReS w bg G L wr by have:=HSR.o;rwa [List.take_length]at this);clear HSR;go_wp2_with fail
   go_ret2;exact .inr ⟨by have h:=HALL.o;rwa [List.take_length]at h,bg,G,rfl,HS.o,HRN.o⟩
def okM(S G:List Nd5)(M:List vB)(x:vB):Bool:=memB (ja7 M) x ||(atL S x.data.toList).isSome ||(atL G x.data.toList).isSome
theorem jnv(w0:World)(s bm:Nat)(room:Int)(S G:List Nd5)(bg b:Nat)(h:jaT w0 s bm room S)(hG:jc9 w0 bg G)(W:World)(M:List vB)(hM:Meet w0 s S bg b M W)(x:vB)(hl:M.length<=1000000) :
  vQ 136 #[.string x,.pointer (some ⟨b+4,0,none⟩),.pointer (some ⟨b,0,none⟩),.pointer (some ⟨b+2,0,none⟩),.pointer (some ⟨b+1,0,none⟩)] W fun e w'=>e=.returned (.bool (okM S G M x))/\Meet w0 s S bg b (M++[x]) w':=by
 have HM:=Hd hM;have HS:=Hd h
 obtain⟨es,ck,h5,h6⟩:=hM.tab
 obtain⟨v,n,h1,h2,h3,h4⟩:=hM.var
 obtain⟨ad,cp,rfl⟩:=jaJ h2
 obtain⟨cn,hcn⟩:=vE (cntB M x)
 have hcl:cn<=1000000:=by
  rw[hcn];unfold cntB;refine Nat.le_trans List.count_le_length ?_;rw[List.length_map];exact hl
 have e6:=h6 x;rw[<-hcn]at e6;have hlk:(Instr.lookup 107 (.map (some (b+3))) (.string x) false).run Tryz.prog W=.ok (.int .i64 (cn:Int)) W:=by
  have:=jcF Tryz.ES Tryz.uMapSI h5 (Tryz.zeroI W) x.data.toList false
  rw[e6]at this;unfold cntV at this
  by_cases h0:cn=0
  ·rw[if_pos h0]at this;rw[h0];exact this
  ·rw[if_neg h0]at this;exact this
 obtain⟨es2,hes2⟩:=vE (jbn es x.data.toList (.int .i64 ((cn:Int)+1)) ck)
 obtain⟨ck2,hck2⟩:=vE (if (jaX es x.data.toList).isSome then ck else ck+1)
 obtain⟨W2,hW2⟩:=vE (W.putObj (b+3) (.map (Tryz.ES.arr es2) ck2))
 have hmu:(Instr.mapUpdate 107 (.map (some (b+3))) (.string x) (.int .i64 ((cn:Int)+1))).run Tryz.prog W=.ok () W2:=by
  have:=jci Tryz.ES Tryz.uMapSI h5 x.data.toList (.int .i64 ((cn:Int)+1))
  rw[<-hes2, <-hck2, <-hW2]at this;exact this
 have B2:Blk W2 (b+3) (.map (Tryz.ES.arr es2) ck2):=by rw[hW2];exact h5.put_same _
 have e7:∀ y:vB,jaX es2 y.data.toList=cntV (cntB (M++[x]) y):=fun y=>by
  rw[hes2,jcQ,h6 y,jpQ]
  by_cases hxy:y.data.toList=x.data.toList
  ·have hyx:y=x:=ByteArray.ext (Array.ext' hxy)
   subst hyx;rw[if_pos rfl,if_pos rfl, <-hcn];unfold cntV;rw[if_neg vO];simp
  ·rw[if_neg hxy,if_neg (fun e=>hxy e.symm)];rfl
 have hlk2:(Instr.lookup 107 (.map (some (b+3))) (.string x) false).run Tryz.prog W2=.ok (.int .i64 ((cn:Int)+1)) W2:=by
  have:=jcF Tryz.ES Tryz.uMapSI B2 (Tryz.zeroI W2) x.data.toList false
  rw[hes2,jcQ,if_pos rfl]at this;exact this
 have K2:jae (fun z=>z=b+3) W W2:=by rw[hW2];exact jae.onePut _ _ _
 have q9:W.cell? ⟨b+4,0,none⟩=some (.map (some (b+3))):=hM.c9.cell (i:=0) vF;have E2:Ext w0 W2:=hM.ext.trans' K2 (fun y hy e=>by have e:y=_:=e;have:=hM.lo;omega);have C9:=hM.c9.keeps K2 vO;have q92:W2.cell? ⟨b+4,0,none⟩=some (.map (some (b+3))):=C9.cell (i:=0) vF;have C3:=hM.c3.keeps K2 vO;have q32:W2.cell? ⟨b,0,none⟩=some (.pointer (some ⟨s,0,none⟩)):=C3.cell (i:=0) vF;have C5:=hM.c5.keeps K2 vO;have V2:=h1.keeps K2 vO;have O2:=jaW h2 K2 (fun z hz e=>by have:=h4 z hz;have e:z=_:=e;omega);have hV2:W2.cell? ⟨b+2,0,none⟩=some (.slice ad n cp):=V2.cell (i:=0) vF;have hV2f:W2.frozen? ⟨b+2,0,none⟩=false:=V2.frozen;have qs:=(h.st.keeps E2 (fun g=>g)).cell (i:=1) (v:=.map (some bm)) vF;have hlks:=(h.mp.ext E2).look x false;simp only[Bool.false_eq_true,if_false]at hlks;have HMEM:=Hd (show memB (ja7 M) x=true↔cn≠0 from by
  rw[jfh,ja9,hcn];unfold cntB;rw[<-Nat.pos_iff_ne_zero,List.count_pos_iff,List.mem_map]
  exact⟨fun hm=>⟨x,hm,rfl⟩,fun ⟨y,hy,e⟩=>by rw[<-show y=x from ByteArray.ext (Array.ext' e)];exact hy⟩)
 have HFS:=Hd (jng S M x);have HTAB:=Hd (show ∃ es ck,Blk W2 (b+3) (.map (Tryz.ES.arr es) ck)/\∀ y:vB,jaX es y.data.toList=cntV (cntB (M++[x]) y)from⟨es2,ck2,B2,e7⟩);have HGM:Hid (∀ W3:World,Ext w0 W3->jc9 W3 bg G):=fun _ e=>hG.ext e
 obtain⟨ok,hok⟩:=vE (okM S G M x)
 rw[<-hok];have HOK:=Hd hok;clear hok;have HK2:=Hd K2;have HC3:=Hd C3;have HC5:=Hd C5;have HC9:=Hd C9;have HV2:=Hd V2;have HO2:=Hd O2;have HE2:=Hd E2;have H4:=Hd h4;have H3:=Hd h3;have HLO:=Hd hM.lo;have HEND:Hid (frK S (M++[x])=frK S M->Meet w0 s S bg b (M++[x]) W2):=(fun e=>⟨E2,hM.lo,C3,C5,C9,⟨es2,ck2,B2,e7⟩,_,n,V2,by rw[e];exact O2,by rw[List.length_append];omega,h4⟩);clear hM h h1 h2 h4 h5 h6 hcn e6 hes2 hck2 hW2 B2 e7 K2 C3 C5 C9 V2 O2 E2 hG
 by_cases hc0:cn=0
 ·subst hc0
  have hnm:memB (ja7 M) x=false:=by
   cases hm:memB (ja7 M) x with
   | false=>rfl
   | true=>exact absurd rfl (HMEM.o.1 hm)
  have HNM:=Hd hnm;have hlk':(Instr.lookup 107 (.map (some (b+3))) (.string x) false).run Tryz.prog W=.ok (.int .i64 0) W:=hlk;have hmu':(Instr.mapUpdate 107 (.map (some (b+3))) (.string x) (.int .i64 1)).run Tryz.prog W=.ok () W2:=hmu;have hlk2':(Instr.lookup 107 (.map (some (b+3))) (.string x) false).run Tryz.prog W2=.ok (.int .i64 1) W2:=hlk2;clear hnm hlk hmu hlk2;cases hs:atL S x.data.toList with
  | some y =>
   rw[hs]at hlks;unfold ptrO at hlks;simp only at hlks;have HFE:=Hd (show frK S (M++[x])=frK S M by rw[HFS.o,HNM.o,hs];rfl);have hok:ok=true:=by rw[HOK.o];unfold okM;rw[hs];simp
   subst hok;clear hs HOK;go_enter Tryz.func136,Tryz.ntmps136;go_wp2_with fail
   go_ret
   exact⟨rfl,HEND.o HFE.o⟩
  | none =>
   rw[hs]at hlks;unfold ptrO at hlks;simp only at hlks;have HFE:=Hd (show frK S (M++[x])=frK S M++[x] by rw[HFS.o,HNM.o,hs];rfl);have hok:ok=(atL G x.data.toList).isSome:=by rw[HOK.o];unfold okM;rw[hs,HNM.o];simp
   have HOK2:=Hd hok;clear hs HOK hok;have hm1:n+1<=maxLen:=by have:=H3.o;unfold maxLen;omega
   have hm2:(n+1) * 16<=140737488355328:=by have:=H3.o;omega
   cases hyg:atL G x.data.toList with
   | some yg =>
    have HGY:=Hd hyg;have hok:ok=true:=by rw[HOK2.o,hyg];rfl
    subst hok;clear hyg HOK2;go_enter Tryz.func136,Tryz.ntmps136
    obtain⟨i0,hi,hz0,hz1,hz2⟩:=info_parts Tryz.infoStr
    go_wp2_with (at_builtin;refine jbO _ rfl (.tmp 24) (.tmp 26) 34 rfl 9 i0 _ 1 16 Tryz.uStrs hi hz0 hz1 hz2 rfl vI (.slice ad n cp) n _ rfl (jbe HO2.o ((ExtR W2).alloc _)) ⟨W2.heap.size,0,none⟩ 1 1 [.string x] rfl rfl (jaS (Blk.new W2 _)) (by simp[Value.oneCell']) hm1 hm2 ?_;intro v' w6 r1 r2 r3;obtain⟨ad',cp',rfl⟩:=jaJ r1;have K6:jae (fun z=>(Value.slice ad n cp).ownBlock=some z) W2 w6:=((jae.refl _ W2).alloc _).trans r2;have nO:∀ z,z < b+5->¬(Value.slice ad n cp).ownBlock=some z:=(fun z hz e=>by have:=H4.o z e;omega);have hV6:=HV2.o.keeps K6 (nO _ vO);have q56:w6.cell? ⟨b+2,0,none⟩=some (.slice ad n cp):=hV6.cell (i:=0) vF;have f56:w6.frozen? ⟨b+2,0,none⟩=false:=hV6.frozen;have K7:jae (fun z=>z=b+2) w6 (w6.setCell ⟨b+2,0,none⟩ (.slice ad' (n+1) cp')):=jae.oneSet w6 ⟨b+2,0,none⟩ _;have C57:=(HC5.o.keeps K6 (nO _ vO)).keeps K7 vO;have q57:=C57.cell (i:=0) (v:=.map (some bg)) vF;have E7:Ext w0 (w6.setCell ⟨b+2,0,none⟩ (.slice ad' (n+1) cp')):=(HE2.o.trans' K6 (fun y hy e=>by have:=H4.o y e;have:=HLO.o;omega)).trans' K7 (fun y hy e=>by have e:y=_:=e;have:=HLO.o;omega);have hlkg:=(HGM.o _ E7).look x false;rw[HGY.o]at hlkg;unfold ptrO at hlkg;simp only[Bool.false_eq_true,if_false]at hlkg)
    go_ret
    refine⟨rfl,E7,HLO.o,(HC3.o.keeps K6 (nO _ vO)).keeps K7 vO,C57,(HC9.o.keeps K6 (nO _ vO)).keeps K7 vO,?_,.slice ad' (n+1) cp',n+1,hV6.set_same (i:=0) _,?_,?_,?_⟩
    ·obtain⟨es3,ck3,hT1,hT2⟩:=HTAB.o
     exact⟨es3,ck3,(hT1.keeps K6 (nO _ vO)).keeps K7 vO,hT2⟩
    ·rw[HFE.o,List.map_append]
     refine jaW r1 K7 (fun z hz e=>?_);have e:z=b+2:=e;rcases r3 with r3 | r3
     ·have:=H4.o z (r3 ▸ hz);omega
     ·have h9:=r3 z hz;rw[World.size_alloc]at h9;have:=HV2.o.lt;omega
    ·have:=H3.o;rw[List.length_append];exact Nat.succ_le_succ this
    ·intro z hz
     rcases r3 with r3 | r3
     ·exact H4.o z (r3 ▸ hz)
     ·have h9:=r3 z hz;rw[World.size_alloc]at h9;have:=HC9.o.lt;omega
   | none =>
    have HGY:=Hd hyg;have hok:ok=false:=by rw[HOK2.o,hyg];rfl
    subst hok;clear hyg HOK2;go_enter Tryz.func136,Tryz.ntmps136
    obtain⟨i0,hi,hz0,hz1,hz2⟩:=info_parts Tryz.infoStr
    go_wp2_with (at_builtin;refine jbO _ rfl (.tmp 24) (.tmp 26) 34 rfl 9 i0 _ 1 16 Tryz.uStrs hi hz0 hz1 hz2 rfl vI (.slice ad n cp) n _ rfl (jbe HO2.o ((ExtR W2).alloc _)) ⟨W2.heap.size,0,none⟩ 1 1 [.string x] rfl rfl (jaS (Blk.new W2 _)) (by simp[Value.oneCell']) hm1 hm2 ?_;intro v' w6 r1 r2 r3;obtain⟨ad',cp',rfl⟩:=jaJ r1;have K6:jae (fun z=>(Value.slice ad n cp).ownBlock=some z) W2 w6:=((jae.refl _ W2).alloc _).trans r2;have nO:∀ z,z < b+5->¬(Value.slice ad n cp).ownBlock=some z:=(fun z hz e=>by have:=H4.o z e;omega);have hV6:=HV2.o.keeps K6 (nO _ vO);have q56:w6.cell? ⟨b+2,0,none⟩=some (.slice ad n cp):=hV6.cell (i:=0) vF;have f56:w6.frozen? ⟨b+2,0,none⟩=false:=hV6.frozen;have K7:jae (fun z=>z=b+2) w6 (w6.setCell ⟨b+2,0,none⟩ (.slice ad' (n+1) cp')):=jae.oneSet w6 ⟨b+2,0,none⟩ _;have C57:=(HC5.o.keeps K6 (nO _ vO)).keeps K7 vO;have q57:=C57.cell (i:=0) (v:=.map (some bg)) vF;have E7:Ext w0 (w6.setCell ⟨b+2,0,none⟩ (.slice ad' (n+1) cp')):=(HE2.o.trans' K6 (fun y hy e=>by have:=H4.o y e;have:=HLO.o;omega)).trans' K7 (fun y hy e=>by have e:y=_:=e;have:=HLO.o;omega);have hlkg:=(HGM.o _ E7).look x false;rw[HGY.o]at hlkg;unfold ptrO at hlkg;simp only[Bool.false_eq_true,if_false]at hlkg)
    go_ret
    refine⟨rfl,E7,HLO.o,(HC3.o.keeps K6 (nO _ vO)).keeps K7 vO,C57,(HC9.o.keeps K6 (nO _ vO)).keeps K7 vO,?_,.slice ad' (n+1) cp',n+1,hV6.set_same (i:=0) _,?_,?_,?_⟩
    ·obtain⟨es3,ck3,hT1,hT2⟩:=HTAB.o
     exact⟨es3,ck3,(hT1.keeps K6 (nO _ vO)).keeps K7 vO,hT2⟩
    ·rw[HFE.o,List.map_append]
     refine jaW r1 K7 (fun z hz e=>?_);have e:z=b+2:=e;rcases r3 with r3 | r3
     ·have:=H4.o z (r3 ▸ hz);omega
     ·have h9:=r3 z hz;rw[World.size_alloc]at h9;have:=HV2.o.lt;omega
    ·have:=H3.o;rw[List.length_append];exact Nat.succ_le_succ this
    ·intro z hz
     rcases r3 with r3 | r3
     ·exact H4.o z (r3 ▸ hz)
     ·have h9:=r3 z hz;rw[World.size_alloc]at h9;have:=HC9.o.lt;omega
 ·have hc1:¬((cn:Int)+1<=1):=by omega
  have HFE:=Hd (show frK S (M++[x])=frK S M by rw[HFS.o,HMEM.o.2 hc0];rfl);have hok:ok=true:=by rw[HOK.o];unfold okM;rw[HMEM.o.2 hc0];simp
  subst hok;clear HOK;go_enter Tryz.func136,Tryz.ntmps136;go_wp2_with fail
  go_ret
  exact⟨rfl,HEND.o HFE.o⟩
structure Fair(G:List Nd5):Prop where
 few:G.length<=1000
 refs:∀ y∈G,y.2.2.refs.length<=16
def has2(S G:List Nd5)(x:vB):Prop:=(atL S x.data.toList).isSome=true\/(atL G x.data.toList).isSome=true
structure jfp(S G:List Nd5)(root:vB)(M:List vB)(i:Nat):Prop where
 is:M=root ::((frK S M).take i).flatMap (jb3 G)
 le:i<=(frK S M).length
 inG:∀ x∈M,has2 S G x
theorem jgz{G:List Nd5}(h:Fair G):∀ l:List vB,(l.flatMap (jb3 G)).length<=16 * l.length
 | []=>by simp
 | x :: r=>by
  have ih:=jgz h r
  have:(jb3 G x).length<=16:=by
   unfold jb3;split
   ·rename_i y hy;exact h.refs y (ja6 hy).1
   ·simp
  rw[List.flatMap_cons,List.length_append,List.length_cons];omega
theorem jfp.len{S G:List Nd5}{root:vB}{M:List vB}{i:Nat}(h:jfp S G root M i)(hs:Fair G):M.length<=1+16 * i:=by
 have:=jgz hs ((frK S M).take i)
 rw[List.length_take]at this;have h2:=congrArg List.length h.is;rw[List.length_cons]at h2;omega
theorem jfp.at'{S G:List Nd5}{root:vB}{M:List vB}{i:Nat}(h:jfp S G root M i){x:vB}(hx:x∈frK S M):(atL G x.data.toList).isSome=true:=by
 have hm:=jfD.1 hx;rcases h.inG x hm.1 with h | h
 ·rw[hm.2]at h;cases h
 ·exact h
theorem jg9{S G:List Nd5}{M:List vB}(h:∀ x∈frK S M,(atL G x.data.toList).isSome=true):(frK S M).length<=G.length:=by
 have h1:((frK S M).map fun x=>x.data.toList).Nodup:=by
  have:=jkQ S M
  generalize frK S M=l at this;induction l with
  | nil=>simp
  | cons z r ih =>
   rw[List.nodup_cons]at this;rw[List.map_cons,List.nodup_cons]
   exact⟨fun hm=>by obtain⟨y,hy,e⟩:=List.mem_map.1 hm;exact this.1 (jl1 e ▸ hy),ih this.2⟩
 have:=List.Nodup.length_le_of_subset h1 (l₂:=G.map (·.1)) (fun k hk=>by
  obtain⟨x,hx,e⟩:=List.mem_map.1 hk
  obtain⟨y,hy⟩:=Option.isSome_iff_exists.1 (h x hx)
  exact List.mem_map.2 ⟨y,(ja6 hy).1,by rw[(ja6 hy).2,e]⟩)
 simpa using this
theorem jfp.step{S G:List Nd5}{root:vB}{M:List vB}{i:Nat}(h:jfp S G root M i){x:vB}(hx:(frK S M)[i]?=some x)(hr:∀ r∈jb3 G x,has2 S G r):jfp S G root (M++jb3 G x) (i+1):=by
 obtain⟨X,hX⟩:=jnf S M (jb3 G x)
 have hlt:i < (frK S M).length:=(List.getElem?_eq_some_iff.1 hx).1
 refine⟨?_,?_,?_⟩
 ·have e:(frK S (M++jb3 G x)).take (i+1)=(frK S M).take i++[x]:=by
   rw[hX,List.take_append_of_le_length vO,List.take_add_one,hx];rfl
  rw[e,List.flatMap_append]
  have:=h.is
  generalize frK S M=l at this;rw[this]
  simp
 ·rw[hX,List.length_append];omega
 ·intro y hy
  rcases List.mem_append.1 hy with hy | hy
  ·exact h.inG y hy
  ·exact hr y hy
theorem jxC{S G:List Nd5}{M:List vB}{x:vB}(h:okM S G M x=true)(hM:∀ y∈M,has2 S G y):has2 S G x:=by
 unfold okM at h;simp only[Bool.or_eq_true]at h;rcases h with (h | h) | h
 ·exact hM x ((ja9 _ _).1 ((jfh _ _).1 h))
 ·exact .inl h
 ·exact .inr h
theorem jvG{S G:List Nd5}{M:List vB}{x:vB}(h:okM S G M x=false):¬ has2 S G x:=by
 unfold okM at h;simp only[Bool.or_eq_false_iff]at h;rintro (e | e)
 ·rw[h.1.2]at e;cases e
 ·rw[h.2]at e;cases e
def jwJ(w0:World)(s:Nat)(S G:List Nd5)(bg b:Nat)(root:vB)(wv iv:Value)(W:World):Prop:=wv=.bool true/\∃ (i:Nat) (M:List vB),iv=.int .i64 i/\jfp S G root M i/\Meet w0 s S bg b M W
def juL(w0:World)(s:Nat)(S G:List Nd5)(bg b:Nat)(M R:List vB)(wv jv:Value)(W:World):Prop:=wv=.bool true/\∃ j:Nat,jv=.int .i64 j/\j<=R.length/\Meet w0 s S bg b (M++R.take j) W/\∀ r∈R.take j,has2 S G r
def RhP(w0:World)(S G:List Nd5)(root:vB)(e:Ending)(w':World):Prop:=(e=.returned (.tuple #[.slice none 0 0,.int .i64 2])/\Ext w0 w'/\∃ x r,r∈jb3 G x/\¬ has2 S G r)\/∃ v n M,e=.returned (.tuple #[v,.int .i64 0])/\jfp S G root M (frK S M).length/\SRow w0 w' v n (frK S M)
theorem jmD(w0:World)(s bm:Nat)(room:Int)(S G:List Nd5)(bg:Nat)(h:jaT w0 s bm room S)(hG:jc9 w0 bg G)(hs:Fair G)(root:vB)(hr:(atL G root.data.toList).isSome=true) :
  vQ 83 #[.pointer (some ⟨s,0,none⟩),.string root,.map (some bg)] w0 (RhP w0 S G root):=by
 have HS:=Hd h;have HG:=Hd hG;have HSH:=Hd hs;have HR:=Hd hr;have hmm:=Tryz.makeMapSI;clear h hG hs hr;go_enter Tryz.func83,Tryz.ntmps83;go_wp2_with fail
 go_step3;go_wp2_with fail
 refine vC (jnv w0 s bm room S G bg w0.heap.size HS.o HG.o _ [] (jqI w0 s S bg) root (by simp)) fun w5 hM=>?_;rw[show okM S G [] root=true by unfold okM;rw[HR.o];simp];have HM:=Hd hM;clear hM hmm
 obtain⟨b,hb⟩:=vE w0.heap.size
 rw[show w0.heap.size+1+1+1+1=w0.heap.size+4 from rfl,show w0.heap.size+1+1+1=w0.heap.size+3 from rfl,show w0.heap.size+1+1=w0.heap.size+2 from rfl];rw[<-hb]at HM ⊢;clear hb;go_wp2_with fail
 go_step3;go_wp2_with fail
 go_loopw [11,12] (fun wv iv wr=>jwJ w0 s S G bg b root wv iv wr) (fun _ iv _=>1001 - (intOf iv).toNat)
 case atStart =>
  refine⟨rfl,0,[root],rfl,⟨by simp,Nat.zero_le _,fun x hx=>by simp at hx;subst hx;exact .inr HR.o⟩,HM.o⟩
 case round =>
  obtain⟨rfl,i,M,rfl,hP,hM⟩:=hrel
  obtain⟨v,n,h1,h2,h3,h4⟩:=hM.var
  obtain⟨ad,cp,rfl⟩:=jaJ h2
  have hn:(frK S M).length=n:=by have:=h2.1;simpa using this
  have hfl:=jg9 (S:=S) (M:=M) (fun x hx=>hP.at' hx);have hfew:=HSH.o.few;have q8:=h1.cell (i:=0) (v:=.slice ad n cp) vF;have hile:=hP.le
  by_cases hlt:i < n
  ·have b1:(i:Int) < (n:Int):=by omega
   obtain⟨x,hx⟩:∃ x,(frK S M)[i]?=some x:=⟨_,List.getElem?_eq_getElem vO⟩
   obtain⟨ax,cx,hh,hcell⟩:=(jiZ h2).slice
   obtain⟨ba,oa,hao,hqa⟩:=hcell i x hx
   subst hao;cases hh
   obtain⟨y,hy⟩:=Option.isSome_iff_exists.1 (hP.at' (List.mem_of_getElem? hx))
   have hI:=HG.o.items y (ja6 hy).1;have hro:=jfk hy;have h16:=HSH.o.refs y (ja6 hy).1
   obtain⟨rv,hIb,hIr⟩:=hI.cells
   obtain⟨ar,cr,rfl⟩:=jaJ hIr
   obtain⟨R,hR⟩:=vE y.2.2.refs
   have Q5:=Hd (hM.c5.cell (i:=0) (v:=.map (some bg)) vF);have Q8:=Hd q8;have QA:=Hd hqa;have QR:=Hd ((hIb.keeps hM.ext (fun g=>g)).cell (i:=1) (v:=.slice ar y.2.2.refs.length cr) vF);have HMG:=Hd (HG.o.ext hM.ext);have HY:=Hd hy;have HPS:=Hd (fun hr=>hP.step hx hr);have HIN:=Hd hP.inG;have HPL:=Hd (hP.len HSH.o);have HRR:=Hd (jiZ hIr);have HM2:=Hd hM;rw[hro, <-hR]at HPS;rw[<-hR]at QR HRR h16;have HXR:=Hd (show R=jb3 G x by rw[hR,hro]);have hi1000:i<=1000:=by omega
   obtain⟨yb,hyb⟩:=vE y.2.1
   rw[<-hyb]at QR;have HYB:=Hd hyb;clear hro hR hyb hIr hIb hI hy hx hcell hqa h1 h2 hP hM hn hfl hile;go_wp2_with fail
   refine jai [0,1,2,3,4,5,6,7,8,9,10] Ext ExtR ExtT vY vY vY ?_;refine qKL ⟨b+1,0,none⟩ _ rfl (fun w1 h1=>jab Tryz.underlying115 rfl (jaa Q5.o ((jaj _).trans h1))) ?_;refine vS ?_;refine qKL ⟨b+2,0,none⟩ _ rfl (fun w1 h1=>jab Tryz.underlying34 rfl (jaa Q8.o ((jaj _).trans h1))) ?_;refine vS ?_;iterate 2 refine vK ?_
   refine qKL ⟨ba,oa+i,none⟩ _ rfl (fun w1 h1=>jab Tryz.underlying9 rfl (jaa QA.o ((jaj _).trans h1))) ?_;refine vS ?_;refine jcg _ (.pointer (some ⟨yb,0,none⟩)) rfl vY rfl (fun w1 h1=>by
    have hx:=(HMG.o.ext ((jaj _).trans h1)).look x false;rw[HY.o]at hx;unfold ptrO at hx;simp only[Bool.false_eq_true,if_false]at hx;rw[<-HYB.o]at hx;simp[execOp,Act.eval,hx,Sem.run_bind,Result.andThen,Sem.run_pure]) ?_
   refine vS ?_;refine jcg _ (.pointer (some ⟨yb,0,none⟩)) rfl vY rfl (fun w1 _=>by kernel_rfl) ?_;refine vS ?_
   refine vK ?_
   refine qKL ⟨yb,1,none⟩ _ rfl (fun w1 h1=>jab Tryz.underlying34 rfl (jaa QR.o ((jaj _).trans h1))) ?_;refine vS ?_;iterate 2 refine vK ?_
   refine qKE (fun w3 he=>?_);have HM3:=Hd (HM2.o.keeps ((jaj _).trans he));clear he HM2 Q5 Q8 QA QR HMG HY q8;go_wp2_with fail
   go_loopw [11,36] (fun wv jv wr2=>juL w0 s S G bg b M R wv jv wr2) (fun _ jv _=>R.length - (intOf jv).toNat)
   case atStart=>exact⟨rfl,0,rfl,Nat.zero_le _,by rw[List.take_zero,List.append_nil];exact HM3.o,fun r hr=>by cases hr⟩
   case round =>
    obtain⟨rfl,j,rfl,hj,hM',hin⟩:=hrel
    have HINR:=Hd hin;clear hin
    by_cases hlt2:j < R.length
    ·have b2:(j:Int) < (R.length:Int):=by omega
     obtain⟨z,hz⟩:∃ z,R[j]?=some z:=⟨_,List.getElem?_eq_getElem hlt2⟩
     obtain⟨ax2,cx2,hh2,hcell2⟩:=HRR.o.slice
     obtain⟨ba2,oa2,hao2,hqa2⟩:=hcell2 j z hz
     subst hao2;cases hh2;have q2:=jaa hqa2 hM'.ext;have HZR:=Hd hz;have HT:=Hd (show M++R.take (j+1)=M++R.take j++[z] by rw[List.take_add_one,hz, <-List.append_assoc];rfl);have HL:=Hd (show (M++R.take j).length<=1000000 by have:=HPL.o;rw[List.length_append,List.length_take];omega);have HMJ:=Hd hM';clear hcell2 hqa2 hM' hz;go_wp2_with fail
     refine vC (jnv w0 s bm room S G bg b HS.o HG.o _ _ HMJ.o z HL.o) fun w9 hM9=>?_;rw[<-HT.o]at hM9;have HM9:=Hd hM9
     obtain⟨ok,hok⟩:=vE (okM S G (M++R.take j) z)
     rw[<-hok];have HOK:=Hd hok;clear hM9 HMJ q2 hok;cases ok with
     | false =>
      go_wp2_with fail
      go_ret2;exact .inl ⟨rfl,HM9.o.ext,x,z,by rw[<-HXR.o];exact List.mem_of_getElem? HZR.o,jvG HOK.o.symm⟩
     | true =>
     go_wp2_with fail
     go_roundw
     case rel =>
      refine⟨rfl,j+1,by go_num,by omega,HM9.o,jnV HINR.o HZR.o (jxC HOK.o.symm fun y hy=>?_)⟩
      rcases List.mem_append.1 hy with hy | hy
      ·exact HIN.o y hy
      ·exact HINR.o y hy
     case measure=>simp[intOf];omega
    ·have hje:j=R.length:=by omega
     subst hje;rw[List.take_length]at hM';have HM9:=Hd hM';clear hM';go_wp2_with fail
     go_roundw
     case rel=>exact⟨rfl,i+1,M++R,by go_num,HPS.o (by have h:=HINR.o;rwa [List.take_length]at h),HM9.o⟩
     case measure=>simp[intOf];omega
  ·have hie:i=(frK S M).length:=by omega
   have HP:=Hd (show jfp S G root M (frK S M).length by rw[<-hie];exact hP);have HRW:=Hd (show SRow w0 wr (.slice ad n cp) n (frK S M)from⟨⟨_,_,rfl⟩,h2,hM.ext,fun z hz=>by have:=h4 z hz;have:=hM.lo;omega⟩);have b1:¬(i:Int) < (n:Int):=by omega
   clear hie hP hM h1 h2 h4 hn hfl hile;go_wp2_with fail
   go_ret2;exact .inr ⟨.slice ad n cp,n,M,rfl,HP.o,HRW.o⟩
theorem jiR{L:List vB}{G:List Nd5}(h:G.map kvI=readG L)(hL:∀ t∈L,∃ n,jbK t n)(hl:L.length<=1000):Fair G:=by
 refine⟨?_,fun y hy=>?_⟩
 ·have:=(jeY L).2.2
  rw[<-h,List.length_map]at this;exact Nat.le_trans this hl
 ·obtain⟨t,ht,_,e⟩:=jcV h hy
  rw[e]
  obtain⟨n,hn⟩:=hL t ht
  exact jhQ (jb9 hn)
theorem jih{S G:List Nd5}{root:vB}{M:List vB}{i:Nat}(h:jfp S G root M i){r:vB}(hr:r∈M):(atL (S++jcN G (frK S M)) r.data.toList).isSome=true:=by
 rw[jwW];cases hs:atL S r.data.toList with
 | some y=>rfl
 | none =>
  obtain⟨y,hy⟩:=Option.isSome_iff_exists.1 (h.at' (jfD.2 ⟨hr,hs⟩))
  have hm:y∈jcN G (frK S M):=List.mem_filterMap.2 ⟨r,jfD.2 ⟨hr,hs⟩,hy⟩;cases hp:atL (jcN G (frK S M)) r.data.toList with
  | some z=>rfl
  | none=>exact absurd (ja6 hy).2.symm (jjh.1 hp y hm)
structure AddY(w:World)(s bm:Nat)(room:Int)(S:List Nd5)(L:List vB)(top:vB)(G:List Nd5)(M:List vB)(e:Ending)(w':World):Prop where
 given:G.map kvI=readG L
 nodes:∀ t∈L,∃ n,jbK t n
 news:∀ y∈G,w.heap.size<=y.2.1
 path:jfp S G (shaB top) M (frK S M).length
 fits:¬ room - S.length < (frK S M).length
 res:e=.returned (.tuple #[.string (shaB top),.int .i64 0])
 st:jaT w' s bm room (jjm (shaB top).data.toList (jen ((frK S M).flatMap (jb3 G)) (S++jcN G (frK S M))))
 kp:jae (fun z=>z=bm\/z∈S.map (·.2.1)) w w'
 rk:RK w w'
 rows:jlU w w' G
def juc(Q:Prop)(room:Int)(S:List Nd5)(L:List vB)(k:Int):Prop:=(k=2/\Q)\/(k=2/\∃ G,G.map kvI=readG L/\∃ x r,r∈jb3 G x/\¬ has2 S G r)\/(k=3/\∃ top G M,L[0]?=some top/\G.map kvI=readG L/\jfp S G (shaB top) M (frK S M).length/\room - S.length < (frK S M).length)
def jmP(Q:Prop)(w:World)(s bm:Nat)(room:Int)(S:List Nd5)(L:List vB)(e:Ending)(w':World):Prop:=(∃ k:Int,juc Q room S L k/\k≠0/\e=.returned (.tuple #[.string ⟨#[]⟩,.int .i64 k])/\Ext w w')\/∃ top G M,L[0]?=some top/\AddY w s bm room S L top G M e w'
theorem jlW(w:World)(hc:jb2 w)(hGE:ErrT w)(s bm:Nat)(room:Int)(S:List Nd5)(h:jaT w s bm room S)(v:Value)(L:List vB)(hv:RdS w v L)(Q:Prop)(hL:AnyQ Q L)(hll:L.length<=1000)(top:vB)(htop:L[0]?=some top)(hr0:0<=room)(hr1:room<=9223372036854775807)(hS:S.length<=100000)(hSu:∀ x∈S,0<=x.2.2.used/\x.2.2.used<=1000000000)(hSh:∀ x∈S,0<=x.2.2.held/\x.2.2.held<=1000000000) :
  vQ 27 #[.pointer (some ⟨s,0,none⟩),v] w (jmP Q w s bm room S L):=by
 have h0:L≠[]:=fun e=>by subst e;cases htop
 have hpos:0 < L.length:=List.length_pos_iff.2 h0
 obtain⟨a,c,rfl,_⟩:=hv.slice
 have HR:=Hd (jrP w hc hGE _ L hv hll h0 Q hL);have HC:=Hd hc;have HV:=Hd hv;have HL:=Hd hL;have HS:=Hd h;have HTOP:=Hd htop;have HSU:=Hd hSu;have HSHD:=Hd hSh;clear hc h hv hL htop h0 hSu hSh;go_enter Tryz.func27,Tryz.ntmps27;go_wp2_with fail
 refine HR.o.mono ?_;rintro e w1 (⟨rfl,hE,hq⟩ |⟨hnode,bg,G,rfl,hG,hrn⟩)
 ·have HE:=Hd hE
  have HQ:=Hd hq;clear hE HR hq;go_wp2_with fail
  go_ret2;exact .inl ⟨2,.inl ⟨rfl,HQ.o⟩,by decide,rfl,HE.o⟩
 have HND0:=Hd hnode;have HRN:=Hd hrn;have HGI:Hid (∀ x∈G,x.2.1 < w1.heap.size):=fun x hx=>(hG.at'.items x hx).lt;have HG1:=Hd hG.ext;clear hnode hrn
 obtain⟨ax,cx,hh,hcell⟩:=HV.o.slice
 obtain⟨ba,oa,hao,hqa⟩:=hcell 0 top HTOP.o
 subst hao;cases hh;have q1:=jaa hqa hG.ext;have HG:=Hd hG;rw[Nat.add_zero]at q1;clear hcell hqa hG HR;go_wp2_with fail
 refine vC (of_t _ _ [top] (by simp) (jdb w1 [top] 9) (HC.o.ext (HG.o.ext.alloc _))) fun w2 hE=>?_;rw[jdE];have hx2:=((ExtR w1).alloc (.cells #[.string top] 9)).trans hE;have HG2:=Hd (HG.o.keeps hx2);have HX2:=Hd hx2
 obtain⟨rt,hrt⟩:=vE (shaB top)
 have HRT:=Hd hrt;have HTG:=Hd (show (atL G rt.data.toList).isSome=true by rw[hrt];exact jkU HG.o.is (List.mem_of_getElem? HTOP.o));rw[<-hrt];clear hE hx2 hrt q1;go_wp2_with fail
 have HSH:=Hd (jiR HG2.o.is HND0.o hll);have HS2:=Hd (HS.o.ext HG2.o.ext);refine (jmD w2 s bm room S G bg HS2.o HG2.o.at' HSH.o rt HTG.o).mono ?_;rintro e w3 (⟨rfl,hE,hno⟩ |⟨v3,n,M,rfl,hP,hF⟩)
 ·have HE:=Hd (HG2.o.ext.trans hE)
  have HNO:=Hd hno;clear hE hno;go_wp2_with fail
  go_ret2;exact .inl ⟨2,.inr (.inl ⟨rfl,G,HG2.o.is,HNO.o⟩),by decide,rfl,HE.o⟩
 have hlen:=jg9 (S:=S) (M:=M) (fun x hx=>hP.at' hx);have hfew:=HSH.o.few;have hn:(frK S M).length=n:=by have:=hF.len;simpa using this
 obtain⟨ad,cp,rfl⟩:=hF.sl
 have HP:=Hd hP;have HF:=Hd hF
 obtain⟨F,hFe⟩:=vE (frK S M)
 rw[<-hFe]at HF hn hlen;have HFE:=Hd hFe;have HGX:=Hd (HG2.o.keeps hF.ext);have HSX:=Hd (HS2.o.ext hF.ext);clear hP hF hFe;go_wp2_with fail
 refine vC (jv7 w3 s bm room S HSX.o hr0 hr1 vO) fun w4 hE=>?_
 obtain⟨m,hm⟩:=vE (room - (S.length:Int))
 rw[<-hm];have HM:=Hd hm;have HE4:=Hd hE;clear hE hm
 by_cases hfull:m < (n:Int)
 ·go_wp2_with fail
  go_ret2;exact .inl ⟨3,.inr (.inr ⟨rfl,top,G,M,HTOP.o,HG2.o.is,by rw[<-HRT.o];exact HP.o,by rw[<-HFE.o,hn, <-HM.o];exact hfull⟩),by decide,rfl,(HG2.o.ext.trans HF.o.ext).trans HE4.o⟩
 ·have HRK4:=Hd (show RK w1 w4 from(((RK.refl w1).ext HX2.o).ext HF.o.ext).ext HE4.o)
  have hA0:Ad1 w4 s bm bg room S G F (.slice ad n cp) 0 w4:=⟨jae.refl _ _,by rw[List.take_zero];show jaT w4 s bm room (S++[]);rw[List.append_nil];exact HSX.o.ext HE4.o,HGX.o.at'.ext HE4.o,by rw[hn];exact jbe HF.o.own HE4.o⟩;have HA0:=Hd hA0;have hbm:=HS.o.mp.mp
  obtain⟨_,_,hbm,_⟩:=hbm
  have hbmlt:=hbm.lt;have HNE:Hid (∀ z,(Value.slice ad n cp).ownBlock=some z->z≠bm):=(fun z hz e=>by have:=HF.o.new z hz;have:=HG2.o.ext.size;omega);have HBG:Hid (bg≠bm):=(fun e=>by have:=HG2.o.new;omega);have HSG:Hid (∀ x∈S,∀ y∈G,x.2.1≠y.2.1):=(fun x hx y hy e=>by have:=(HS.o.mp.items x hx).lt;have:=HG2.o.news y hy;omega);have HND:=Hd (show F.Nodup by rw[HFE.o];exact jkQ S M);have HFS:Hid (∀ x∈F,atL S x.data.toList=none):=(fun x hx=>by rw[HFE.o]at hx;exact (jfD.1 hx).2);have HFG:Hid (∀ x∈F,(atL G x.data.toList).isSome=true):=(fun x hx=>by rw[HFE.o]at hx;exact HP.o.at' hx);have HST:=Hd (HS.o.st);subst hn;clear hA0 hbm;go_wp2_with fail
  rw[show decide (m < (F.length:Int))=false from decide_eq_false (Int.not_lt.2 hfull)];go_loopw [46] (fun iv wr=>AdR1 w4 s bm bg room S G F (.slice ad F.length cp) iv wr/\RK w1 wr) (fun iv _=>F.length - (intOf iv).toNat)
  case atStart=>exact⟨⟨0,Nat.zero_le _,rfl,HA0.o⟩,HRK4.o⟩
  case round =>
   obtain⟨⟨i,hi,rfl,hA⟩,hrk⟩:=hrel
   have HRK:=Hd hrk;clear hrk;have HA:=Hd hA
   by_cases hlt:i < F.length
   ·have b1:(i:Int) < (F.length:Int):=by omega
    obtain⟨x,hx⟩:∃ x,F[i]?=some x:=⟨_,List.getElem?_eq_getElem hlt⟩
    obtain⟨ax,cx,hh,hcell⟩:=(jiZ hA.row).slice
    obtain⟨ba2,oa2,hao,hqa⟩:=hcell i x hx
    subst hao;cases hh
    obtain⟨y,hy⟩:=Option.isSome_iff_exists.1 (HFG.o x (List.mem_of_getElem? hx))
    have Q1:=Hd (hA.st.st.cell (i:=1) (v:=.map (some bm)) vF);have HGV:=Hd hA.gv;have HX:=Hd hx;have HY:=Hd hy
    obtain⟨yb,hyb⟩:=vE y.2.1
    have HYB:=Hd hyb;clear hcell hx hy hA hyb;go_wp2_with fail
    refine jau [0,1,2,3,4,5,6,7,8] [8] Ext ExtR ExtT vY vY vY ?_
    refine vP ?_
    refine qA _ (.pointer (some ⟨s,0,none⟩)) rfl (fun w1=>by kernel_rfl) ?_;refine vS ?_
    refine vP ?_
    refine qL ⟨s,1,none⟩ _ rfl (fun w1 h1=>jab Tryz.underlying115 rfl (jaa Q1.o ((jaj _).trans h1))) ?_;refine vS ?_;iterate 3 refine vP ?_
    refine jqJ _ (.pointer (some ⟨yb,0,none⟩)) rfl vY rfl (fun w1 h1=>by
     have hx:=(HGV.o.ext ((jaj _).trans h1)).look x false;rw[HY.o]at hx;unfold ptrO at hx;simp only[Bool.false_eq_true,if_false]at hx;rw[<-HYB.o]at hx;simp[execOp,Act.eval,hx,Sem.run_bind,Result.andThen,Sem.run_pure]) ?_
    refine vS ?_;refine qH _ rfl (fun w5 he K hK=>?_);have hA5:=HA.o.ext ((jaj _).trans he)
    obtain⟨ob,hmu,hA6⟩:=hA5.put HSG.o HBG.o HNE.o HND.o HFS.o HX.o HY.o
    rw[<-HYB.o]at hmu;have HA6:=Hd hA6
    obtain⟨oes,ock,hobm,_⟩:=hA6.st.mp.mp
    have HRK6:=Hd ((HRK.o.ext ((jaj _).trans he)).put (jae.onePut _ bm ob) hobm);clear hobm;clear hA5 hA6 he HA Q1 HGV hqa;go_simp;refine hK _ _ ?_;clear hK K;refine qE (fun w7 he=>?_);have HA7:=Hd (HA6.o.ext he);have HRK7:=Hd (HRK6.o.ext he);clear he HA6 hmu;go_wp2_with fail
    go_roundw
    case rel=>exact⟨⟨i+1,by omega,by go_num,HA7.o⟩,HRK7.o⟩
    case measure=>simp[intOf];omega
   ·have hie:i=F.length:=by omega
    subst hie
    obtain⟨S1,hS1⟩:=vE (S++jcN G F)
    have HS1:=Hd hS1;have HB0:=Hd (show Ad2 wr s bm bg room S1 G F (.slice ad F.length cp) [] wr from⟨jae.refl _ _,by have:=hA.st;rw[List.take_length]at this;rw[hS1];exact this,⟨G,hA.gv,fun k=>rfl⟩,hA.row⟩);have HU:=Hd (show ∀ x∈S1,0<=x.2.2.used/\x.2.2.used<=1000000000 from fun x hx=>by
     rw[hS1]at hx;rcases List.mem_append.1 hx with hx | hx
     ·exact HSU.o x hx
     ·obtain⟨t,ht,_,e⟩:=jcV HG2.o.is (jbW hx).1
      rw[e];exact⟨Int.le_refl _,by show (0:Int)<=1000000000;decide⟩)
    have HR1:=Hd (show ∀ r∈F.flatMap (jb3 G),(atL S1 r.data.toList).isSome=true from fun r hr=>by
     rw[hS1,HFE.o];refine jih HP.o ?_
     have:=HP.o.is
     rw[List.take_length, <-HFE.o]at this;rw[this];exact List.mem_cons_of_mem _ hr)
    obtain⟨w5,hw5⟩:=vE wr
    have HW5:=Hd hw5;have HRK5:=Hd (show RK w1 w5 by rw[hw5];exact HRK.o);rw[<-hw5]at HB0;have HB0:=Hd (show Ad2 w5 s bm bg room S1 G F (.slice ad F.length cp) [] wr by rw[<-hw5];exact HB0.o);have HA1:=Hd (show jae (fun z=>z=bm) w4 w5 by rw[hw5];exact hA.kp);clear HA0 hA HA hS1 hw5;go_wp2_with fail
    go_loopw [61] (fun iv wr=>AdR2 w5 s bm bg room S1 G F (.slice ad F.length cp) iv wr/\RK w1 wr) (fun iv _=>F.length - (intOf iv).toNat)
    case atStart=>exact⟨⟨0,Nat.zero_le _,rfl,HB0.o⟩,by rw[<-HW5.o];exact HRK5.o⟩
    case round =>
     obtain⟨⟨i,hi2,rfl,hA⟩,hrk2⟩:=hrel
     have HRKB:=Hd hrk2;clear hrk2
     by_cases hlt2:i < F.length
     ·have b1:(i:Int) < (F.length:Int):=by omega
      obtain⟨x,hx⟩:∃ x,F[i]?=some x:=⟨_,List.getElem?_eq_getElem hlt2⟩
      obtain⟨ax,cx,hh,hcell⟩:=(jiZ hA.row).slice
      obtain⟨ba2,oa2,hao,hqa⟩:=hcell i x hx
      subst hao;cases hh
      obtain⟨y,hy⟩:=Option.isSome_iff_exists.1 (HFG.o x (List.mem_of_getElem? hx))
      obtain⟨G',hG1,hG2⟩:=hA.gv
      have hk:=hG2 x.data.toList;rw[hy]at hk
      obtain⟨y',hy',hk⟩:=Option.map_eq_some_iff.1 hk
      have hlk:=hG1.look x false;rw[hy']at hlk;unfold ptrO at hlk;simp only[Bool.false_eq_true,if_false]at hlk
      obtain⟨rv,hIb,hIr⟩:=(hG1.items y' (ja6 hy').1).cells
      have hyr:y'.2.2.refs=jb3 G x:=by rw[jfk hy];exact congrArg (fun z=>z.2.2) hk
      obtain⟨R,hR⟩:=vE (jb3 G x)
      rw[hyr, <-hR]at hIr
      obtain⟨ar,cr,rfl⟩:=jaJ hIr
      have qr:=hIb.cell (i:=1) (v:=.slice ar R.length cr) vF
      obtain⟨T,hT⟩:=vE ((F.take i).flatMap (jb3 G))
      have HT1:=Hd (show (F.take (i+1)).flatMap (jb3 G)=T++R by rw[List.take_add_one,hx,List.flatMap_append,hT,hR];simp);have HTL:=Hd (show T.length<=16000 by
       have:=jgz HSH.o (F.take i)
       rw[hT];rw[List.length_take]at this;omega)
      have HRL:=Hd (show R.length<=16 by rw[hR,jfk hy];exact HSH.o.refs y (ja6 hy).1);have HRR:Hid (∀ r∈R,(atL S1 r.data.toList).isSome=true):=(fun r hr=>HR1.o r (List.mem_flatMap.2 ⟨x,List.mem_of_getElem? hx,by rw[<-hR];exact hr⟩));rw[<-hT]at hA;have HA3:=Hd (show AdR3 w5 s bm bg room S1 G F (.slice (some ⟨ba2,oa2,none⟩) F.length cp) T R (.slice ar R.length cr) (.int .i64 0) wr from⟨0,Nat.zero_le _,rfl,by rw[List.take_zero,List.append_nil];exact hA,hIr⟩)
      obtain⟨yb,hyb⟩:=vE y'.2.1
      rw[<-hyb]at hlk qr;clear hcell hx hy hG1 hG2 hk hy' hIb hIr hyr hR hT hA hyb;go_wp2_with fail
      go_loopw [72] (fun jv wr2=>AdR3 w5 s bm bg room S1 G F (.slice (some ⟨ba2,oa2,none⟩) F.length cp) T R (.slice ar R.length cr) jv wr2/\RK w1 wr2) (fun jv _=>R.length - (intOf jv).toNat)
      case atStart=>exact⟨HA3.o,HRKB.o⟩
      case round =>
       obtain⟨⟨j,hj,rfl,hB,hrw⟩,hrk3⟩:=hrel
       have HRKC:=Hd hrk3;clear hrk3
       by_cases hlt3:j < R.length
       ·have b2:(j:Int) < (R.length:Int):=by omega
        obtain⟨z,hz⟩:∃ z,R[j]?=some z:=⟨_,List.getElem?_eq_getElem hlt3⟩
        obtain⟨ax3,cx3,hh3,hcell3⟩:=(jiZ hrw).slice
        obtain⟨ba3,oa3,hao3,hqa3⟩:=hcell3 j z hz
        subst hao3;cases hh3;have qs:=hB.st.st.cell (i:=1) (v:=.map (some bm)) vF
        obtain⟨zb,u,hlk3,qu,fu,hu0,hu1,hB2,hrow2⟩:=hB.bump HU.o (by have:=HTL.o;have:=HRL.o;rw[List.length_append,List.length_take];omega) z (HRR.o z (List.mem_of_getElem? hz))
        have hrl:=HRL.o;have hw1 : -9223372036854775808<=u+1:=by omega
        have hw2:u+1<=9223372036854775807:=by omega
        have HB2:=Hd (And.intro (show Ad2 w5 s bm bg room S1 G F (.slice (some ⟨ba2,oa2,none⟩) F.length cp) (T++R.take (j+1)) _ by rw[List.take_add_one,hz, <-List.append_assoc];exact hB2) (hrow2 _ _ _ hrw));clear hcell3 hz hB hrw hB2 hrow2 hlk qr;go_wp2_with fail
        go_roundw
        case rel=>exact⟨⟨j+1,by omega,by go_num,HB2.o.1,HB2.o.2⟩,HRKC.o.set zb (.inl rfl) _⟩
        case measure=>simp[intOf];omega
       ·have hje:j=R.length:=by omega
        subst hje;rw[List.take_length, <-HT1.o]at hB;have HB4:=Hd hB;clear hB hrw HA3 hlk qr;go_wp2_with fail
        go_roundw
        case rel=>exact⟨⟨i+1,by omega,by go_num,HB4.o⟩,HRKC.o⟩
        case measure=>simp[intOf];omega
     ·have hie2:i=F.length:=by omega
      subst hie2;rw[List.take_length]at hA;have HB5:=Hd hA;have hroot:(atL S1 rt.data.toList).isSome=true:=by
       rw[HS1.o,HFE.o];exact jih HP.o (by rw[HP.o.is];exact List.mem_cons_self)
      have HHD:=Hd (show ∀ x∈S1,0<=x.2.2.held/\x.2.2.held<=1000000000 from fun x hx=>by
       rw[HS1.o]at hx;rcases List.mem_append.1 hx with hx | hx
       ·exact HSHD.o x hx
       ·obtain⟨t,ht,_,e⟩:=jcV HG2.o.is (jbW hx).1
        rw[e];exact⟨Int.le_refl _,by show (0:Int)<=1000000000;decide⟩)
      have qs:=hA.st.st.cell (i:=1) (v:=.map (some bm)) vF
      obtain⟨zb,u,hlk3,qu,fu,hu0,hu1,hSE,hKE⟩:=hA.hold HHD.o rt hroot
      have hw1 : -9223372036854775808<=u+1:=by omega
      have hw2:u+1<=9223372036854775807:=by omega
      have HSE:=Hd hSE;have HKE:=Hd (((HG2.o.ext.trans HF.o.ext).trans HE4.o).mono (G:=fun z=>z=bm\/z∈S.map (·.2.1)) (fun _ _ g=>g.elim));have HK5:=Hd hKE;have HKA:=Hd HA1.o;clear hA HB0 HA1 hSE hKE hroot;go_wp2_with fail
      go_ret2;refine .inr ⟨top,G,M,HTOP.o,HG2.o.is,HND0.o,HG2.o.news,by rw[<-HRT.o];exact HP.o,by rw[<-HFE.o, <-HM.o];exact Int.not_lt.2 hfull,by rw[HRT.o];rfl,?_,?_,((RK.refl w).ext HG1.o).trans (HRKB.o.set zb (.inr rfl) _),HRN.o.rk (HRKB.o.set zb (.inr rfl) _) HGI.o⟩
      ·rw[<-HFE.o, <-HS1.o, <-HRT.o];exact HSE.o
      ·refine (jae.trans' (F:=fun z=>z=bm\/z∈S.map (·.2.1)) HKE.o HKA.o (fun z hz e=>.inl e)).trans' HK5.o (fun z hz e=>?_)
       rw[HS1.o,List.map_append]at e;rcases List.mem_append.1 e with e | e
       ·exact .inr e
       ·obtain⟨y,hy,rfl⟩:=List.mem_map.1 e
        have:=HG2.o.news y (jbW hy).1
        omega
def ComP(w:World)(s bm:Nat)(room:Int)(S:List Nd5)(l:List Pair)(cs:List Chg)(e:Ending)(w':World):Prop:=
 (jbs l cs≠0/\e=.returned (.tuple #[.string ⟨#[]⟩,.int .i64 (jbs l cs)])/\Ext w w')\/(jbs l cs=0/\∃ w1,Ext w w1/\jmP False w1 s bm room S (newM S (jbQ l cs)) e w')
theorem ComP.bad{w w':World}{s bm:Nat}{room:Int}{S:List Nd5}{l:List Pair}{cs:List Chg}{x:Int}(h:jbs l cs=x)(h0:x≠0)(hE:Ext w w'):ComP w s bm room S l cs (.returned (.tuple #[.string ⟨#[]⟩,.int .i64 x])) w':=by
 subst h;exact .inl ⟨h0,rfl,hE⟩
theorem ComP.go{w w1 w':World}{s bm:Nat}{room:Int}{S:List Nd5}{l:List Pair}{cs:List Chg}{L:List vB}{e:Ending}(h:jbs l cs=0)(hL:L=newM S (jbQ l cs))(hE:Ext w w1)(hA:jmP False w1 s bm room S L e w'):ComP w s bm room S l cs e w':=by
 subst hL;exact .inr ⟨h,w1,hE,hA⟩
theorem jqT{S:List Nd5}{m:List Pair}(h:jaG m=0):(newM S m).length<=119:=by
 unfold newM;rw[List.length_cons];have h1:=jkR S (belowM m);have h2:=jkx h;omega
theorem jqU{S:List Nd5}{m:List Pair}(h:jaG m=0){t:vB}(ht:t∈newM S m):t∈jaF (jaL m):=by
 unfold newM at ht;have e:jaF (jaL m)=(jaL m).text :: belowM m:=by rw[jg4 h];show jaF (.mk _ _)=_;rw[jaF];rfl
 rw[e];rcases List.mem_cons.1 ht with rfl | ht
 ·exact List.mem_cons_self
 ·unfold freshU at ht
  exact List.mem_cons_of_mem _ ((ja9 _ _).1 (List.mem_filter.1 ht).1)
theorem jqV{S:List Nd5}{m:List Pair}(h:jaG m=0):∀ t∈newM S m,∃ n,jbK t n:=fun t ht=>by
 obtain⟨n,hn,_⟩:=(jkb h).node t ((ja9 _ _).2 (jqU h ht))
 exact⟨n,hn⟩
theorem jm2(w:World)(hc:jb2 w)(he:ErrT w)(s bm:Nat)(room:Int)(S:List Nd5)(hs:jaT w s bm room S)(hN:jeK S)(l:List Pair)(h:HasM S l)(u:Value)(cs:List Chg)(hu:RdC w u cs)(hnc:cs.length<=9223372036854775807)(hsc:∀ c∈cs,c.key.size<=9223372036854775807/\c.value.size<=9223372036854775807)(hr0:0<=room)(hr1:room<=9223372036854775807)(hS:S.length<=100000)(hSu:∀ x∈S,0<=x.2.2.used/\x.2.2.used<=1000000000)(hSh:∀ x∈S,0<=x.2.2.held/\x.2.2.held<=1000000000) :
  vQ 35 #[.pointer (some ⟨s,0,none⟩),.string (rootM l),u] w (ComP w s bm room S l cs):=by
 have HU:=Hd (jya w hc he s bm room S hs hN l h u cs hu hnc hsc);have HCC:=Hd (And.intro hc he);have HST:=Hd hs;have HB:=Hd (And.intro hS (And.intro hSu hSh));have HR:=Hd (And.intro hr0 hr1)
 obtain⟨a,c,hus⟩:=hu.sl
 subst hus
 obtain⟨rt,hrt⟩:=vE (rootM l)
 rw[<-hrt]at HU ⊢;clear hrt hs hN h hc he hu hnc hsc hS hSu hSh hr0 hr1;go_enter Tryz.func35,Tryz.ntmps35;go_wp2_with fail
 refine HU.o.mono ?_;rintro e w1 hU;unfold UpdP at hU
 by_cases h0:jbs l cs=0
 case neg =>
  rw[if_neg h0]at hU
  obtain⟨rfl,hE⟩:=hU
  have HX:=Hd hE
  obtain⟨x0,hx0⟩:=vE (jbs l cs)
  have HX0:=Hd hx0.symm;rw[<-hx0]at h0 ⊢;have H0:=Hd h0;have hne:(x0 != 0)=true:=by simpa using h0
  have hnb:(x0 == 0)=false:=by simpa using h0
  clear hE hx0 h0;go_wp2_with fail
  go_ret2;exact ComP.bad HX0.o H0.o HX.o
 rw[if_pos h0]at hU
 obtain⟨r,rfl,hR⟩:=hU
 have H0:=Hd h0;have hcm:=jft h0;have hcm:jaG (jbQ l cs)=0:=hcm;have hL1:=jqT (S:=S) hcm;have HRD:=Hd hR.rd;have HX:=Hd hR.ext;have HAN:=Hd (jgn (jqV (S:=S) hcm));have HTOP:Hid ((newM S (jbQ l cs))[0]?=some (jaL (jbQ l cs)).text):=rfl
 obtain⟨L,hL⟩:=vE (newM S (jbQ l cs))
 rw[<-hL]at HRD HAN HTOP hL1 hR;have HLL:=Hd hL;have HL1:=Hd hL1
 obtain⟨a3,c3,e3⟩:=hR.sl
 subst e3
 obtain⟨top,htop⟩:=vE (jaL (jbQ l cs)).text
 rw[<-htop]at HTOP;clear hR hL h0 hcm hL1 htop;go_wp2_with fail
 refine (jlW w1 (HCC.o.1.ext HX.o) (HCC.o.2.ext HX.o) s bm room S (HST.o.ext HX.o) _ L HRD.o False HAN.o (by have:=HL1.o;omega) top HTOP.o HR.o.1 HR.o.2 HB.o.1 HB.o.2.1 HB.o.2.2).mono ?_;intro e w2 hA;have HA:=Hd hA;rcases hA with⟨k,_,_,rfl,_⟩ |⟨_,_,_,_,hY⟩
 ·go_wp2_with fail
  go_ret2;exact ComP.go H0.o HLL.o HX.o HA.o
 ·have hre:=hY.res
  subst hre;clear hY;go_wp2_with fail
  go_ret2;exact ComP.go H0.o HLL.o HX.o HA.o
end
theorem jv5(w:World)(s bm:Nat)(room:Int)(L:List Nd5)(k:vB)(h:jaT w s bm room L):vR 68 #[.pointer (some ⟨s,0,none⟩),.string k] w (.int .i64 (jmo (atL L k.data.toList))):=by
 have q1:=h.st.cell (i:=1) (v:=.map (some bm)) vF;have hlk:=h.mp.look k true;have HI:=Hd h.mp.items;simp only[if_true]at hlk;clear h;cases ha:atL L k.data.toList with
 | none =>
  rw[ha]at hlk;unfold ptrO at hlk;simp only[Option.isSome]at hlk;clear ha;go_enter Tryz.func68,Tryz.ntmps68;go_wp2_with fail
  go_ret
  exact⟨rfl,ExtR w⟩
 | some x =>
  rw[ha]at hlk
  obtain⟨rv,hB,_⟩:=(HI.o x (ja6 ha).1).cells
  have q2:=hB.cell (i:=3) (v:=.int .i64 x.2.2.held) vF;unfold ptrO at hlk;simp only[Option.isSome]at hlk;clear ha hB;go_enter Tryz.func68,Tryz.ntmps68;go_wp2_with fail
  go_ret
  exact⟨rfl,ExtR w⟩
section
attribute [local go_sem] Oper.semAt_some
end
end Go.Proofs.YtcpnjmcipainpaaGreatDoor
