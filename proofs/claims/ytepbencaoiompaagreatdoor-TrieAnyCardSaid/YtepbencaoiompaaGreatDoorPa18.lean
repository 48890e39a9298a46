/- Lemmas; each is under no condition but those that it states. -/
import Derived.Test.YtepbencaoiompaaGreatDoorPa17
namespace Go.Proofs.YtepbencaoiompaaGreatDoor
set_option linter.unusedSimpArgs false
set_option linter.unusedVariables false
set_option maxRecDepth 100000
set_option maxHeartbeats 16000000
open Go Go.RowKit
section
attribute [local go_sem] Oper.semAt_some
def keyB(x:EntS):vB:=⟨x.1.toArray⟩
theorem jp3(x:EntS):str x.1=.string (keyB x):=rfl
def InvS(es s:List EntS):Prop:=(s.map (·.2.2)).Nodup/\∀ x∈s,x∈es
theorem InvS.step{es s s':List EntS}{v:Array vV}(h:InvS es s)(k:jzJ es s v s'):InvS es s':=by
 obtain⟨x,A,_,rfl⟩:=k
 obtain⟨E,q⟩:=cN.1 A
 have q:x.2.2 ∉ s.map (·.2.2):=by simpa [jga]using q
 refine⟨?_,fun z o=>?_⟩
 ·rw[bZ,fF]
  exact⟨h.1,by simp,fun a H b hb e=>by simp at hb;subst hb;subst e;exact q H⟩
 ·rcases bT.1 o with o | o
  ·exact h.2 z o
  ·simp at o;exact o ▸ E
theorem InvS.len{es s:List EntS}(h:InvS es s):s.length<=es.length:=by
 have:=iC h.1 (l₂:=es.map (·.2.2)) (fun k o=>by
  obtain⟨z,q,e⟩:=bI.1 o;exact bI.2 ⟨z,h.2 z q,e⟩)
 simpa using this
theorem InvS.perm{es s:List EntS}(h:InvS es s)(hd:jqv es s)(hst:(es.map (·.2.2)).Nodup)(hkn:(es.map (·.1)).Nodup):(s.map (·.1)).Perm (es.map (·.1)):=by
 have o:∀ x∈es,x∈s:=by
  intro x A
  by_cases hc:x.2.2∈s.map (·.2.2)
  ·obtain⟨z,q,e⟩:=bI.1 hc
   have:=jbJ hst (h.2 z q) A e
   exact this ▸ q
  ·have:x∈jaX es (jga s):=by
    refine cN.2 ⟨A,?_⟩;simpa [jga]using hc
   rw[hd]at this;cases this
 have E:(s.map (·.1)).Nodup:=by
  have H:=h.1;have J:=h.2;clear h hd o;induction s with
  | nil=>simp
  | cons z r ih =>
   rw[bV,fA]at H ⊢
   refine⟨fun Q=>?_,ih H.2 (fun x A=>J x (bC _ A))⟩
   obtain⟨y,O,e⟩:=bI.1 Q
   have:=jbJ hkn (J y (bC _ O)) (J z (bD ..)) e
   exact H.1 (bI.2 ⟨y,O,by rw[this]⟩)
 refine jiY E hkn fun k=>?_;constructor
 ·intro K;obtain⟨z,q,e⟩:=bI.1 K;exact bI.2 ⟨z,h.2 z q,e⟩
 ·intro K;obtain⟨z,q,e⟩:=bI.1 K;exact bI.2 ⟨z,o z q,e⟩
structure AppS(w:World)(es s:List EntS)(W:World):Prop where
 ext:Ext w W
 inv:InvS es s
 var:∃ v,Blk W w.heap.size (.cells #[v] 22)/\W.ownsRow 0 9 1 v s.length ((s.map keyB).map Value.string)/\∀ b,v.ownBlock=some b->w.heap.size+4<=b
theorem AppS.st{w:vW}{es s:List EntS}{W W':vW}(h:AppS w es s W)(k:jag (fun b=>b=w.heap.size+1\/b=w.heap.size+1+1\/b=w.heap.size+1+2) W W'):AppS w es s W':=by
 obtain⟨v,q,z,o⟩:=h.var
 exact⟨h.ext.trans' k (fun x A e=>by omega),h.inv,v,q.keeps k vO,jaY z k (fun b hb e=>by have:=o b hb;omega),o⟩
theorem ju0(w:vW)(bx bm ck:Nat)(es:List EntS)(hk:KyS bx bm ck es w)(hnd:(es.map (·.2.2)).Nodup)(z:∀ x∈es,x.2.2 < ck)(hlen:es.length<=1000000) :
  vQ 121 #[.slice none 0 0,.func (.func 84) #[] #[.pointer (some ⟨bx,0,none⟩)]] w fun e w'=>∃ u s,e=.returned u/\InvS es s/\jqv es s/\SRow w w' u s.length (s.map keyB):=by
 have a5:=Hd (jyx bx bm ck es hnd z);have HK:=Hd hk;clear hk hnd z;refine (callsIn_wide (n:=0)).1 ?_;refine callsIn_of_wp_marks Tryz.func121 rfl trivial ?_ rfl;simp only[Tryz.ntmps121,cT,bO,dG,Nat.reduceAdd,Nat.reduceSub,cY,cX,dI,dC,cM,cQ];gi_wp2_with fail
 obtain⟨w1,E⟩:=vE (w.alloc (.cells #[.slice none 0 0] 22))
 rw[<-E];have A:w1.heap.size=w.heap.size+1:=by rw[E];simp
 have S0:AppS w es [] w1:=by
  rw[E]
  exact⟨(ExtR w).alloc _,⟨by simp,fun x hx=>by cases hx⟩,_,Blk.new w _,fL _ _ _ _,fun b hb=>by cases hb⟩
 have Q:=Hd S0;clear S0 E;refine juB (gf:=84) (lb:=#[.pointer (some ⟨bx,0,none⟩)]) rfl (vX 84) a5.o
  (fun s v s' h=>by obtain⟨x,_,rfl,_⟩:=h;rfl) (AppS w es) (fun s W W' h k=>h.st (by rw[A]at k;exact k)) (fun s W h=>⟨HK.o.1.keeps h.ext (fun h=>h),HK.o.2.keeps h.ext (fun h=>h)⟩) Q.o
  (fun v=>{ tmps:=#[.slice none 0 0,.func (.func 84) #[] #[.pointer (some ⟨bx,0,none⟩)],.pointer (some ⟨w.heap.size,0,none⟩),undef,.slice none 0 0,v.getD 0 undef,.func (.func 84) #[] #[.pointer (some ⟨bx,0,none⟩)],v.getD 0 undef,undef,undef,undef,undef,undef],defers:=[] })
  ?hassign ?hbody ?hdone
 case hassign =>
  intro l2 v s s' W K H hK
  obtain⟨x,_,rfl,_⟩:=H
  rw[jp3]at hK ⊢;rw[jAq];simp only[dJ,dB];gi_wp2;exact hK
 case hbody =>
  intro l2 v s s' W H h z;have hinv:=h.inv.step H
  obtain⟨x,hx,rfl,rfl⟩:=H
  obtain⟨v,J,O,h3⟩:=h.var
  obtain⟨X,Z,rfl⟩:=jaL O
  rw[jp3]
  obtain⟨q,hq⟩:=vE (keyB x)
  rw[<-hq];have a6:s.length<=1000000:=bH h.inv.len hlen;have hV:=J.cell (i:=0) (v:=.slice X s.length Z) vF;have b2:W.frozen? ⟨w.heap.size,0,none⟩=false:=J.frozen
  obtain⟨n,hn⟩:=vE s.length
  rw[<-hn]at O a6 hV J h3;have z:w.heap.size+3 < W.heap.size:=by rw[A]at z;omega
  have HN:=Hd hn;have HQ:=Hd hq;have HV:=Hd J;have HO:=Hd O;have H3:=Hd h3;have HE:=Hd h.ext;have HI:=Hd hinv;rw[show (#[Value.string q]:Array vV).getD 0 undef=.string q from rfl];clear h J O h3 hinv hx hn hq Q
  obtain⟨i0,hi,a7,a8,a9⟩:=info_parts Tryz.infoStr
  gi_wp2_with (gi_at_builtin;refine jbU _ rfl (.tmp 8) (.tmp 10) 22 rfl 9 i0 _ 1 16 Tryz.uStrs hi a7 a8 a9 rfl vI (.slice X n Z) n _ rfl (jbm HO.o ((ExtR W).alloc _)) ⟨W.heap.size,0,none⟩ 1 1 [.string q] rfl rfl (ja3 (Blk.new W _)) (by simp[Value.oneCell']) (by unfold maxLen;omega) vO ?_;intro v' w6 r1 r2 r3;obtain⟨a0,a1,rfl⟩:=jaL r1;have a2:=(HV.o.alloc _).keeps r2 (fun e=>by have:=H3.o _ e;omega);have b3:w6.cell? ⟨w.heap.size,0,none⟩=some (.slice X n Z):=a2.cell (i:=0) vF;have b4:w6.frozen? ⟨w.heap.size,0,none⟩=false:=a2.frozen)
  have b0:w6.ownsRow 0 9 1 (.slice a0 (n+1) a1) (s++[x]).length (((s++[x]).map keyB).map Value.string):=by
   rw[bF, <-HN.o,bZ,bZ]
   have:=r1;rw[HQ.o]at this;exact this
  have K6:jag (fun b=>(Value.slice X n Z).ownBlock=some b) W w6:=((jag.refl _ W).alloc _).trans r2;have a3:∀ b,(Value.slice a0 (n+1) a1).ownBlock=some b->w.heap.size+4<=b:=fun b hb=>by
   rcases r3 with r3 | r3
   ·exact H3.o b (r3 ▸ hb)
   ·have h9:=r3 b hb;rw[bK]at h9;omega
  have K7:jag (fun b=>b=w.heap.size) w6 (w6.setCell ⟨w.heap.size,0,none⟩ (.slice a0 (n+1) a1)):=jag.oneSet w6 ⟨w.heap.size,0,none⟩ _
  refine⟨(K6.mono (fun y _ e=>?_)).trans (K7.mono (fun y _ e=>?_)),?_⟩
  ·have:=H3.o y e;rw[A];omega
  ·have e:y=_:=e;rw[A];omega
  ·exact⟨(HE.o.trans' K6 (fun y hy e=>by have:=H3.o y e;omega)).trans' K7 (fun y hy e=>by have e:y=_:=e;omega),HI.o,
    _,a2.set_same (i:=0) _,jaY b0 K7 (fun b hb e=>by have:=a3 b hb;omega),a3⟩
 case hdone =>
  intro s W a4 h hd
  obtain⟨v,J,O,h3⟩:=h.var
  obtain⟨X,Z,rfl⟩:=jaL O
  have q5:W.cell? ⟨w.heap.size,0,none⟩=some (.slice X s.length Z):=J.cell (i:=0) vF;have H2:=Hd O;have H3:=Hd h3;have HX:=Hd h.ext;have HI:=Hd h.inv;have b1:=Hd a4;have HD:=Hd hd;clear h J O h3 hd a4 Q;gi_wp2_with fail
  refine⟨by simp,.inl ⟨_,_,rfl,run_takeDeferred HD.o,?_⟩⟩
  refine⟨_,results_tmp rfl _ _ _,?_⟩
  have hK:=jag.onePut W w1.heap.size (.deferred none)
  exact⟨.slice X s.length Z,s,rfl,HI.o,b1.o,⟨_,_,rfl⟩,jaY H2.o hK (fun b hb e=>by have:=H3.o b hb;rw[A]at e;omega),HX.o.putObj (.inr vO) _,fun b hb=>by have:=H3.o b hb;omega⟩
end
end Go.Proofs.YtepbencaoiompaaGreatDoor
