/- Lemmas; each is under no condition but those that it states. -/
import Derived.Test.YtcpnjmcipainpaaGreatDoorPr30
import Derived.Test.YtcpnjmcipainpaaGreatDoorPr33
namespace Go.Proofs.YtcpnjmcipainpaaGreatDoor
set_option linter.unusedSimpArgs false
set_option linter.unusedVariables false
set_option maxRecDepth 100000
set_option maxHeartbeats 16000000
open Go Go.RowKit
section
attribute [local go_sem] Oper.semAt_some
structure jgk(z g:Nat)(v:Value)(T:List vB)(W:World):Prop where
 lo:z<=g
 var:Blk W g (.cells #[v] 34)
 row:∃ n,W.ownsRow 0 9 1 v n (T.map Value.string)
 own:∀ b,v.ownBlock=some b->z<=b/\b≠g/\b < W.heap.size
theorem jgk.ext{z g:Nat}{v:Value}{T:List vB}{W W':World}(h:jgk z g v T W)(e:Ext W W'):jgk z g v T W':=by
 obtain⟨n,h1⟩:=h.row
 exact⟨h.lo,h.var.keeps e (fun g=>g),⟨n,jbe h1 e⟩,fun b hb=>⟨(h.own b hb).1,(h.own b hb).2.1,Nat.lt_of_lt_of_le (h.own b hb).2.2 e.size⟩⟩
theorem jgk.off{z g:Nat}{v:Value}{T:List vB}{W W':World}{F:BSet}(h:jgk z g v T W)(e:jae F W W')(h1:¬ F g)(h2:∀ b,v.ownBlock=some b->¬ F b):jgk z g v T W':=by
 obtain⟨n,h3⟩:=h.row
 exact⟨h.lo,h.var.keeps e h1,⟨n,jaW h3 e h2⟩,fun b hb=>⟨(h.own b hb).1,(h.own b hb).2.1,Nat.lt_of_lt_of_le (h.own b hb).2.2 e.size⟩⟩
structure jdL(z g:Nat)(v:Value)(W W':World)(v':Value)(T':List vB):Prop where
 at':jgk z g v' T' W'
 kp:jae (fun b=>b=g\/v.ownBlock=some b) W W'
 sub:∀ b,v'.ownBlock=some b->v.ownBlock=some b\/W.heap.size<=b
theorem jdL.refl{z g:Nat}{v:Value}{T:List vB}{W W':World}(h:jgk z g v T W)(e:Ext W W'):jdL z g v W W' v T:=⟨h.ext e,e.mono (fun _ _ h=>h.elim),fun b hb=>.inl hb⟩
theorem jdL.trans{z g:Nat}{v v' v'':Value}{T T':List vB}{W W' W'':World}(h:jdL z g v W W' v' T)(k:jdL z g v' W' W'' v'' T'):jdL z g v W W'' v'' T':=
 ⟨k.at',h.kp.trans' k.kp (fun x hx e=>by
  rcases e with e | e
  ·exact .inl e
  ·rcases h.sub x e with e | e
   ·exact .inr e
   ·omega),fun b hb=>by
  rcases k.sub b hb with e | e
  ·exact h.sub b e
  ·exact .inr (Nat.le_trans h.kp.size e)⟩
theorem jdL.ext{z g:Nat}{v v':Value}{T:List vB}{W W' W'':World}(h:jdL z g v W W' v' T)(e:Ext W' W''):jdL z g v W W'' v' T:=h.trans (jdL.refl h.at' e)
theorem jdL.blk{z g:Nat}{v v':Value}{T:List vB}{W W':World}(h:jdL z g v W W' v' T){b:Nat}{o:Obj}(hB:Blk W b o)(h1:b≠g)(h2:v.ownBlock≠some b):Blk W' b o:=hB.keeps h.kp (fun e=>e.elim h1 h2)
theorem jdL.ext0{z g:Nat}{v v':Value}{T T':List vB}{W0 W W':World}(h:jdL z g v W W' v' T')(k:jgk z g v T W)(e:Ext W0 W)(hz:W0.heap.size<=z):Ext W0 W':=
 e.trans' h.kp (fun x hx e=>by
  rcases e with e | e
  ·have:=k.lo;omega
  ·have:=(k.own x e).1;omega)
theorem jdL.fill{z g:Nat}{v v':Value}{T:List vB}{W W' W'':World}(h:jdL z g v W W' v' T){L:Nat}(e:jae (fun b=>b=L) W' W'')(h1:L≠g)(h2:v'.ownBlock≠some L)(h3:W.heap.size<=L):jdL z g v W W'' v' T:=
 ⟨h.at'.off e (fun x=>h1 x.symm) (fun b hb x=>h2 (by rw[hb,x])),h.kp.trans' e (fun x hx y=>by have y:x=L:=y;omega),h.sub⟩
theorem jvA(z g:Nat)(v:Value)(T:List vB)(W:World)(h:jgk z g v T W)(hz:z<=W.heap.size)(hT:T.length<=1000000)(x:vB) :
  vQ 72 #[.string x,.pointer (some ⟨g,0,none⟩)] W fun e w'=>e=.returned (.tuple #[])/\∃ v',jdL z g v W w' v' (T++[x]):=by
 obtain⟨n,hR⟩:=h.row
 have hn:n=T.length:=by
  have:=hR.1;simpa using this.symm
 obtain⟨ad,cp,rfl⟩:=jaJ hR
 have q:=h.var.cell (i:=0) (v:=.slice ad n cp) vF;have hm1:n+1<=maxLen:=by unfold maxLen;omega
 have hm2:(n+1) * 16<=140737488355328:=by omega
 have HV:=Hd h.var;have HR:=Hd hR;have HO:=Hd h.own;have HLO:=Hd h.lo;have HZ:=Hd hz;have HN:=Hd hn;have HT:=Hd hT;clear h hR hn hz hT;go_enter Tryz.func72,Tryz.ntmps72
 obtain⟨i0,hi,hz0,hz1,hz2⟩:=info_parts Tryz.infoStr
 go_wp2_with (at_builtin;refine jbO _ rfl (.tmp 3) (.tmp 5) 34 rfl 9 i0 _ 1 16 Tryz.uStrs hi hz0 hz1 hz2 rfl vI (.slice ad n cp) n _ rfl (jbe HR.o ((ExtR W).alloc _)) ⟨W.heap.size,0,none⟩ 1 1 [.string x] rfl rfl (jaS (Blk.new W _)) (by simp[Value.oneCell']) hm1 hm2 ?_;intro v' w6 r1 r2 r3;obtain⟨ad',cp',rfl⟩:=jaJ r1;have hgs:=HV.o.lt;have hV6:=(HV.o.alloc _).keeps r2 (fun e=>(HO.o g e).2.1 rfl);have q56:w6.cell? ⟨g,0,none⟩=some (.slice ad n cp):=hV6.cell (i:=0) vF;have f56:w6.frozen? ⟨g,0,none⟩=false:=hV6.frozen)
 refine bodyPost_end (results_none rfl _ _ _) rfl ?_;have hgs:=HV.o.lt;have K7:=jae.oneSet w6 ⟨g,0,none⟩ (.slice ad' (n+1) cp');have hK:jae (fun b=>b=g\/(Value.slice ad n cp).ownBlock=some b) W (w6.setCell ⟨g,0,none⟩ (.slice ad' (n+1) cp')):=
  ((((ExtR W).alloc _).mono (fun _ _ h=>h.elim):jae (fun b=>b=g\/(Value.slice ad n cp).ownBlock=some b) W _).trans' (r2.mono (fun _ _ e=>.inr e):jae (fun b=>b=g\/(Value.slice ad n cp).ownBlock=some b) _ w6) (fun x hx e=>e)).trans' K7 (fun x hx e=>.inl e)
 have hsub:∀ b,(Value.slice ad' (n+1) cp').ownBlock=some b->(Value.slice ad n cp).ownBlock=some b\/W.heap.size<=b:=fun b hb=>by
  rcases r3 with r3 | r3
  ·exact .inl (r3 ▸ hb)
  ·have h9:=r3 b hb;rw[World.size_alloc]at h9;exact .inr vO
 have hne:∀ b,(Value.slice ad' (n+1) cp').ownBlock=some b->b≠g:=fun b hb=>by
  rcases hsub b hb with e | e
  ·exact (HO.o b e).2.1
  ·omega
 refine⟨rfl,.slice ad' (n+1) cp',⟨HLO.o,hV6.set_same (i:=0) _,⟨n+1,?_⟩,fun b hb=>⟨?_,hne b hb,?_⟩⟩,hK,hsub⟩
 ·rw[List.map_append]
  exact jaW r1 K7 (fun b hb e=>hne b hb e)
 ·rcases hsub b hb with e | e
  ·exact (HO.o b e).1
  ·exact Nat.le_trans HZ.o e
 ·exact Nat.lt_of_lt_of_le (jus r1 hb) K7.size
def jwn(z g:Nat)(v:Value)(T:List vB)(W:World)(n:jad)(e:Ending)(w':World):Prop:=e=.returned (.tuple #[n.V,.bool true])/\∃ v',jdL z g v W w' v' T
theorem juV(w0 W:World)(s bm:Nat)(room:Int)(S:List Nd5)(hs:jaT w0 s bm room S)(hE0:Ext w0 W)(g:Nat)(v:Value)(T:List vB)(h:jgk w0.heap.size g v T W)(hT:T.length<=1000000)(t:vB)(hH:HasS S t)(f:Nat)(n:jad)(hg:jbx (InlD f) n)(ht:t=jaN n) :
  vQ 116 #[.pointer (some ⟨s,0,none⟩),.string (shaB t),.func (.func 72) #[] #[.pointer (some ⟨g,0,none⟩)]] W (jwn w0.heap.size g v (T++[t]) W n):=by
 have HS:=Hd hs;have HE0:=Hd hE0;have HM:=Hd h;have HT:=Hd ht;have HG:=Hd hg;have hn:=(hg.one (inlP f)).refs;have HN:=Hd hn;have HL:=Hd (n.cells_len hn);have HTL:=Hd hT
 obtain⟨y,hy1,hy2⟩:=hH
 have hsg:=fun w (h:jaT w s bm room S)=>jja w s bm room S (shaB t) h;have hy1:atL S (shaB t).data.toList=some y:=hy1;rw[hy1]at hsg;have hye:(some y).map (fun z:Nd5=>z.2.2.text)=some t:=by rw[<-hy2];rfl
 simp only[hye]at hsg;have HSG:=Hd hsg
 obtain⟨k,hk⟩:=vE (shaB t)
 rw[<-hk]at HSG ⊢;clear h hs hE0 ht hg hn hy1 hy2 hsg hye hk hT;go_enter Tryz.func116,Tryz.ntmps116;go_wp2_with (refine jah Tryz.allocNode rfl rfl ?_;intro W1 hB1 hE1)
 refine vC (HSG.o W1 (HS.o.ext (HE0.o.trans hE1))) fun w3 hE=>?_;unfold optV;have HB3:=Hd (hB1.keeps hE (fun h=>h));have HE3:=Hd (hE1.trans hE);have HM3:=Hd (HM.o.ext HE3.o);clear hE hB1 hE1;go_wp2_with fail
 refine (jvA w0.heap.size g v T w3 HM3.o (HE0.o.trans HE3.o).size HTL.o t).mono ?_;rintro e w4 ⟨rfl,v',hT4⟩;have hgs:=HM.o.var.lt;have HB4:=Hd (hT4.blk HB3.o vO (fun e=>by have:=(HM.o.own _ e).2.2;omega));have HT4:=Hd hT4;clear hT4 hgs;go_wp2_with fail
 rw[HT.o];refine vC (jhN (inlP f) w4 n HG.o) fun w5 hE=>?_;rw[<-HT.o];have hB5r:=HB4.o.keeps hE (fun h=>h);have HE5:=Hd hE;clear hE HB4;unfold jad.V;go_wp2_with (first |(refine jah Tryz.allocNode rfl rfl ?_;intro W5 hB5 hE5;refine jag (vs:=n.cells) rfl rfl rfl rfl hB5 (by rw[HL.o];rfl) (by rw[HL.o];exact Tryz.szNode) n.one ?_;intro W6 hB6 hE6;have hB56:=(hB5r.keeps hE5 (fun h=>h)).keeps hE6 (by have:=hB5r.lt;omega)) |(refine jaf 144 (.tmp 10) rfl rfl _ _ rfl (jan _ _ n HN.o hB6) ?_) |(refine jag (vs:=n.cells) rfl rfl rfl rfl hB56 (by rw[HL.o];rfl) (by rw[HL.o];exact Tryz.szNode) n.one ?_;intro W8 hB8 hE8))
 refine bodyPost_ret (jax rfl rfl rfl (jap W8 _ n HN.o hB8)) rfl ?_;have hX6:Ext w4 W6:=(HE5.o.trans hE5).trans' hE6 (fun x hx e=>by have e:x=w5.heap.size:=e;have:=HE5.o.size;omega);have hM6:=HT4.o.ext hX6;have hs0:W.heap.size < W6.heap.size:=hB56.lt;have k8:jae (fun b=>b=g\/v.ownBlock=some b) W W8:=((HE3.o.mono (fun _ _ h=>h.elim):jae (fun b=>b=g\/v.ownBlock=some b) W w3).trans' hM6.kp (fun x hx e=>e)).trans' hE8 (fun x hx e=>by have e:x=W.heap.size:=e;omega);have hgs:=HM.o.var.lt
 refine⟨rfl,v',⟨hM6.at'.off hE8 (fun e=>by have e:g=W.heap.size:=e;omega) (fun b hb e=>?_),k8,fun b hb=>(hM6.sub b hb).imp id (fun k=>Nat.le_trans HE3.o.size k)⟩⟩
 have e:b=W.heap.size:=e;rcases hM6.sub b hb with k | k
 ·have:=(HM.o.own b k).2.2;omega
 ·have:=HB3.o.lt;omega
theorem jpx(W:World)(s bm:Nat)(room:Int)(S:List Nd5)(hs:jaT W s bm room S)(u:Value)(k:vB)(hH:atL S k.data.toList=none) :
  vR 116 #[.pointer (some ⟨s,0,none⟩),.string k,u] W (.tuple #[jar.V,.bool false]):=by
 have hsg:=fun w (h:jaT w s bm room S)=>jja w s bm room S k h;rw[hH]at hsg;simp only[Option.map_none,optV]at hsg;have HSG:=Hd hsg;have HS:=Hd hs;clear hsg hs hH;go_enter Tryz.func116,Tryz.ntmps116;go_wp2_with (refine jah Tryz.allocNode rfl rfl ?_;intro W1 hB1 hE1)
 refine vC (HSG.o W1 (HS.o.ext hE1)) fun w3 hE=>?_;have hB3:=hB1.keeps hE (fun h=>h);have HE3:=Hd (hE1.trans hE);clear hE hB1 hE1;go_wp2_with (refine jag (vs:=jar.cells) rfl rfl rfl rfl hB3 rfl Tryz.szNode jar.one ?_;intro W8 hB8 hE8)
 refine bodyPost_ret (jax rfl rfl rfl (jap W8 _ jar rfl hB8)) rfl ?_
 exact⟨rfl,HE3.o.trans' hE8 (fun x hx e=>by have e:x=W.heap.size:=e;omega)⟩
end
end Go.Proofs.YtcpnjmcipainpaaGreatDoor
