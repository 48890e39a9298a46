/- Parts of the proof, one behind the other: TriA. Each is under no condition but those that it states. -/
import Derived.Test.YtpaacnhboilkkaaGreatDoorPt34
import Derived.Test.YtpaacnhboilkkaaGreatDoorPt22
import Derived.Test.YtpaacnhboilkkaaGreatDoorPt37
import Derived.Test.YtpaacnhboilkkaaGreatDoorPt19
namespace Go.Proofs.YtpaacnhboilkkaaGreatDoor
set_option linter.unusedSimpArgs false
set_option linter.unusedVariables false
set_option maxRecDepth 100000
set_option maxHeartbeats 16000000
section
open Go Go.RowKit
attribute [local go_sem] Oper.semAt_some
structure MetAt(z g:Nat)(v:Value)(T:List ByteArray)(W:World):Prop where
 lo:z≤g
 var:Blk W g (.cells #[v] 34)
 row:∃ n,W.ownsRow 0 9 1 v n (T.map Value.string)
 own:∀ b,v.ownBlock=some b→z≤b∧b≠g∧b < W.heap.size
theorem MetAt.ext{z g:Nat}{v:Value}{T:List ByteArray}{W W':World}(h:MetAt z g v T W)(e:Ext W W'):MetAt z g v T W':=by
 obtain⟨n,h1⟩:=h.row
 exact⟨h.lo,h.var.keeps e (fun g=>g),⟨n,own_ext h1 e⟩,fun b hb=>⟨(h.own b hb).1,(h.own b hb).2.1,Nat.lt_of_lt_of_le (h.own b hb).2.2 e.size⟩⟩
theorem MetAt.off{z g:Nat}{v:Value}{T:List ByteArray}{W W':World}{F:BSet}(h:MetAt z g v T W)(e:Keeps F W W')(h1:¬ F g)(h2:∀ b,v.ownBlock=some b→¬ F b):MetAt z g v T W':=by
 obtain⟨n,h3⟩:=h.row
 exact⟨h.lo,h.var.keeps e h1,⟨n,own_keeps h3 e h2⟩,fun b hb=>⟨(h.own b hb).1,(h.own b hb).2.1,Nat.lt_of_lt_of_le (h.own b hb).2.2 e.size⟩⟩
structure MetTo(z g:Nat)(v:Value)(W W':World)(v':Value)(T':List ByteArray):Prop where
 at':MetAt z g v' T' W'
 kp:Keeps (fun b=>b=g∨v.ownBlock=some b) W W'
 sub:∀ b,v'.ownBlock=some b→v.ownBlock=some b∨W.heap.size≤b
theorem MetTo.refl{z g:Nat}{v:Value}{T:List ByteArray}{W W':World}(h:MetAt z g v T W)(e:Ext W W'):MetTo z g v W W' v T:=⟨h.ext e,e.mono (fun _ _ h=>h.elim),fun b hb=>.inl hb⟩
theorem MetTo.trans{z g:Nat}{v v' v'':Value}{T T':List ByteArray}{W W' W'':World}(h:MetTo z g v W W' v' T)(k:MetTo z g v' W' W'' v'' T'):MetTo z g v W W'' v'' T':=
 ⟨k.at',h.kp.trans' k.kp (fun x hx e=>by
  rcases e with e | e
  ·exact .inl e
  ·rcases h.sub x e with e | e
   ·exact .inr e
   ·omega),fun b hb=>by
  rcases k.sub b hb with e | e
  ·exact h.sub b e
  ·exact .inr (Nat.le_trans h.kp.size e)⟩
theorem MetTo.ext{z g:Nat}{v v':Value}{T:List ByteArray}{W W' W'':World}(h:MetTo z g v W W' v' T)(e:Ext W' W''):MetTo z g v W W'' v' T:=h.trans (MetTo.refl h.at' e)
theorem MetTo.blk{z g:Nat}{v v':Value}{T:List ByteArray}{W W':World}(h:MetTo z g v W W' v' T){b:Nat}{o:Obj}(hB:Blk W b o)(h1:b≠g)(h2:v.ownBlock≠some b):Blk W' b o:=hB.keeps h.kp (fun e=>e.elim h1 h2)
theorem MetTo.ext0{z g:Nat}{v v':Value}{T T':List ByteArray}{W0 W W':World}(h:MetTo z g v W W' v' T')(k:MetAt z g v T W)(e:Ext W0 W)(hz:W0.heap.size≤z):Ext W0 W':=
 e.trans' h.kp (fun x hx e=>by
  rcases e with e | e
  ·have:=k.lo;omega
  ·have:=(k.own x e).1;omega)
theorem MetTo.fill{z g:Nat}{v v':Value}{T:List ByteArray}{W W' W'':World}(h:MetTo z g v W W' v' T){L:Nat}(e:Keeps (fun b=>b=L) W' W'')(h1:L≠g)(h2:v'.ownBlock≠some L)(h3:W.heap.size≤L):MetTo z g v W W'' v' T:=
 ⟨h.at'.off e (fun x=>h1 x.symm) (fun b hb x=>h2 (by rw[hb,x])),h.kp.trans' e (fun x hx y=>by have y:x=L:=y;omega),h.sub⟩
theorem meet8_c(z g:Nat)(v:Value)(T:List ByteArray)(W:World)(h:MetAt z g v T W)(hz:z≤W.heap.size)(hT:T.length≤1000000)(x:ByteArray) :
  Calls Tryz.prog 63 #[.string x,.pointer (some ⟨g,0,none⟩)] W fun e w'=>e=.returned (.tuple #[])∧∃ v',MetTo z g v W w' v' (T++[x]):=by
 obtain⟨n,hR⟩:=h.row
 have hn:n=T.length:=by
  have:=hR.1;simpa using this.symm
 obtain⟨ad,cp,rfl⟩:=row_slice hR
 have q:=h.var.cell (i:=0) (v:=.slice ad n cp) (by rfl)
 have hm1:n+1≤maxLen:=by unfold maxLen;omega
 have hm2:(n+1) * 16≤140737488355328:=by omega
 have HV:=Hd h.var
 have HR:=Hd hR
 have HO:=Hd h.own
 have HLO:=Hd h.lo
 have HZ:=Hd hz
 have HN:=Hd hn
 have HT:=Hd hT
 clear h hR hn hz hT
 go_enter Tryz.func63,Tryz.ntmps63
 obtain⟨i0,hi,hz0,hz1,hz2⟩:=info_parts Tryz.infoStr
 go_wp2_with (at_builtin;refine wpList_append_any _ rfl (.tmp 3) (.tmp 5) 34 rfl 9 i0 _ 1 16 Tryz.uStrs hi hz0 hz1 hz2 rfl (by decide) (.slice ad n cp) n _ rfl (own_ext HR.out ((ExtR W).alloc _)) ⟨W.heap.size,0,none⟩ 1 1 [.string x] rfl rfl (news_blk (Blk.new W _)) (by simp[Value.oneCell']) hm1 hm2 ?_;intro v' w6 r1 r2 r3;obtain⟨ad',cp',rfl⟩:=row_slice r1;have hgs:=HV.out.lt;have hV6:=(HV.out.alloc _).keeps r2 (fun e=>(HO.out g e).2.1 rfl);have q56:w6.cell? ⟨g,0,none⟩=some (.slice ad n cp):=hV6.cell (i:=0) (by rfl);have f56:w6.frozen? ⟨g,0,none⟩=false:=hV6.frozen)
 refine bodyPost_end (results_none rfl _ _ _) rfl ?_
 have hgs:=HV.out.lt
 have K7:=Keeps.oneSet w6 ⟨g,0,none⟩ (.slice ad' (n+1) cp')
 have hK:Keeps (fun b=>b=g∨(Value.slice ad n cp).ownBlock=some b) W (w6.setCell ⟨g,0,none⟩ (.slice ad' (n+1) cp')):=
  ((((ExtR W).alloc _).mono (fun _ _ h=>h.elim):Keeps (fun b=>b=g∨(Value.slice ad n cp).ownBlock=some b) W _).trans' (r2.mono (fun _ _ e=>.inr e):Keeps (fun b=>b=g∨(Value.slice ad n cp).ownBlock=some b) _ w6) (fun x hx e=>e)).trans' K7 (fun x hx e=>.inl e)
 have hsub:∀ b,(Value.slice ad' (n+1) cp').ownBlock=some b→(Value.slice ad n cp).ownBlock=some b∨W.heap.size≤b:=fun b hb=>by
  rcases r3 with r3 | r3
  ·exact .inl (r3 ▸ hb)
  ·have h9:=r3 b hb;rw[World.size_alloc]at h9;exact .inr (by omega)
 have hne:∀ b,(Value.slice ad' (n+1) cp').ownBlock=some b→b≠g:=fun b hb=>by
  rcases hsub b hb with e | e
  ·exact (HO.out b e).2.1
  ·omega
 refine⟨rfl,.slice ad' (n+1) cp',⟨HLO.out,hV6.set_same (i:=0) _,⟨n+1,?_⟩,fun b hb=>⟨?_,hne b hb,?_⟩⟩,hK,hsub⟩
 ·rw[List.map_append]
  exact own_keeps r1 K7 (fun b hb e=>hne b hb e)
 ·rcases hsub b hb with e | e
  ·exact (HO.out b e).1
  ·exact Nat.le_trans HZ.out e
 ·exact Nat.lt_of_lt_of_le (own_lt r1 hb) K7.size
def AtPost(z g:Nat)(v:Value)(T:List ByteArray)(W:World)(n:NodeT)(e:Ending)(w':World):Prop:=e=.returned (.tuple #[n.V,.bool true])∧∃ v',MetTo z g v W w' v' T
theorem at8_c(w0 W:World)(s bm:Nat)(room:Int)(S:List Nd5)(hs:StoreAt w0 s bm room S)(hE0:Ext w0 W)(g:Nat)(v:Value)(T:List ByteArray)(h:MetAt w0.heap.size g v T W)(hT:T.length≤1000000)(t:ByteArray)(hH:HasS S t)(f:Nat)(n:NodeT)(hg:GoodW (InlD f) n)(ht:t=nodeB n) :
  Calls Tryz.prog 108 #[.pointer (some ⟨s,0,none⟩),.string (shaB t),.func (.func 63) #[] #[.pointer (some ⟨g,0,none⟩)]] W (AtPost w0.heap.size g v (T++[t]) W n):=by
 have HS:=Hd hs
 have HE0:=Hd hE0
 have HM:=Hd h
 have HT:=Hd ht
 have HG:=Hd hg
 have hn:=(hg.one (inlP f)).refs
 have HN:=Hd hn
 have HL:=Hd (n.cells_len hn)
 have HTL:=Hd hT
 obtain⟨y,hy1,hy2⟩:=hH
 have hsg:=fun w (h:StoreAt w s bm room S)=>sget_c w s bm room S (shaB t) h
 have hy1:atL S (shaB t).data.toList=some y:=hy1
 rw[hy1]at hsg
 have hye:(some y).map (fun z:Nd5=>z.2.2.text)=some t:=by rw[←hy2];rfl
 simp only[hye]at hsg
 have HSG:=Hd hsg
 obtain⟨k,hk⟩:∃ k,k=shaB t:=⟨_,rfl⟩
 rw[←hk]at HSG ⊢
 clear h hs hE0 ht hg hn hy1 hy2 hsg hye hk hT
 go_enter Tryz.func108,Tryz.ntmps108
 go_wp2_with (refine wpList_new Tryz.allocNode rfl rfl ?_;intro W1 hB1 hE1)
 refine (HSG.out W1 (HS.out.ext (HE0.out.trans hE1))).mono ?_
 rintro e w3 ⟨rfl,hE⟩
 unfold optV
 have HB3:=Hd (hB1.keeps hE (fun h=>h))
 have HE3:=Hd (hE1.trans hE)
 have HM3:=Hd (HM.out.ext HE3.out)
 clear hE hB1 hE1
 go_wp2_with fail
 refine (meet8_c w0.heap.size g v T w3 HM3.out (HE0.out.trans HE3.out).size HTL.out t).mono ?_
 rintro e w4 ⟨rfl,v',hT4⟩
 have hgs:=HM.out.var.lt
 have HB4:=Hd (hT4.blk HB3.out (by omega) (fun e=>by have:=(HM.out.own _ e).2.2;omega))
 have HT4:=Hd hT4
 clear hT4 hgs
 go_wp2_with fail
 rw[HT.out]
 refine (get_c4 (inlP f) w4 n HG.out).mono ?_
 rintro e w5 ⟨rfl,hE⟩
 rw[←HT.out]
 have hB5r:=HB4.out.keeps hE (fun h=>h)
 have HE5:=Hd hE
 clear hE HB4
 unfold NodeT.V
 go_wp2_with (first |(refine wpList_new Tryz.allocNode rfl rfl ?_;intro W5 hB5 hE5;refine wpList_fill (vs:=n.cells) rfl rfl rfl rfl hB5 (by rw[HL.out];rfl) (by rw[HL.out];exact Tryz.szNode) n.one ?_;intro W6 hB6 hE6;have hB56:=(hB5r.keeps hE5 (fun h=>h)).keeps hE6 (by have:=hB5r.lt;omega)) |(refine wpList_load_known 144 (.tmp 10) rfl rfl _ _ rfl (run_load_api _ _ n HN.out hB6) ?_) |(refine wpList_fill (vs:=n.cells) rfl rfl rfl rfl hB56 (by rw[HL.out];rfl) (by rw[HL.out];exact Tryz.szNode) n.one ?_;intro W8 hB8 hE8))
 refine bodyPost_ret (results_cell_tmp rfl rfl rfl (run_loadVar_api W8 _ n HN.out hB8)) rfl ?_
 have hX6:Ext w4 W6:=(HE5.out.trans hE5).trans' hE6 (fun x hx e=>by have e:x=w5.heap.size:=e;have:=HE5.out.size;omega)
 have hM6:=HT4.out.ext hX6
 have hs0:W.heap.size < W6.heap.size:=hB56.lt
 have k8:Keeps (fun b=>b=g∨v.ownBlock=some b) W W8:=((HE3.out.mono (fun _ _ h=>h.elim):Keeps (fun b=>b=g∨v.ownBlock=some b) W w3).trans' hM6.kp (fun x hx e=>e)).trans' hE8 (fun x hx e=>by have e:x=W.heap.size:=e;omega)
 have hgs:=HM.out.var.lt
 refine⟨rfl,v',⟨hM6.at'.off hE8 (fun e=>by have e:g=W.heap.size:=e;omega) (fun b hb e=>?_),k8,fun b hb=>(hM6.sub b hb).imp id (fun k=>Nat.le_trans HE3.out.size k)⟩⟩
 have e:b=W.heap.size:=e
 rcases hM6.sub b hb with k | k
 ·have:=(HM.out.own b k).2.2;omega
 ·have:=HB3.out.lt;omega
theorem at8_no(W:World)(s bm:Nat)(room:Int)(S:List Nd5)(hs:StoreAt W s bm room S)(u:Value)(k:ByteArray)(hH:atL S k.data.toList=none) :
  Calls Tryz.prog 108 #[.pointer (some ⟨s,0,none⟩),.string k,u] W fun e w'=>e=.returned (.tuple #[emptyN.V,.bool false])∧Ext W w':=by
 have hsg:=fun w (h:StoreAt w s bm room S)=>sget_c w s bm room S k h
 rw[hH]at hsg
 simp only[Option.map_none,optV]at hsg
 have HSG:=Hd hsg
 have HS:=Hd hs
 clear hsg hs hH
 go_enter Tryz.func108,Tryz.ntmps108
 go_wp2_with (refine wpList_new Tryz.allocNode rfl rfl ?_;intro W1 hB1 hE1)
 refine (HSG.out W1 (HS.out.ext hE1)).mono ?_
 rintro e w3 ⟨rfl,hE⟩
 have hB3:=hB1.keeps hE (fun h=>h)
 have HE3:=Hd (hE1.trans hE)
 clear hE hB1 hE1
 go_wp2_with (refine wpList_fill (vs:=emptyN.cells) rfl rfl rfl rfl hB3 rfl Tryz.szNode emptyN.one ?_;intro W8 hB8 hE8)
 refine bodyPost_ret (results_cell_tmp rfl rfl rfl (run_loadVar_api W8 _ emptyN rfl hB8)) rfl ?_
 exact⟨rfl,HE3.out.trans' hE8 (fun x hx e=>by have e:x=W.heap.size:=e;omega)⟩
end
end Go.Proofs.YtpaacnhboilkkaaGreatDoor
