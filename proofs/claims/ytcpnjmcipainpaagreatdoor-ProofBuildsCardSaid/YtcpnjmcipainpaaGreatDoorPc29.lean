/- Parts of the proof, one behind the other: TriA, TriB, TriC, PrfA, RlpS, RlpT, RlpU, RlpV, RlpW, RlpX, RlpY, RlpZ, PrfB, PrfC, PrfD, WayE, jpy. Each is under no condition but those that it states. -/
import Derived.Test.YtcpnjmcipainpaaGreatDoorPc24
import Derived.Test.YtcpnjmcipainpaaGreatDoorPc25
import Derived.Test.YtcpnjmcipainpaaGreatDoorPc28
import Derived.Test.YtcpnjmcipainpaaGreatDoorPc27
import Derived.Test.YtcpnjmcipainpaaGreatDoorPc6
import Derived.Test.YtcpnjmcipainpaaGreatDoorPc12
namespace Go.Proofs.YtcpnjmcipainpaaGreatDoor
set_option linter.unusedSimpArgs false
set_option linter.unusedVariables false
set_option maxRecDepth 100000
set_option maxHeartbeats 16000000
section
open Go Go.RowKit
attribute [local go_sem] Oper.semAt_some
structure je3(z g:Nat)(v:Value)(T:List ByteArray)(W:World):Prop where
 lo:z≤g
 var:Blk W g (.cells #[v] 34)
 row:∃ n,W.ownsRow 0 9 1 v n (T.map Value.string)
 own:∀ b,v.ownBlock=some b→z≤b∧b≠g∧b < W.heap.size
theorem je3.ext{z g:Nat}{v:Value}{T:List ByteArray}{W W':World}(h:je3 z g v T W)(e:Ext W W'):je3 z g v T W':=by
 obtain⟨n,h1⟩:=h.row
 exact⟨h.lo,h.var.keeps e (fun g=>g),⟨n,jbx h1 e⟩,fun b hb=>⟨(h.own b hb).1,(h.own b hb).2.1,Nat.lt_of_lt_of_le (h.own b hb).2.2 e.size⟩⟩
theorem je3.off{z g:Nat}{v:Value}{T:List ByteArray}{W W':World}{F:BSet}(h:je3 z g v T W)(e:jag F W W')(h1:¬ F g)(h2:∀ b,v.ownBlock=some b→¬ F b):je3 z g v T W':=by
 obtain⟨n,h3⟩:=h.row
 exact⟨h.lo,h.var.keeps e h1,⟨n,ja7 h3 e h2⟩,fun b hb=>⟨(h.own b hb).1,(h.own b hb).2.1,Nat.lt_of_lt_of_le (h.own b hb).2.2 e.size⟩⟩
structure jcW(z g:Nat)(v:Value)(W W':World)(v':Value)(T':List ByteArray):Prop where
 at':je3 z g v' T' W'
 kp:jag (fun b=>b=g∨v.ownBlock=some b) W W'
 sub:∀ b,v'.ownBlock=some b→v.ownBlock=some b∨W.heap.size≤b
theorem jcW.refl{z g:Nat}{v:Value}{T:List ByteArray}{W W':World}(h:je3 z g v T W)(e:Ext W W'):jcW z g v W W' v T:=⟨h.ext e,e.mono (fun _ _ h=>h.elim),fun b hb=>.inl hb⟩
theorem jcW.trans{z g:Nat}{v v' v'':Value}{T T':List ByteArray}{W W' W'':World}(h:jcW z g v W W' v' T)(k:jcW z g v' W' W'' v'' T'):jcW z g v W W'' v'' T':=
 ⟨k.at',h.kp.trans' k.kp (fun x hx e=>by
  rcases e with e | e
  ·exact .inl e
  ·rcases h.sub x e with e | e
   ·exact .inr e
   ·omega),fun b hb=>by
  rcases k.sub b hb with e | e
  ·exact h.sub b e
  ·exact .inr (Nat.le_trans h.kp.size e)⟩
theorem jcW.ext{z g:Nat}{v v':Value}{T:List ByteArray}{W W' W'':World}(h:jcW z g v W W' v' T)(e:Ext W' W''):jcW z g v W W'' v' T:=h.trans (jcW.refl h.at' e)
theorem jcW.blk{z g:Nat}{v v':Value}{T:List ByteArray}{W W':World}(h:jcW z g v W W' v' T){b:Nat}{o:Obj}(hB:Blk W b o)(h1:b≠g)(h2:v.ownBlock≠some b):Blk W' b o:=hB.keeps h.kp (fun e=>e.elim h1 h2)
theorem jcW.ext0{z g:Nat}{v v':Value}{T T':List ByteArray}{W0 W W':World}(h:jcW z g v W W' v' T')(k:je3 z g v T W)(e:Ext W0 W)(hz:W0.heap.size≤z):Ext W0 W':=
 e.trans' h.kp (fun x hx e=>by
  rcases e with e | e
  ·have:=k.lo;omega
  ·have:=(k.own x e).1;omega)
theorem jcW.fill{z g:Nat}{v v':Value}{T:List ByteArray}{W W' W'':World}(h:jcW z g v W W' v' T){L:Nat}(e:jag (fun b=>b=L) W' W'')(h1:L≠g)(h2:v'.ownBlock≠some L)(h3:W.heap.size≤L):jcW z g v W W'' v' T:=
 ⟨h.at'.off e (fun x=>h1 x.symm) (fun b hb x=>h2 (by rw[hb,x])),h.kp.trans' e (fun x hx y=>by have y:x=L:=y;omega),h.sub⟩
theorem jqh(z g:Nat)(v:Value)(T:List ByteArray)(W:World)(h:je3 z g v T W)(hz:z≤W.heap.size)(hT:T.length≤1000000)(x:ByteArray) :
  Calls Tryz.prog 72 #[.string x,.pointer (some ⟨g,0,none⟩)] W fun e w'=>e=.returned (.tuple #[])∧∃ v',jcW z g v W w' v' (T++[x]):=by
 obtain⟨n,hR⟩:=h.row
 have hn:n=T.length:=by
  have:=hR.1;simpa using this.symm
 obtain⟨ad,cp,rfl⟩:=ja1 hR
 have q:=h.var.cell (i:=0) (v:=.slice ad n cp) (by rfl);have hm1:n+1≤maxLen:=by unfold maxLen;omega
 have hm2:(n+1) * 16≤140737488355328:=by omega
 have HV:=Hd h.var;have HR:=Hd hR;have HO:=Hd h.own;have HLO:=Hd h.lo;have HZ:=Hd hz;have HN:=Hd hn;have HT:=Hd hT;clear h hR hn hz hT;go_enter Tryz.func72,Tryz.ntmps72
 obtain⟨i0,hi,hz0,hz1,hz2⟩:=info_parts Tryz.infoStr
 go_wp2_with (at_builtin;refine jck _ rfl (.tmp 3) (.tmp 5) 34 rfl 9 i0 _ 1 16 Tryz.uStrs hi hz0 hz1 hz2 rfl (by decide) (.slice ad n cp) n _ rfl (jbx HR.o ((ExtR W).alloc _)) ⟨W.heap.size,0,none⟩ 1 1 [.string x] rfl rfl (jbg (Blk.new W _)) (by simp[Value.oneCell']) hm1 hm2 ?_;intro v' w6 r1 r2 r3;obtain⟨ad',cp',rfl⟩:=ja1 r1;have hgs:=HV.o.lt;have hV6:=(HV.o.alloc _).keeps r2 (fun e=>(HO.o g e).2.1 rfl);have q56:w6.cell? ⟨g,0,none⟩=some (.slice ad n cp):=hV6.cell (i:=0) (by rfl);have f56:w6.frozen? ⟨g,0,none⟩=false:=hV6.frozen)
 refine bodyPost_end (results_none rfl _ _ _) rfl ?_;have hgs:=HV.o.lt;have K7:=jag.oneSet w6 ⟨g,0,none⟩ (.slice ad' (n+1) cp');have hK:jag (fun b=>b=g∨(Value.slice ad n cp).ownBlock=some b) W (w6.setCell ⟨g,0,none⟩ (.slice ad' (n+1) cp')):=
  ((((ExtR W).alloc _).mono (fun _ _ h=>h.elim):jag (fun b=>b=g∨(Value.slice ad n cp).ownBlock=some b) W _).trans' (r2.mono (fun _ _ e=>.inr e):jag (fun b=>b=g∨(Value.slice ad n cp).ownBlock=some b) _ w6) (fun x hx e=>e)).trans' K7 (fun x hx e=>.inl e)
 have hsub:∀ b,(Value.slice ad' (n+1) cp').ownBlock=some b→(Value.slice ad n cp).ownBlock=some b∨W.heap.size≤b:=fun b hb=>by
  rcases r3 with r3 | r3
  ·exact .inl (r3 ▸ hb)
  ·have h9:=r3 b hb;rw[World.size_alloc]at h9;exact .inr (by omega)
 have hne:∀ b,(Value.slice ad' (n+1) cp').ownBlock=some b→b≠g:=fun b hb=>by
  rcases hsub b hb with e | e
  ·exact (HO.o b e).2.1
  ·omega
 refine⟨rfl,.slice ad' (n+1) cp',⟨HLO.o,hV6.set_same (i:=0) _,⟨n+1,?_⟩,fun b hb=>⟨?_,hne b hb,?_⟩⟩,hK,hsub⟩
 ·rw[List.map_append]
  exact ja7 r1 K7 (fun b hb e=>hne b hb e)
 ·rcases hsub b hb with e | e
  ·exact (HO.o b e).1
  ·exact Nat.le_trans HZ.o e
 ·exact Nat.lt_of_lt_of_le (jrI r1 hb) K7.size
def jqM(z g:Nat)(v:Value)(T:List ByteArray)(W:World)(n:jac)(e:Ending)(w':World):Prop:=e=.returned (.tuple #[n.V,.bool true])∧∃ v',jcW z g v W w' v' T
theorem jpK(w0 W:World)(s bm:Nat)(room:Int)(S:List Nd5)(hs:jbo w0 s bm room S)(hE0:Ext w0 W)(g:Nat)(v:Value)(T:List ByteArray)(h:je3 w0.heap.size g v T W)(hT:T.length≤1000000)(t:ByteArray)(hH:HasS S t)(f:Nat)(n:jac)(hg:jbj (InlD f) n)(ht:t=jaH n) :
  Calls Tryz.prog 116 #[.pointer (some ⟨s,0,none⟩),.string (shaB t),.func (.func 72) #[] #[.pointer (some ⟨g,0,none⟩)]] W (jqM w0.heap.size g v (T++[t]) W n):=by
 have HS:=Hd hs;have HE0:=Hd hE0;have HM:=Hd h;have HT:=Hd ht;have HG:=Hd hg;have hn:=(hg.one (inlP f)).refs;have HN:=Hd hn;have HL:=Hd (n.cells_len hn);have HTL:=Hd hT
 obtain⟨y,hy1,hy2⟩:=hH
 have hsg:=fun w (h:jbo w s bm room S)=>jnt w s bm room S (shaB t) h;have hy1:atL S (shaB t).data.toList=some y:=hy1;rw[hy1]at hsg;have hye:(some y).map (fun z:Nd5=>z.2.2.text)=some t:=by rw[←hy2];rfl
 simp only[hye]at hsg;have HSG:=Hd hsg
 obtain⟨k,hk⟩:∃ k,k=shaB t:=⟨_,rfl⟩
 rw[←hk]at HSG ⊢;clear h hs hE0 ht hg hn hy1 hy2 hsg hye hk hT;go_enter Tryz.func116,Tryz.ntmps116;go_wp2_with (refine jai Tryz.allocNode rfl rfl ?_;intro W1 hB1 hE1)
 refine (HSG.o W1 (HS.o.ext (HE0.o.trans hE1))).mono ?_;rintro e w3 ⟨rfl,hE⟩;unfold optV;have HB3:=Hd (hB1.keeps hE (fun h=>h));have HE3:=Hd (hE1.trans hE);have HM3:=Hd (HM.o.ext HE3.o);clear hE hB1 hE1;go_wp2_with fail
 refine (jqh w0.heap.size g v T w3 HM3.o (HE0.o.trans HE3.o).size HTL.o t).mono ?_;rintro e w4 ⟨rfl,v',hT4⟩;have hgs:=HM.o.var.lt;have HB4:=Hd (hT4.blk HB3.o (by omega) (fun e=>by have:=(HM.o.own _ e).2.2;omega));have HT4:=Hd hT4;clear hT4 hgs;go_wp2_with fail
 rw[HT.o];refine (jg4 (inlP f) w4 n HG.o).mono ?_;rintro e w5 ⟨rfl,hE⟩;rw[←HT.o];have hB5r:=HB4.o.keeps hE (fun h=>h);have HE5:=Hd hE;clear hE HB4;unfold jac.V;go_wp2_with (first |(refine jai Tryz.allocNode rfl rfl ?_;intro W5 hB5 hE5;refine jaf (vs:=n.cells) rfl rfl rfl rfl hB5 (by rw[HL.o];rfl) (by rw[HL.o];exact Tryz.szNode) n.one ?_;intro W6 hB6 hE6;have hB56:=(hB5r.keeps hE5 (fun h=>h)).keeps hE6 (by have:=hB5r.lt;omega)) |(refine jah 144 (.tmp 10) rfl rfl _ _ rfl (jap _ _ n HN.o hB6) ?_) |(refine jaf (vs:=n.cells) rfl rfl rfl rfl hB56 (by rw[HL.o];rfl) (by rw[HL.o];exact Tryz.szNode) n.one ?_;intro W8 hB8 hE8))
 refine bodyPost_ret (jaj rfl rfl rfl (jao W8 _ n HN.o hB8)) rfl ?_;have hX6:Ext w4 W6:=(HE5.o.trans hE5).trans' hE6 (fun x hx e=>by have e:x=w5.heap.size:=e;have:=HE5.o.size;omega);have hM6:=HT4.o.ext hX6;have hs0:W.heap.size < W6.heap.size:=hB56.lt;have k8:jag (fun b=>b=g∨v.ownBlock=some b) W W8:=((HE3.o.mono (fun _ _ h=>h.elim):jag (fun b=>b=g∨v.ownBlock=some b) W w3).trans' hM6.kp (fun x hx e=>e)).trans' hE8 (fun x hx e=>by have e:x=W.heap.size:=e;omega);have hgs:=HM.o.var.lt
 refine⟨rfl,v',⟨hM6.at'.off hE8 (fun e=>by have e:g=W.heap.size:=e;omega) (fun b hb e=>?_),k8,fun b hb=>(hM6.sub b hb).imp id (fun k=>Nat.le_trans HE3.o.size k)⟩⟩
 have e:b=W.heap.size:=e;rcases hM6.sub b hb with k | k
 ·have:=(HM.o.own b k).2.2;omega
 ·have:=HB3.o.lt;omega
theorem jdM(w:World)(n:Nat):Ext w (w.drewN n):=(ExtR w).drewN n
def jr7(z g L:Nat)(v:Value)(W:World)(S:List Nd5)(A:List ByteArray)(V:Option ByteArray)(okv pv:Value)(wr:World):Prop:=
 ∃ (p:ByteArray) (T:List ByteArray) (v':Value),pv=.string p∧jcW z g v W wr v' T∧v'.ownBlock≠some L ∧
  ((okv=.bool true∧∃ f l,jaG f l∧jaA p=true∧p.size≤2000∧T++wayL f l p=A∧valL l p=V∧Blk wr L (.cells (jay (jad f) l).cells.toArray 144)∧(∀ x∈jaF (jad (f+1) l),32≤x.size→HasS S x)) ∨
  (okv=.bool false∧T=A∧V=none))
def foM:Value→Value→Nat | .bool true,pv=>jfB pv+1 | _,_=>0
def folV:Option ByteArray→Value | some u=>.tuple #[.string u,.int .i64 0] | none=>.tuple #[.string ⟨#[]⟩,.int .i64 9]
def jqV(z g:Nat)(v:Value)(W:World)(A:List ByteArray)(V:Option ByteArray)(e:Ending)(w':World):Prop:=e=.returned (folV V)∧∃ v',jcW z g v W w' v' A
theorem jmA(w0 W:World)(s bm:Nat)(room:Int)(S:List Nd5)(hs:jbo w0 s bm room S)(hE0:Ext w0 W)(g:Nat)(v:Value)(h:je3 w0.heap.size g v [] W)(l:List Pair)(hM:HasM S l)(key:ByteArray)(hk:key.size≤1000) :
  Calls Tryz.prog 69 #[.pointer (some ⟨s,0,none⟩),.string (shaB (ja5 l).text),.string key,.func (.func 72) #[] #[.pointer (some ⟨g,0,none⟩)]] W (jqV w0.heap.size g v W ((ja5 l).text :: wayL 12 (ja3 l) (jbe key)) (valL (ja3 l) (jbe key))):=by
 have HS:=Hd hs;have HE0:=Hd hE0;have HM:=Hd h;have hrows:=jdu (jbS hM.ok);have HROWS:=Hd hrows;have hgood:=(good 12 (ja3 l) hrows).1
 obtain⟨n,hn⟩:∃ n,n=jay (jad 12) (ja3 l):=⟨_,rfl⟩
 rw[←hn]at hgood;have hat:=jpK w0 W s bm room S hs hE0 g v [] h (by simp) (ja5 l).text (hM.has _ (jfQ _)) 12 n hgood (by rw[hn];rfl);have HAT:=Hd hat;have HL:=Hd (n.cells_len (hgood.one (inlP 12)).refs);have HAS:=Hd hM.has;have HN:=Hd hn;have HK:=Hd hk
 obtain⟨A,hA⟩:∃ A,A=(ja5 l).text :: wayL 12 (ja3 l) (jbe key):=⟨_,rfl⟩
 obtain⟨V,hV⟩:∃ V,V=valL (ja3 l) (jbe key):=⟨_,rfl⟩
 have HA:=Hd hA;have HV:=Hd hV;rw[←hA, ←hV]
 obtain⟨k0,hk0⟩:∃ k,k=shaB (ja5 l).text:=⟨_,rfl⟩
 rw[←hk0]at HAT ⊢;clear hs hE0 h hrows hgood hn hat hM hk hA hV hk0;go_enter Tryz.func69,Tryz.ntmps69;go_wp2_with fail
 refine HAT.o.mono ?_;rintro e w1 ⟨rfl,v1,hT1⟩;have HT1:=Hd hT1;clear hT1;unfold jac.V;go_wp2_with (first |(refine jai Tryz.allocNode rfl rfl ?_;intro W5 hB5 hE5;refine jaf (vs:=n.cells) rfl rfl rfl rfl hB5 (by rw[HL.o];rfl) (by rw[HL.o];exact Tryz.szNode) n.one ?_;intro W6 hB6 hE6))
 refine (jiO _ key (by have:=HK.o;omega)).mono ?_;rintro e w7 ⟨rfl,hE⟩;have hX6:Ext w1 W6:=hE5.trans' hE6 (fun x hx e=>by have e:x=w1.heap.size:=e;omega);have HT7:=Hd ((HT1.o.ext hX6).ext hE);have HB7:=Hd (hB6.keeps hE (fun h=>h));have HLN:=Hd (show w1.heap.size≠g∧v1.ownBlock≠some w1.heap.size from⟨by have:=HT1.o.at'.var.lt;omega,fun e=>by have:=(HT1.o.at'.own _ e).2.2;omega⟩);have HLW:=Hd (show W.heap.size≤w1.heap.size from HT1.o.kp.size)
 obtain⟨L,hL⟩:∃ L,L=w1.heap.size:=⟨_,rfl⟩
 rw[←hL]at HB7 HLN HLW ⊢;clear hL hE hX6 hB5 hE5 hB6 hE6
 obtain⟨pk,hpk⟩:∃ pk,pk=jbe key:=⟨_,rfl⟩
 have HPK:=Hd hpk;rw[←hpk];clear hpk;go_wp2_with fail
 go_loopw [11,12] (fun okv pv wr=>jr7 w0.heap.size g L v W S A V okv pv wr) (fun okv pv _=>foM okv pv)
 case atStart =>
  refine⟨pk,_,v1,rfl,HT7.o,HLN.o.2,.inl ⟨rfl,12,ja3 l,HROWS.o,by rw[HPK.o];exact jch key,by rw[HPK.o,jeQ];have:=HK.o;omega,?_,by rw[HPK.o, ←HV.o],by rw[←HN.o];exact HB7.o,fun x hx _=>HAS.o x hx⟩⟩
  rw[HA.o,HPK.o];rfl
 case round =>
  obtain⟨p,T,v',rfl,hT,hown,hc⟩:=hrel
  have HT:=Hd hT;have HOW:=Hd hown;have HE:=Hd (HT.o.ext0 HM.o HE0.o (Nat.le_refl _));clear hT hown;rcases hc with⟨rfl,f,l',h1,h2,h3,h4,h5,h6,h7⟩ |⟨rfl,h1,h2⟩
  case inr =>
   have HF:=Hd (And.intro h1 h2);clear h1 h2;go_wp2_with fail
   go_ret2
   refine⟨by rw[HF.o.2];rfl,v',?_⟩
   rw[←HF.o.1];exact HT.o
  case inl =>
   have HC:=Hd (And.intro h1 (And.intro h2 (And.intro h3 (And.intro h4 (And.intro h5 h7)))));have hgd:=(good f l' h1).1
   obtain⟨⟨k,pa,va,rs⟩,hn⟩:∃ n,n=jay (jad f) l':=⟨_,rfl⟩
   rw[←hn]at hgd h6;have HGD:=Hd hgd;have HB:=Hd h6;have HNN:=Hd hn;have hk3:k≤3:=(hgd.one (inlP f)).kind;have hrs:rs.length=16:=(hgd.one (inlP f)).refs;have hps:pa.size≤12:=(hgd.one (inlP f)).path;have HRS:=Hd hrs;have HCL:=Hd (jac.cells_len ⟨k,pa,va,rs⟩ hrs);have hE7:p.size≤1000000:=by omega
   have q0:=h6.cellL (i:=0) (v:=.int .i64 k) (by rfl);have q1:=h6.cellL (i:=1) (v:=.string pa) (by rfl);have q2:=h6.cellL (i:=2) (v:=.string va) (by rfl);have Q3:=Hd (show ∀ i r,rs[i]?=some r→wr.cell? ⟨L,3+i,none⟩=some (.string r)from fun i r hi=>h6.cellL (i:=3+i) (v:=.string r) (by
    show (_ :: _ :: _ :: rs.map Value.string)[3+i]?=_;rw[show 3+i=i+1+1+1 by omega];simp[hi]))
   clear hn hrs h1 h2 h4 h5 h6 h7 hgd;have hem:(⟨#[]⟩:ByteArray).toList.isEmpty=true:=by rw[ByteArray.toList_eq];rfl
   cases hg:goL l' p with
   | none =>
    obtain⟨s1,s2⟩:=jmD HC.o.1 HC.o.2.1 hg
    rw[←HNN.o]at s1 s2;have hwn:wayL f l' p=[]:=by
     cases f with
     | zero=>rfl
     | succ f=>exact jcV hg
    have HTA:=Hd (show T=A by rw[←HC.o.2.2.2.1,hwn,List.append_nil]);have HVV:=Hd (show V=jca ⟨k,pa,va,rs⟩ p by rw[s2,HC.o.2.2.2.2.1]);clear hwn hg s2;cases hcl:jca ⟨k,pa,va,rs⟩ p with
    | some u =>
     rw[hcl]at HVV;have HST:=Hd (jnv hcl);clear s1 hcl;rcases HST.o with⟨rfl,rfl,rfl⟩ |⟨rfl,rfl,rfl,hz⟩
     ·have q0':wr.cell? ⟨L,0,none⟩=some (.int .i64 1):=q0
      clear q0;go_wp2_with fail
      go_ret2
      refine⟨by rw[HVV.o];rfl,v',by rw[←HTA.o];exact HT.o⟩
     ·have q0':wr.cell? ⟨L,0,none⟩=some (.int .i64 3):=q0
      have hve:va.toList.isEmpty=false:=by
       rw[Bool.eq_false_iff];intro e;rw[List.isEmpty_iff,ByteArray.toList_eq]at e;exact hz (by rw[←jbb,e];rfl)
      clear q0;go_wp2_with fail
      go_ret2
      refine⟨by rw[HVV.o];rfl,v',by rw[←HTA.o];exact HT.o⟩
    | none =>
     rw[hcl]at HVV;have HNO:=Hd (jnx HGD.o HC.o.2.1 s1 hcl);clear s1 hcl;rcases HNO.o with rfl |⟨rfl,hne⟩ |⟨rfl,hpre⟩ |⟨rfl,rfl,rfl⟩ |⟨rfl,x,t,hx,hr⟩
     ·have q0':wr.cell? ⟨L,0,none⟩=some (.int .i64 0):=q0
      clear q0;go_wp2_with fail
      refine (jda _).mono ?_;rintro e w2 ⟨rfl,hE⟩;have HE2:Hid (Ext wr w2):=Hd (by first | exact hE | exact (jdM _ _).trans hE);clear hE;go_wp2_with fail
      refine (jdP w2).mono ?_;rintro e w3 ⟨rfl,hE⟩;have HE3:=Hd (HE2.o.trans hE);have hB3:=HB.o.keeps HE3.o (fun h=>h);clear hE HE2;unfold jac.V;go_wp2_with (refine jaf (vs:=jav.cells) rfl rfl rfl rfl hB3 (by rw[HCL.o];rfl) (by first | exact Tryz.szNode |(rw[HCL.o];exact Tryz.szNode)) jav.one ?_;intro W8 hB8 hE8)
      go_roundw
      case rel=>exact⟨_,T,v',rfl,(HT.o.ext HE3.o).fill hE8 HLN.o.1 HOW.o HLW.o,HOW.o,.inr ⟨rfl,HTA.o,HVV.o⟩⟩
      case measure=>simp[foM]
     ·have q0':wr.cell? ⟨L,0,none⟩=some (.int .i64 1):=q0
      have hne:=jcP hne;clear q0;go_wp2_with fail
      refine (jda _).mono ?_;rintro e w2 ⟨rfl,hE⟩;have HE2:Hid (Ext wr w2):=Hd (by first | exact hE | exact (jdM _ _).trans hE);clear hE;go_wp2_with fail
      refine (jdP w2).mono ?_;rintro e w3 ⟨rfl,hE⟩;have HE3:=Hd (HE2.o.trans hE);have hB3:=HB.o.keeps HE3.o (fun h=>h);clear hE HE2;unfold jac.V;go_wp2_with (refine jaf (vs:=jav.cells) rfl rfl rfl rfl hB3 (by rw[HCL.o];rfl) (by first | exact Tryz.szNode |(rw[HCL.o];exact Tryz.szNode)) jav.one ?_;intro W8 hB8 hE8)
      go_roundw
      case rel=>exact⟨_,T,v',rfl,(HT.o.ext HE3.o).fill hE8 HLN.o.1 HOW.o HLW.o,HOW.o,.inr ⟨rfl,HTA.o,HVV.o⟩⟩
      case measure=>simp[foM]
     ·have q0':wr.cell? ⟨L,0,none⟩=some (.int .i64 2):=q0
      have HPR:=Hd hpre;clear q0 hpre;go_wp2_with fail
      refine (jer _ p pa (by omega) (by omega)).mono ?_;rintro e w1' ⟨rfl,hw1⟩;rw[hw1];clear hw1;rw[HPR.o];go_wp2_with fail
      refine (jda _).mono ?_;rintro e w2 ⟨rfl,hE⟩;have HE2:Hid (Ext wr w2):=Hd (by first | exact hE | exact (jdM _ _).trans hE);clear hE;go_wp2_with fail
      refine (jdP w2).mono ?_;rintro e w3 ⟨rfl,hE⟩;have HE3:=Hd (HE2.o.trans hE);have hB3:=HB.o.keeps HE3.o (fun h=>h);clear hE HE2;unfold jac.V;go_wp2_with (refine jaf (vs:=jav.cells) rfl rfl rfl rfl hB3 (by rw[HCL.o];rfl) (by first | exact Tryz.szNode |(rw[HCL.o];exact Tryz.szNode)) jav.one ?_;intro W8 hB8 hE8)
      go_roundw
      case rel=>exact⟨_,T,v',rfl,(HT.o.ext HE3.o).fill hE8 HLN.o.1 HOW.o HLW.o,HOW.o,.inr ⟨rfl,HTA.o,HVV.o⟩⟩
      case measure=>simp[foM]
     ·have q0':wr.cell? ⟨L,0,none⟩=some (.int .i64 3):=q0
      clear q0;go_wp2_with fail
      refine (jda _).mono ?_;rintro e w2 ⟨rfl,hE⟩;have HE2:Hid (Ext wr w2):=Hd (by first | exact hE | exact (jdM _ _).trans hE);clear hE;go_wp2_with fail
      refine (jdP w2).mono ?_;rintro e w3 ⟨rfl,hE⟩;have HE3:=Hd (HE2.o.trans hE);have hB3:=HB.o.keeps HE3.o (fun h=>h);clear hE HE2;unfold jac.V;go_wp2_with (refine jaf (vs:=jav.cells) rfl rfl rfl rfl hB3 (by rw[HCL.o];rfl) (by first | exact Tryz.szNode |(rw[HCL.o];exact Tryz.szNode)) jav.one ?_;intro W8 hB8 hE8)
      go_roundw
      case rel=>exact⟨_,T,v',rfl,(HT.o.ext HE3.o).fill hE8 HLN.o.1 HOW.o HLW.o,HOW.o,.inr ⟨rfl,HTA.o,HVV.o⟩⟩
      case measure=>simp[foM]
     ·have q0':wr.cell? ⟨L,0,none⟩=some (.int .i64 3):=q0
      obtain⟨h0,hx0⟩:=jeH hx
      have hx16:x.toNat < 16:=jde (p:=(p,p)) HC.o.2.1 hx;have q3:=Q3.o _ _ hr;rw[←hx0]at q3 hx16;have hpe:p.toList.isEmpty=false:=by
       rw[Bool.eq_false_iff];intro e;rw[List.isEmpty_iff,ByteArray.toList_eq]at e;rw[hx]at e;cases e
      have c1:(0:Int) < (p.size:Int):=by omega
      have c2:((p[0]'h0).toNat:Int) < 16:=by omega
      have c3:(1:Int)≤(p.size:Int):=by omega
      clear q0 hx hr hx0;go_wp2_with fail
      go_quiet (fail)
      go_wp2_with fail
      refine (jda _).mono ?_;rintro e w2 ⟨rfl,hE⟩;have HE2:Hid (Ext wr w2):=Hd (by first | exact hE | exact (jdM _ _).trans hE);clear hE;go_wp2_with fail
      refine (jdP w2).mono ?_;rintro e w3 ⟨rfl,hE⟩;have HE3:=Hd (HE2.o.trans hE);have hB3:=HB.o.keeps HE3.o (fun h=>h);clear hE HE2;unfold jac.V;go_wp2_with (refine jaf (vs:=jav.cells) rfl rfl rfl rfl hB3 (by rw[HCL.o];rfl) (by first | exact Tryz.szNode |(rw[HCL.o];exact Tryz.szNode)) jav.one ?_;intro W8 hB8 hE8)
      go_roundw
      case rel=>exact⟨_,T,v',rfl,(HT.o.ext HE3.o).fill hE8 HLN.o.1 HOW.o HLW.o,HOW.o,.inr ⟨rfl,HTA.o,HVV.o⟩⟩
      case measure=>simp[foM]
   | some mq =>
    obtain⟨m,q⟩:=mq
    cases f with
    | zero=>rw[jkT HC.o.1]at hg;cases hg
    | succ f =>
     have hK:=jgb HC.o.1 HC.o.2.1 hg;have hst:=(good f m hK.rows).2.1 hK.ne;have hpos:=jjJ hK.rows hK.ne;have hstep:=hK.step;rw[←HNN.o]at hstep;have hy:=jh0 HGD.o HC.o.2.1 hstep hpos;have hway:=jeb (f:=f) hg
     obtain⟨tx,htx⟩:∃ tx,tx=(jad (f+1) m).text:=⟨_,rfl⟩
     obtain⟨m',hm'⟩:∃ m',m'=jay (jad f) m:=⟨_,rfl⟩
     obtain⟨rt,hrt⟩:∃ rt,rt=refB (jad (f+1) m).text:=⟨_,rfl⟩
     have HMM:=Hd hm';have HMG:=Hd (show jbj (InlD f) m' by rw[hm'];exact hst.good);have HML:=Hd (m'.cells_len (HMG.o.one (inlP f)).refs);have HTX:=Hd (show tx=jaH m' by rw[htx,hm'];exact hst.text);rw[←hrt]at hy;have HY:=Hd hy;have HK2:=Hd hK;have HTN:=Hd (show T.length≤100000 by have h8:=congrArg List.length HC.o.2.2.2.1;rw[HA.o,List.length_append,List.length_cons]at h8;have:=jjQ 12 (ja3 l) (jbe key);omega)
     by_cases hz:(jad (f+1) m).text.size < 32
     ·have hI:=hst.may.2 hz
      obtain⟨qh,h1,h2⟩:=(inlP (f+1)).nohash _ _ hI
      rw[←hrt]at h1 h2 hI;have HH:=Hd (And.intro h1 h2);have HRZ:=Hd (show rt.size≤1000000000 by rw[hrt,jhe hz];omega);have HIN:=Hd (fun w=>(inlP (f+1)).inl _ _ hI w);rw[←hm']at HIN;have HWY:=Hd (show wayL (f+1) l' p=wayL f m q by rw[hway];unfold bigs;rw[if_pos hz];rfl);clear hK hst hpos hstep hy hway htx hm' hrt hI h1 h2 hz hg;rcases HY.o with⟨rfl,hpre,hr,rfl,hle⟩ |⟨rfl,x,t,hx,hr,rfl⟩
      ·have q0':wr.cell? ⟨L,0,none⟩=some (.int .i64 2):=q0
       have HPR:=Hd hpre;have q3:=Q3.o 0 _ hr;have c1:(pa.size:Int)≤(p.size:Int):=by omega
       clear q0 hpre hr hle;go_wp2_with fail
       refine (jer _ p pa (by omega) (by omega)).mono ?_;rintro e w1' ⟨rfl,hw1⟩;rw[hw1];clear hw1;rw[HPR.o];go_wp2_with fail
       go_quiet (fail)
       go_wp2_with fail
       refine (jcT _ rt qh HRZ.o HH.o.1).mono ?_;rintro e w2 ⟨rfl,hE⟩;rw[HH.o.2];have HE2:Hid (Ext wr w2):=Hd (by first | exact hE | exact (jdM _ _).trans hE);clear hE;unfold optV;go_wp2_with fail
       refine (HIN.o w2).mono ?_;rintro e w3 ⟨rfl,hE⟩;have HE3:=Hd (HE2.o.trans hE);have hB3:=HB.o.keeps HE3.o (fun h=>h);clear hE HE2;unfold jac.V;go_wp2_with (refine jaf (vs:=m'.cells) rfl rfl rfl rfl hB3 (by rw[HCL.o,HML.o]) (by rw[HML.o];exact Tryz.szNode) m'.one ?_;intro W8 hB8 hE8)
       go_roundw
       case rel=>exact⟨_,T,v',rfl,(HT.o.ext HE3.o).fill hE8 HLN.o.1 HOW.o HLW.o,HOW.o,.inl ⟨rfl,f,m,HK2.o.rows,HK2.o.valid,by have:=HK2.o.less;have:=HC.o.2.2.1;omega,by rw[←HWY.o];exact HC.o.2.2.2.1,by rw[HK2.o.find];exact HC.o.2.2.2.2.1,by rw[←HMM.o];exact hB8,fun x hx h32=>HC.o.2.2.2.2.2 x (HK2.o.flat x hx h32) h32⟩⟩
       case measure=>have h9:=HK2.o.less;simp only[foM,jfB];omega
      ·have q0':wr.cell? ⟨L,0,none⟩=some (.int .i64 3):=q0
       obtain⟨h0,hx0⟩:=jeH hx
       have hx16:x.toNat < 16:=jde (p:=(p,p)) HC.o.2.1 hx;have q3:=Q3.o _ _ hr;rw[←hx0]at q3 hx16;have hpe:p.toList.isEmpty=false:=by
        rw[Bool.eq_false_iff];intro e;rw[List.isEmpty_iff,ByteArray.toList_eq]at e;rw[hx]at e;cases e
       have c1:(0:Int) < (p.size:Int):=by omega
       have c2:((p[0]'h0).toNat:Int) < 16:=by omega
       have c3:(1:Int)≤(p.size:Int):=by omega
       clear q0 hx hr hx0;go_wp2_with fail
       go_quiet (fail)
       go_wp2_with fail
       refine (jcT _ rt qh HRZ.o HH.o.1).mono ?_;rintro e w2 ⟨rfl,hE⟩;rw[HH.o.2];have HE2:Hid (Ext wr w2):=Hd (by first | exact hE | exact (jdM _ _).trans hE);clear hE;unfold optV;go_wp2_with fail
       refine (HIN.o w2).mono ?_;rintro e w3 ⟨rfl,hE⟩;have HE3:=Hd (HE2.o.trans hE);have hB3:=HB.o.keeps HE3.o (fun h=>h);clear hE HE2;unfold jac.V;go_wp2_with (refine jaf (vs:=m'.cells) rfl rfl rfl rfl hB3 (by rw[HCL.o,HML.o]) (by rw[HML.o];exact Tryz.szNode) m'.one ?_;intro W8 hB8 hE8)
       go_roundw
       case rel=>exact⟨_,T,v',rfl,(HT.o.ext HE3.o).fill hE8 HLN.o.1 HOW.o HLW.o,HOW.o,.inl ⟨rfl,f,m,HK2.o.rows,HK2.o.valid,by have:=HK2.o.less;have:=HC.o.2.2.1;omega,by rw[←HWY.o];exact HC.o.2.2.2.1,by rw[HK2.o.find];exact HC.o.2.2.2.2.1,by rw[←HMM.o];exact hB8,fun x hx h32=>HC.o.2.2.2.2.2 x (HK2.o.flat x hx h32) h32⟩⟩
       case measure=>have h9:=HK2.o.less;simp only[foM,jfB];omega
     ·obtain⟨qh,h1,h2⟩:=jcI (shaB tx) (jbK _)
      have hrt2:rt=jam (shaB tx):=by rw[hrt,jhQ hz,htx]
      rw[←hrt2]at h1 h2;have HH:=Hd (And.intro h1 h2);have HRZ:=Hd (show rt.size≤1000000000 by rw[hrt2];have:=jaC (shaB tx);have:=jbK tx;omega);have HWY:=Hd (show wayL (f+1) l' p=tx :: wayL f m q by rw[hway,htx];unfold bigs;rw[if_neg hz];rfl);have HHS:=Hd (show HasS S tx from HC.o.2.2.2.2.2 tx (by rw[htx];exact hK.flat _ (jfQ _) (by omega)) (by rw[htx];omega));clear hK hst hpos hstep hy hway htx hm' hrt h1 h2 hz hg hrt2;rcases HY.o with⟨rfl,hpre,hr,rfl,hle⟩ |⟨rfl,x,t,hx,hr,rfl⟩
      ·have q0':wr.cell? ⟨L,0,none⟩=some (.int .i64 2):=q0
       have HPR:=Hd hpre;have q3:=Q3.o 0 _ hr;have c1:(pa.size:Int)≤(p.size:Int):=by omega
       clear q0 hpre hr hle;go_wp2_with fail
       refine (jer _ p pa (by omega) (by omega)).mono ?_;rintro e w1' ⟨rfl,hw1⟩;rw[hw1];clear hw1;rw[HPR.o];go_wp2_with fail
       go_quiet (fail)
       go_wp2_with fail
       refine (jcT _ rt qh HRZ.o HH.o.1).mono ?_;rintro e w2 ⟨rfl,hE⟩;rw[HH.o.2];have HE2:Hid (Ext wr w2):=Hd (by first | exact hE | exact (jdM _ _).trans hE);have HT2:=Hd (HT.o.ext HE2.o);clear hE;unfold optV;go_wp2_with fail
       refine (jpK w0 w2 s bm room S HS.o (HE.o.trans HE2.o) g v' T HT2.o.at' (by have:=HTN.o;omega) tx HHS.o f m' HMG.o HTX.o).mono ?_;rintro e w3 ⟨rfl,v3,hT3⟩;have hB3:=hT3.blk (HB.o.keeps HE2.o (fun h=>h)) HLN.o.1 HOW.o;have HOW3:=Hd (show v3.ownBlock≠some L from fun e=>by
        rcases hT3.sub L e with e | e
        ·exact HOW.o e
        ·have:=HB.o.lt;have:=HE2.o.size;omega)
       have HT3:=Hd (HT2.o.trans hT3);clear hT3 HE2 HT2;unfold jac.V;go_wp2_with (refine jaf (vs:=m'.cells) rfl rfl rfl rfl hB3 (by rw[HCL.o,HML.o]) (by rw[HML.o];exact Tryz.szNode) m'.one ?_;intro W8 hB8 hE8)
       go_roundw
       case rel=>exact⟨_,_,v3,rfl,HT3.o.fill hE8 HLN.o.1 HOW3.o HLW.o,HOW3.o,.inl ⟨rfl,f,m,HK2.o.rows,HK2.o.valid,by have:=HK2.o.less;have:=HC.o.2.2.1;omega,by have h9:=HC.o.2.2.2.1;rw[HWY.o]at h9;rw[List.append_assoc];exact h9,by rw[HK2.o.find];exact HC.o.2.2.2.2.1,by rw[←HMM.o];exact hB8,fun x hx h32=>HC.o.2.2.2.2.2 x (HK2.o.flat x hx h32) h32⟩⟩
       case measure=>have h9:=HK2.o.less;simp only[foM,jfB];omega
      ·have q0':wr.cell? ⟨L,0,none⟩=some (.int .i64 3):=q0
       obtain⟨h0,hx0⟩:=jeH hx
       have hx16:x.toNat < 16:=jde (p:=(p,p)) HC.o.2.1 hx;have q3:=Q3.o _ _ hr;rw[←hx0]at q3 hx16;have hpe:p.toList.isEmpty=false:=by
        rw[Bool.eq_false_iff];intro e;rw[List.isEmpty_iff,ByteArray.toList_eq]at e;rw[hx]at e;cases e
       have c1:(0:Int) < (p.size:Int):=by omega
       have c2:((p[0]'h0).toNat:Int) < 16:=by omega
       have c3:(1:Int)≤(p.size:Int):=by omega
       clear q0 hx hr hx0;go_wp2_with fail
       go_quiet (fail)
       go_wp2_with fail
       refine (jcT _ rt qh HRZ.o HH.o.1).mono ?_;rintro e w2 ⟨rfl,hE⟩;rw[HH.o.2];have HE2:Hid (Ext wr w2):=Hd (by first | exact hE | exact (jdM _ _).trans hE);have HT2:=Hd (HT.o.ext HE2.o);clear hE;unfold optV;go_wp2_with fail
       refine (jpK w0 w2 s bm room S HS.o (HE.o.trans HE2.o) g v' T HT2.o.at' (by have:=HTN.o;omega) tx HHS.o f m' HMG.o HTX.o).mono ?_;rintro e w3 ⟨rfl,v3,hT3⟩;have hB3:=hT3.blk (HB.o.keeps HE2.o (fun h=>h)) HLN.o.1 HOW.o;have HOW3:=Hd (show v3.ownBlock≠some L from fun e=>by
        rcases hT3.sub L e with e | e
        ·exact HOW.o e
        ·have:=HB.o.lt;have:=HE2.o.size;omega)
       have HT3:=Hd (HT2.o.trans hT3);clear hT3 HE2 HT2;unfold jac.V;go_wp2_with (refine jaf (vs:=m'.cells) rfl rfl rfl rfl hB3 (by rw[HCL.o,HML.o]) (by rw[HML.o];exact Tryz.szNode) m'.one ?_;intro W8 hB8 hE8)
       go_roundw
       case rel=>exact⟨_,_,v3,rfl,HT3.o.fill hE8 HLN.o.1 HOW3.o HLW.o,HOW3.o,.inl ⟨rfl,f,m,HK2.o.rows,HK2.o.valid,by have:=HK2.o.less;have:=HC.o.2.2.1;omega,by have h9:=HC.o.2.2.2.1;rw[HWY.o]at h9;rw[List.append_assoc];exact h9,by rw[HK2.o.find];exact HC.o.2.2.2.2.1,by rw[←HMM.o];exact hB8,fun x hx h32=>HC.o.2.2.2.2.2 x (HK2.o.flat x hx h32) h32⟩⟩
       case measure=>have h9:=HK2.o.less;simp only[foM,jfB];omega
def wayN(l:List Pair)(key:ByteArray):List ByteArray:=(ja5 l).text :: wayL 12 (ja3 l) (jbe key)
def jq3(N:List ByteArray)(w:World)(e:Ending)(w':World):Prop:=∃ a c,e=.returned (.tuple #[.slice a N.length c,.int .i64 0])∧SRow w w' (.slice a N.length c) N.length N
theorem ORow.since{T:TypeId}{sz:Nat}{w0 w1 w:World}{v:Value}{n:Nat}{xs:List Value}(h:ORow T sz w1 w v n xs)(e:Ext w0 w1):ORow T sz w0 w v n xs:=⟨h.sl,h.own,e.trans h.ext,fun b hb=>Nat.le_trans e.size (h.new b hb)⟩
theorem jqk(W:World)(s bm:Nat)(room:Int)(S:List Nd5)(hs:jbo W s bm room S)(l:List Pair)(hM:HasM S l)(key:ByteArray)(hk:key.size≤1000) :
  Calls Tryz.prog 20 #[.pointer (some ⟨s,0,none⟩),.string (shaB (ja5 l).text),.string key] W (jq3 (wayN l key) W):=by
 obtain⟨k0,hk0⟩:∃ k,k=shaB (ja5 l).text:=⟨_,rfl⟩
 have HK0:=Hd hk0;have HS:=Hd hs;have HM:=Hd hM;have HK:=Hd hk
 obtain⟨N,hN⟩:∃ N,N=wayN l key:=⟨_,rfl⟩
 have HN:=Hd hN;rw[←hk0, ←hN];clear hk0 hs hM hk hN;go_enter Tryz.func20,Tryz.ntmps20;go_wp2_with fail
 have hE:Ext W (W.alloc (.cells #[.slice none 0 0] 34)):=(ExtR W).alloc _;have hB:=Blk.new W (.cells #[.slice none 0 0] 34);have hM0:je3 W.heap.size W.heap.size (.slice none 0 0) [] (W.alloc (.cells #[.slice none 0 0] 34)):=⟨Nat.le_refl _,hB,⟨0,rfl,.inl ⟨rfl,rfl⟩⟩,fun b hb=>by cases hb⟩;have hF:=jmA W _ s bm room S HS.o hE W.heap.size (.slice none 0 0) hM0 l HM.o key HK.o;rw[←HK0.o]at hF;have HM0:=Hd hM0;have HE:=Hd hE
 obtain⟨V,hV⟩:∃ V,V=valL (ja3 l) (jbe key):=⟨_,rfl⟩
 rw[←hV]at hF;clear hB hM0 hE hV;refine hF.mono ?_;rintro e w2 ⟨rfl,v',hT⟩;have HT:=Hd hT
 obtain⟨n,hn⟩:=hT.at'.row
 have hn2:n=(wayN l key).length:=by have:=hn.1;simpa [wayN]using this.symm
 subst hn2
 obtain⟨a,c,hv'⟩:=ja1 hn
 have q:=hT.at'.var.cell (i:=0) (v:=v') (by rfl);have HO:=Hd hn;have hfin:SRow W w2 v' (wayN l key).length (wayN l key):=⟨⟨a,c,hv'⟩,hn,hT.ext0 HM0.o HE.o (Nat.le_refl _),fun b hb=>(hT.at'.own b hb).1⟩;have HF:=Hd hfin;subst hv';rw[←HN.o]at q HF;clear hF hT hn hfin HO HT;cases V with
 | none =>
  unfold folV;go_wp2_with fail
  go_ret2
  exact⟨_,_,rfl,HF.o⟩
 | some u =>
  unfold folV;go_wp2_with fail
  go_ret2
  exact⟨_,_,rfl,HF.o⟩
theorem jik(W:World)(s bm:Nat)(room:Int)(S:List Nd5)(hs:jbo W s bm room S)(l:List Pair)(hM:HasM S l)(key:ByteArray)(hk:key.size≤1000) :
  Calls Tryz.prog 50 #[.pointer (some ⟨s,0,none⟩),.string (shaB (ja5 l).text),.string key] W (jq3 (wayN l key) W):=by
 obtain⟨y,hy1,hy2⟩:=hM.has _ (jfQ _)
 have hsg:=jnt W s bm room S (shaB (ja5 l).text) hs;have hy1:atL S (shaB (ja5 l).text).data.toList=some y:=hy1;rw[hy1]at hsg;simp only[Option.map_some,optV]at hsg;have HSG:=Hd hsg
 obtain⟨N,hN⟩:∃ N,N=wayN l key:=⟨_,rfl⟩
 have HP:=Hd (fun w (e:Ext W w)=>jqk w s bm room S (hs.ext e) l hM key hk)
 obtain⟨k0,hk0⟩:∃ k,k=shaB (ja5 l).text:=⟨_,rfl⟩
 rw[←hk0, ←hN]at HP;rw[←hk0]at HSG ⊢;rw[←hN];clear hk0 hs hM hk hsg hy1 hy2 hN;go_enter Tryz.func50,Tryz.ntmps50;go_wp2_with fail
 refine HSG.o.mono ?_;rintro e w1 ⟨rfl,hE⟩;have HE:=Hd hE;clear hE;go_wp2_with fail
 refine (HP.o w1 HE.o).mono ?_;rintro e w2 ⟨a,c,rfl,hR⟩;have HR:=Hd hR;clear hR;go_wp2_with fail
 go_ret2
 exact⟨_,_,rfl,HR.o.since HE.o⟩
theorem jk0(W:World)(s bm:Nat)(room:Int)(S:List Nd5)(hs:jbo W s bm room S)(root key:ByteArray)(hH:atL S root.data.toList=none) :
  Calls Tryz.prog 50 #[.pointer (some ⟨s,0,none⟩),.string root,.string key] W fun e w'=>e=.returned (.tuple #[.slice none 0 0,.int .i64 4])∧Ext W w':=by
 have hsg:=jnt W s bm room S root hs;rw[hH]at hsg;simp only[Option.map_none,optV]at hsg;have HSG:=Hd hsg;clear hs hsg hH;go_enter Tryz.func50,Tryz.ntmps50;go_wp2_with fail
 refine HSG.o.mono ?_;rintro e w1 ⟨rfl,hE⟩;have HE:=Hd hE;clear hE;go_wp2_with fail
 go_ret2
 exact⟨rfl,HE.o⟩
def prfE:Value:=.iface 27 (.int .i64 10)
def ErrW(z:Nat)(W:World)(v:Value):Prop:=∃ (b:Nat) (k:Int),v=.iface 211 (.pointer (some ⟨b,0,none⟩))∧Blk W b (.cells #[.int .i64 k,prfE] 213)∧z≤b
def jbn(W:World)(wb:Nat)(root:ByteArray)(v:Value)(u:Nat)(ev:Value):Prop:=Blk W wb (.cells #[.string root,v,.int .i64 (u:Int),ev] 215)
def jr6(W:World)(wb:Nat)(root:ByteArray)(v:Value)(u:Nat)(e:Ending)(w':World):Prop:=e=.returned (.tuple #[])∧∃ ev,ErrW W.heap.size w' ev∧jbn w' wb root v u ev∧jag (fun b=>b=wb) W w'
theorem jj8(W:World)(wb:Nat)(root:ByteArray)(v:Value)(u:Nat)(ev:Value)(h:jbn W wb root v u ev) :
  Calls Tryz.prog 153 #[.pointer (some ⟨wb,0,none⟩)] W (jr6 W wb root v u):=by
 unfold jbn at h;have q2:=h.cell (i:=2) (v:=.int .i64 (u:Int)) (by rfl);have hlt:=h.lt;have hne:W.heap.size≠wb:=by omega
 have hB:=Blk.new W (.cells #[.int .i64 (u:Int),prfE] 213);have hA:=h.alloc (.cells #[.int .i64 (u:Int),prfE] 213);have f3:(W.alloc (.cells #[.int .i64 (u:Int),prfE] 213)).frozen? ⟨wb,3,none⟩=false:=hA.frozen;have q3:=hA.cell (i:=3) (v:=ev) (by rfl);unfold prfE at f3 q3;have HB:=Hd hB;have HA:=Hd hA;have HN:=Hd hne;clear h hB hA hlt hne;go_enter Tryz.func153,Tryz.ntmps153;go_wp2_with fail
 refine bodyPost_end (results_none rfl _ _ _) rfl ?_
 refine⟨rfl,.iface 211 (.pointer (some ⟨W.heap.size,0,none⟩)),⟨W.heap.size,u,rfl,HB.o.set_other (p:=⟨wb,3,none⟩) (by exact HN.o) _,Nat.le_refl _⟩,HA.o.set_same (i:=3) _,?_⟩
 exact (((ExtR W).alloc _).mono (fun _ _ h=>h.elim):jag (fun b=>b=wb) W _).trans (jag.oneSet _ ⟨wb,3,none⟩ _)
end
section
open Go Go.RowKit
end
section
open Go Go.RowKit
attribute [local go_sem] Oper.semAt_some
def ErrT(w:World):Prop:=w.cell? ⟨1,0,none⟩=some (.iface 269 (.agg #[.pointer (some ⟨3,162,none⟩)]))
theorem ErrT.ext{w w':World}(h:ErrT w)(k:Ext w w'):ErrT w':=jab h k
noncomputable def takeN(nodes:List ByteArray)(u:Nat)(hash:ByteArray):Option jac:=match nodes[u]? with | none=>none | some t=>if shaB t=hash then getN t else none
def jc5(W0:World)(nodes:List ByteArray):Prop:=∀ t∈nodes,(∃ n,jbN t n)∨(ErrT W0∧∀ w,ErrT w→Calls Tryz.prog 97 #[.string t] w (jpw w))
theorem jc5.ext{W0 W:World}{nodes:List ByteArray}(h:jc5 W0 nodes)(e:Ext W0 W):jc5 W nodes:=fun t ht=>(h t ht).imp id fun h=>⟨h.1.ext e,h.2⟩
theorem jp5{W0:World}{nodes:List ByteArray}(h:jc5 W0 nodes){t:ByteArray}(ht:t∈nodes):∃ (m:jac) (c:Int),m.refs.length=16∧(∀ w,Ext W0 w→Calls Tryz.prog 97 #[.string t] w fun e w'=>e=.returned (.tuple #[m.V,.int .i64 c])∧Ext w w')∧((c=0∧getN t=some m)∨(c=2∧getN t=none)):=by
 by_cases hn:∃ n,jbN t n
 ·obtain⟨n,hn'⟩:=hn
  have hi:=jcc hn'
  obtain⟨h1,f,h2⟩:=hi
  refine⟨nodeOf t,0,(h2.one (inlP f)).refs,fun w _=>?_,.inl ⟨rfl,by unfold getN;rw[if_pos ⟨n,hn'⟩]⟩⟩
  have:=jg4 (inlP f) w (nodeOf t) h2
  rwa [←h1]at this
 ·refine⟨jav,2,rfl,fun w e=>?_,.inr ⟨rfl,jp4 hn⟩⟩
  rcases h t ht with h | h
  ·exact absurd h hn
  ·exact h.2 w (h.1.ext e)
theorem Tryz.enterOf11:∀ args w,(callFunc 82 args).run Tryz.prog w=.ok (.enter 82 args) w:=fun _ _=>by kernel_rfl
theorem Tryz.enterGet11:∀ args w,(callFunc 97 args).run Tryz.prog w=.ok (.enter 97 args) w:=fun _ _=>by kernel_rfl
theorem jfq{P:Program}{o:Oper}{a:Act}{w:World}{K:Act→World→Prop}{Q:Exit→Act→World→Prop}{T:TypeId}{cs:List Value}(hrun:∀ w,(Instr.alloc T true (.tuple #[])).run P w=.ok (.pointer (some ⟨w.heap.size,0,none⟩)) (w.alloc (.cells cs.toArray T)))(ho:o.op=.alloc T)
  (h:∀ W,Blk W w.heap.size (.cells cs.toArray T)→Ext w W→K (a.put o.dst (.pointer (some ⟨w.heap.size,0,none⟩))) W):o.wp P a w K Q:=
 jcp (v:=.pointer (some ⟨w.heap.size,0,none⟩)) (w':=w.alloc (.cells cs.toArray T)) (by simp only[execOp,ho,Sem.run_bind,hrun,Result.andThen,Sem.run_pure]) (h _ (Blk.new w _) ((ExtR w).alloc _))
structure PrB(W0 W:World)(wb:Nat)(v:Value)(nodes:List ByteArray):Prop where
 cubes:jbO W0
 rd:RdS W0 v nodes
 ext:Ext W0 W
 lo:W0.heap.size≤wb
 few:nodes.length≤1000000
 get:jc5 W0 nodes
theorem PrB.mono{W0 W W':World}{wb:Nat}{v:Value}{nodes:List ByteArray}(h:PrB W0 W wb v nodes)(e:jag (fun b=>b=wb) W W'):PrB W0 W' wb v nodes:=
 ⟨h.cubes,h.rd,h.ext.trans' e (fun x hx y=>by have y:x=wb:=y;have:=h.lo;omega),h.lo,h.few,h.get⟩
theorem PrB.grow{W0 W W':World}{wb:Nat}{v:Value}{nodes:List ByteArray}(h:PrB W0 W wb v nodes)(e:Ext W W'):PrB W0 W' wb v nodes:=h.mono (e.mono (fun _ _ h=>h.elim))
def jji(W:World)(wb:Nat)(root:ByteArray)(v:Value)(u:Nat)(ev:Value)(r:Option jac)(e:Ending)(w':World):Prop:=
 jag (fun b=>b=wb) W w'∧match r with
  | some n=>e=.returned (.tuple #[n.V,.bool true])∧jbn w' wb root v (u+1) ev∧n.refs.length=16
  | none=>e=.returned (.tuple #[jav.V,.bool false])∧∃ ev',ErrW W.heap.size w' ev'∧jbn w' wb root v u ev'
theorem ExtK{F:BSet}{a b:World}(h:Ext a b):jag F a b:=h.mono (fun _ _ h=>h.elim)
theorem jo2(W0 W:World)(wb:Nat)(root:ByteArray)(v:Value)(nodes:List ByteArray)(u:Nat)(ev:Value)(hash:ByteArray)(hB:PrB W0 W wb v nodes)(hW:jbn W wb root v u ev)(hu:nodes[u]?=none)(hu2:u≤1000000) :
  Calls Tryz.prog 200 #[.pointer (some ⟨wb,0,none⟩),.string hash] W (jji W wb root v u ev none):=by
 obtain⟨a,c,hv⟩:∃ a c,v=.slice a nodes.length c:=by
  rcases hB.rd with⟨a,c,h1,h2⟩ |⟨b,o,c,h1,_⟩
  ·exact⟨a,c,by rw[h1,h2];rfl⟩
  ·exact⟨_,c,h1⟩
 unfold jbn at hW;have hul:nodes.length≤u:=List.getElem?_eq_none_iff.1 hu;have q1:=hW.cell (i:=1) (v:=v) (by rfl);have q2:=hW.cell (i:=2) (v:=.int .i64 (u:Int)) (by rfl);have HLT:=Hd hW.lt;have HW:=Hd hW;have HB:=Hd hB
 obtain⟨n,hn⟩:∃ n,n=nodes.length:=⟨_,rfl⟩
 rw[←hn]at hv hul;have c1:(n:Int)≤(u:Int):=by omega
 have HV:=Hd hv;clear hB hW hu hn hv;go_enter Tryz.func200,Tryz.ntmps200;go_wp2_with (refine jai Tryz.allocNode rfl rfl ?_;intro W1 hB1 hE1)
 have Q1:=Hd (jab q1 hE1);have Q2:=Hd (jab q2 hE1);have HB1:=Hd hB1;have HE1:=Hd hE1;clear hB1 hE1 q1 q2;rw[HV.o]at Q1;refine jan [0,1,2,3,4,5,6,7,8,9,10,11,12,13,14,15,16,17,18,19,20,21,22,23,24,25] Ext ExtR ExtT (by kernel_rfl) (by kernel_rfl) (by kernel_rfl) ?_
 (refine jae _ rfl (by kernel_rfl) rfl rfl (fun K hK=>?_);go_big_quiet_op;refine hK _ ?_;clear hK K)
 refine jbA _ (.pointer (some ⟨wb,0,none⟩)) rfl (by kernel_rfl) rfl (fun w1 _=>by kernel_rfl) ?_;simp only[Act.put,sA,sB,sC]
 (refine jae _ rfl (by kernel_rfl) rfl rfl (fun K hK=>?_);go_big_quiet_op;refine hK _ ?_;clear hK K)
 refine jak ⟨wb,2,none⟩ (.int .i64 (u:Int)) rfl (by kernel_rfl) rfl rfl (fun w1 h1=>jaa Tryz.underlying3 rfl (jab (by exact Q2.o) h1)) ?_;simp only[Act.put,sA,sB,sC]
 (refine jae _ rfl (by kernel_rfl) rfl rfl (fun K hK=>?_);go_big_quiet_op;refine hK _ ?_;clear hK K)
 refine jbA _ (.pointer (some ⟨wb,0,none⟩)) rfl (by kernel_rfl) rfl (fun w1 _=>by kernel_rfl) ?_;simp only[Act.put,sA,sB,sC]
 (refine jae _ rfl (by kernel_rfl) rfl rfl (fun K hK=>?_);go_big_quiet_op;refine hK _ ?_;clear hK K)
 refine jak ⟨wb,1,none⟩ (.slice a n c) rfl (by kernel_rfl) rfl rfl (fun w1 h1=>jaa Tryz.underlying34 rfl (jab (by exact Q1.o) h1)) ?_;simp only[Act.put,sA,sB,sC];iterate 3 (refine jae _ rfl (by kernel_rfl) rfl rfl (fun K hK=>?_);go_big_quiet_op;refine hK _ ?_;clear hK K)
 iterate 14 (refine jbu _ rfl (by kernel_rfl) rfl ?_;simp only[Act.put,sA,sB,sC])
 (refine jae _ rfl (by kernel_rfl) rfl rfl (fun K hK=>?_);go_big_quiet_op;refine hK _ ?_;clear hK K)
 refine jaJ (by kernel_rfl) (fun w3 h3=>?_);have h13:=(jas W1).trans h3;have HB3:=Hd (HB1.o.keeps h13 (fun h=>h));have HE3:=Hd (HE1.o.trans h13);have HW3:=Hd (show jbn w3 wb root v u ev from Blk.keeps HW.o HE3.o (fun h=>h));clear h3 h13 HB1 Q1 Q2;go_wp2_with fail
 refine (jj8 w3 wb root v u ev HW3.o).mono ?_;rintro e w4 ⟨rfl,ev',hER,hWA,hK⟩;have hB4:=HB3.o.keeps hK (fun e=>by have e:_=wb:=e;have:=HLT.o;omega);have HR4:=Hd hER;have HW4:=Hd hWA;have HK4:=Hd hK;clear hER hWA hK;go_wp2_with (refine jaf (vs:=jav.cells) rfl rfl rfl rfl hB4 rfl Tryz.szNode (jac.one _) ?_;intro W8 hB8 hE8)
 refine bodyPost_ret (jaj rfl rfl rfl (jao W8 _ jav rfl hB8)) rfl ?_;have hle:=HE3.o.size
 refine⟨((ExtK HE3.o:jag (fun b=>b=wb) W w3).trans HK4.o).trans' hE8 (fun x hx e=>by have e:x=W.heap.size:=e;omega),rfl,ev',?_,?_⟩
 ·obtain⟨b,k,h1,h2,h3⟩:=HR4.o
  exact⟨b,k,h1,h2.keeps hE8 (fun e=>by have e:b=W.heap.size:=e;have:=HB3.o.lt;omega),by omega⟩
 ·have h9:jbn w4 wb root v u ev':=HW4.o
  exact Blk.keeps h9 hE8 (fun e=>by have e:wb=W.heap.size:=e;have:=HLT.o;omega)
theorem jo1(W0 W:World)(wb:Nat)(root:ByteArray)(v:Value)(nodes:List ByteArray)(u:Nat)(ev:Value)(hash t:ByteArray)(hB:PrB W0 W wb v nodes)(hW:jbn W wb root v u ev)(hu:nodes[u]?=some t) :
  Calls Tryz.prog 200 #[.pointer (some ⟨wb,0,none⟩),.string hash] W (jji W wb root v u ev (if shaB t=hash then getN t else none)):=by
 have hul:u < nodes.length:=(List.getElem?_eq_some_iff.1 hu).1;have hlm:=hB.few
 obtain⟨b,o,c,hv,hbl,hnc,hcell⟩:∃ b o c,v=.slice (some ⟨b,o,none⟩) nodes.length c∧b < W0.heap.size∧nodes.length≤c∧∀ (j:Nat) x,nodes[j]?=some x→W0.cell? ⟨b,o+j,none⟩=some (.string x):=by
  rcases hB.rd with⟨a,c,h1,h2⟩ | h
  ·rw[h2]at hul;cases hul
  ·exact h
 obtain⟨m,gc,hm,hG,hcase⟩:=jp5 hB.get (List.mem_of_getElem? hu)
 unfold jbn at hW;have qt:=jab (hcell u t hu) hB.ext;have q1:=hW.cell (i:=1) (v:=v) (by rfl);have q2:=hW.cell (i:=2) (v:=.int .i64 (u:Int)) (by rfl);have HLT:=Hd hW.lt;have HW:=Hd hW;have HB:=Hd hB
 obtain⟨n,hn⟩:∃ n,n=nodes.length:=⟨_,rfl⟩
 rw[←hn]at hv hul hnc hlm;have c1:¬(n:Int)≤(u:Int):=by omega
 have c2:(u:Int) < (n:Int):=by omega
 have c3:(0:Int)≤(u:Int):=by omega
 have c4:decide (n≤u)=false:=decide_eq_false (by omega);have c5:(u:Int)≤1000000:=by omega
 have HV:=Hd hv;have HG:=Hd hG;have HCS:=Hd hcase;have HM:=Hd hm;have HUM:=Hd (show u≤1000000 by omega);have QTW:=Hd qt;have HBL:=Hd (show b < W.heap.size∧b≠wb from⟨Nat.lt_of_lt_of_le hbl hB.ext.size,by have:=hB.lo;omega⟩)
 obtain⟨sh,hsh⟩:∃ sh,sh=shaB t:=⟨_,rfl⟩
 obtain⟨r,hr⟩:∃ r,r=getN t:=⟨_,rfl⟩
 rw[←hr]at HCS ⊢;clear hr;have HSH:=Hd hsh;rw[←hsh];clear hB hW hu hn hv hul hlm hbl hnc hcell hG hcase hm hsh
 by_cases hs:sh=hash
 case neg =>
  rw[if_neg hs];have hsb:=jcP hs;go_enter Tryz.func200,Tryz.ntmps200;go_wp2_with (refine jai Tryz.allocNode rfl rfl ?_;intro W1 hB1 hE1)
  have Q1:=Hd (jab q1 hE1);have Q2:=Hd (jab q2 hE1);have QT:=Hd (jab qt hE1);have HB1:=Hd hB1;have HE1:=Hd hE1;clear hB1 hE1 q1 q2 qt;rw[HV.o]at Q1;refine jan [0,1,2,3,4,5,6,7,8,9,10,11,12,13,14,15,16,17,18,19,20,23,21,22,24,25] Ext ExtR ExtT (by kernel_rfl) (by kernel_rfl) (by kernel_rfl) ?_
  (refine jae _ rfl (by kernel_rfl) rfl rfl (fun K hK=>?_);go_big_quiet_op;refine hK _ ?_;clear hK K)
  refine jbA _ (.pointer (some ⟨wb,0,none⟩)) rfl (by kernel_rfl) rfl (fun w1 _=>by kernel_rfl) ?_;simp only[Act.put,sA,sB,sC]
  (refine jae _ rfl (by kernel_rfl) rfl rfl (fun K hK=>?_);go_big_quiet_op;refine hK _ ?_;clear hK K)
  refine jak ⟨wb,2,none⟩ (.int .i64 (u:Int)) rfl (by kernel_rfl) rfl rfl (fun w1 h1=>jaa Tryz.underlying3 rfl (jab (by exact Q2.o) h1)) ?_;simp only[Act.put,sA,sB,sC]
  (refine jae _ rfl (by kernel_rfl) rfl rfl (fun K hK=>?_);go_big_quiet_op;refine hK _ ?_;clear hK K)
  refine jbA _ (.pointer (some ⟨wb,0,none⟩)) rfl (by kernel_rfl) rfl (fun w1 _=>by kernel_rfl) ?_;simp only[Act.put,sA,sB,sC]
  (refine jae _ rfl (by kernel_rfl) rfl rfl (fun K hK=>?_);go_big_quiet_op;refine hK _ ?_;clear hK K)
  refine jak ⟨wb,1,none⟩ (.slice (some ⟨b,o,none⟩) n c) rfl (by kernel_rfl) rfl rfl (fun w1 h1=>jaa Tryz.underlying34 rfl (jab (by exact Q1.o) h1)) ?_;simp only[Act.put,sA,sB,sC];iterate 4 (refine jae _ rfl (by kernel_rfl) rfl rfl (fun K hK=>?_);go_big_quiet_op;refine hK _ ?_;clear hK K)
  refine jbA _ (.pointer (some ⟨wb,0,none⟩)) rfl (by kernel_rfl) rfl (fun w1 _=>by kernel_rfl) ?_;simp only[Act.put,sA,sB,sC]
  (refine jae _ rfl (by kernel_rfl) rfl rfl (fun K hK=>?_);go_big_quiet_op;refine hK _ ?_;clear hK K)
  refine jak ⟨wb,1,none⟩ (.slice (some ⟨b,o,none⟩) n c) rfl (by kernel_rfl) rfl rfl (fun w1 h1=>jaa Tryz.underlying34 rfl (jab (by exact Q1.o) h1)) ?_;simp only[Act.put,sA,sB,sC]
  (refine jae _ rfl (by kernel_rfl) rfl rfl (fun K hK=>?_);go_big_quiet_op;refine hK _ ?_;clear hK K)
  refine jbA _ (.pointer (some ⟨wb,0,none⟩)) rfl (by kernel_rfl) rfl (fun w1 _=>by kernel_rfl) ?_;simp only[Act.put,sA,sB,sC]
  (refine jae _ rfl (by kernel_rfl) rfl rfl (fun K hK=>?_);go_big_quiet_op;refine hK _ ?_;clear hK K)
  refine jak ⟨wb,2,none⟩ (.int .i64 (u:Int)) rfl (by kernel_rfl) rfl rfl (fun w1 h1=>jaa Tryz.underlying3 rfl (jab (by exact Q2.o) h1)) ?_;simp only[Act.put,sA,sB,sC]
  (refine jae _ rfl (by kernel_rfl) rfl rfl (fun K hK=>?_);go_big_quiet_op;refine hK _ ?_;clear hK K)
  refine jak ⟨b,o+u,none⟩ (.string t) rfl (by kernel_rfl) rfl rfl (fun w1 h1=>jaa Tryz.underlying9 rfl (jab (by exact QT.o) h1)) ?_;simp only[Act.put,sA,sB,sC]
  (refine jae _ rfl (by kernel_rfl) rfl rfl (fun K hK=>?_);go_big_quiet_op;refine hK _ ?_;clear hK K)
  refine jeO _ rfl (by kernel_rfl) rfl (fun w2 h2 K hK=>?_);have HX2:=Hd (show Ext W1 w2 from(jas W1).trans h2);have HRL:=Hd (jcL w2 [t] 9);clear h2;go_simp;refine hK _ _ ((ExtR w2).alloc _) ?_;clear hK K;have HX2':=Hd (show Ext W1 (w2.alloc (.cells #[.string t] 9))from HX2.o.trans ((ExtR w2).alloc _));refine jaN _ 82 _ (.string (shaB (catB [t]))) rfl (by kernel_rfl) rfl (fun w1=>jau Tryz.enterOf11 (by kernel_rfl)) (fun w4 h4=>of_t w4 _ [t] (by simp) (HRL.o.ext (by exact h4)) (HB.o.cubes.ext (HB.o.ext.trans (HE1.o.trans (HX2'.o.trans h4))))) ?_;rw[jcl, ←HSH.o];simp only[Act.put,sA,sB,sC];iterate 2 (refine jae _ rfl (by kernel_rfl) rfl rfl (fun K hK=>?_);go_big_quiet_op;refine hK _ ?_;clear hK K)
  refine jaJ (by kernel_rfl) (fun w3 h3=>?_);have h13:=HX2'.o.trans h3;have HB3:=Hd (HB1.o.keeps h13 (fun h=>h));have HE3:=Hd (HE1.o.trans h13);have HW3:=Hd (show jbn w3 wb root v u ev from Blk.keeps HW.o HE3.o (fun h=>h));clear h3 h13 HB1 Q1 Q2 QT HX2 HX2' HRL;go_wp2_with fail
  refine (jj8 w3 wb root v u ev HW3.o).mono ?_;rintro e w4 ⟨rfl,ev',hER,hWA,hK⟩;have hB4:=HB3.o.keeps hK (fun e=>by have e:_=wb:=e;have:=HLT.o;omega);have HR4:=Hd hER;have HW4:=Hd hWA;have HK4:=Hd hK;clear hER hWA hK;go_wp2_with (refine jaf (vs:=jav.cells) rfl rfl rfl rfl hB4 rfl Tryz.szNode (jac.one _) ?_;intro W8 hB8 hE8)
  refine bodyPost_ret (jaj rfl rfl rfl (jao W8 _ jav rfl hB8)) rfl ?_;have hle:=HE3.o.size
  refine⟨((ExtK HE3.o:jag (fun b=>b=wb) W w3).trans HK4.o).trans' hE8 (fun x hx e=>by have e:x=W.heap.size:=e;omega),rfl,ev',?_,?_⟩
  ·obtain⟨b,k,h1,h2,h3⟩:=HR4.o
   exact⟨b,k,h1,h2.keeps hE8 (fun e=>by have e:b=W.heap.size:=e;have:=HB3.o.lt;omega),by omega⟩
  ·have h9:jbn w4 wb root v u ev':=HW4.o
   exact Blk.keeps h9 hE8 (fun e=>by have e:wb=W.heap.size:=e;have:=HLT.o;omega)
 case pos =>
  subst hs;rw[if_pos rfl];have hsb:(sh.toList == sh.toList)=true:=by simp
  go_enter Tryz.func200,Tryz.ntmps200;go_wp2_with (refine jai Tryz.allocNode rfl rfl ?_;intro W1 hB1 hE1)
  have Q1:=Hd (jab q1 hE1);have Q2:=Hd (jab q2 hE1);have QT:=Hd (jab qt hE1);have HB1:=Hd hB1;have HE1:=Hd hE1;clear hB1 hE1 q1 q2 qt;rw[HV.o]at Q1;refine jan [0,1,2,3,4,5,6,7,8,9,10,11,12,13,14,15,16,17,18,19,20,23,21,22,24,25] Ext ExtR ExtT (by kernel_rfl) (by kernel_rfl) (by kernel_rfl) ?_
  (refine jae _ rfl (by kernel_rfl) rfl rfl (fun K hK=>?_);go_big_quiet_op;refine hK _ ?_;clear hK K)
  refine jbA _ (.pointer (some ⟨wb,0,none⟩)) rfl (by kernel_rfl) rfl (fun w1 _=>by kernel_rfl) ?_;simp only[Act.put,sA,sB,sC]
  (refine jae _ rfl (by kernel_rfl) rfl rfl (fun K hK=>?_);go_big_quiet_op;refine hK _ ?_;clear hK K)
  refine jak ⟨wb,2,none⟩ (.int .i64 (u:Int)) rfl (by kernel_rfl) rfl rfl (fun w1 h1=>jaa Tryz.underlying3 rfl (jab (by exact Q2.o) h1)) ?_;simp only[Act.put,sA,sB,sC]
  (refine jae _ rfl (by kernel_rfl) rfl rfl (fun K hK=>?_);go_big_quiet_op;refine hK _ ?_;clear hK K)
  refine jbA _ (.pointer (some ⟨wb,0,none⟩)) rfl (by kernel_rfl) rfl (fun w1 _=>by kernel_rfl) ?_;simp only[Act.put,sA,sB,sC]
  (refine jae _ rfl (by kernel_rfl) rfl rfl (fun K hK=>?_);go_big_quiet_op;refine hK _ ?_;clear hK K)
  refine jak ⟨wb,1,none⟩ (.slice (some ⟨b,o,none⟩) n c) rfl (by kernel_rfl) rfl rfl (fun w1 h1=>jaa Tryz.underlying34 rfl (jab (by exact Q1.o) h1)) ?_;simp only[Act.put,sA,sB,sC];iterate 4 (refine jae _ rfl (by kernel_rfl) rfl rfl (fun K hK=>?_);go_big_quiet_op;refine hK _ ?_;clear hK K)
  refine jbA _ (.pointer (some ⟨wb,0,none⟩)) rfl (by kernel_rfl) rfl (fun w1 _=>by kernel_rfl) ?_;simp only[Act.put,sA,sB,sC]
  (refine jae _ rfl (by kernel_rfl) rfl rfl (fun K hK=>?_);go_big_quiet_op;refine hK _ ?_;clear hK K)
  refine jak ⟨wb,1,none⟩ (.slice (some ⟨b,o,none⟩) n c) rfl (by kernel_rfl) rfl rfl (fun w1 h1=>jaa Tryz.underlying34 rfl (jab (by exact Q1.o) h1)) ?_;simp only[Act.put,sA,sB,sC]
  (refine jae _ rfl (by kernel_rfl) rfl rfl (fun K hK=>?_);go_big_quiet_op;refine hK _ ?_;clear hK K)
  refine jbA _ (.pointer (some ⟨wb,0,none⟩)) rfl (by kernel_rfl) rfl (fun w1 _=>by kernel_rfl) ?_;simp only[Act.put,sA,sB,sC]
  (refine jae _ rfl (by kernel_rfl) rfl rfl (fun K hK=>?_);go_big_quiet_op;refine hK _ ?_;clear hK K)
  refine jak ⟨wb,2,none⟩ (.int .i64 (u:Int)) rfl (by kernel_rfl) rfl rfl (fun w1 h1=>jaa Tryz.underlying3 rfl (jab (by exact Q2.o) h1)) ?_;simp only[Act.put,sA,sB,sC]
  (refine jae _ rfl (by kernel_rfl) rfl rfl (fun K hK=>?_);go_big_quiet_op;refine hK _ ?_;clear hK K)
  refine jak ⟨b,o+u,none⟩ (.string t) rfl (by kernel_rfl) rfl rfl (fun w1 h1=>jaa Tryz.underlying9 rfl (jab (by exact QT.o) h1)) ?_;simp only[Act.put,sA,sB,sC]
  (refine jae _ rfl (by kernel_rfl) rfl rfl (fun K hK=>?_);go_big_quiet_op;refine hK _ ?_;clear hK K)
  refine jeO _ rfl (by kernel_rfl) rfl (fun w2 h2 K hK=>?_);have HX2:=Hd (show Ext W1 w2 from(jas W1).trans h2);have HRL:=Hd (jcL w2 [t] 9);clear h2;go_simp;refine hK _ _ ((ExtR w2).alloc _) ?_;clear hK K;have HX2':=Hd (show Ext W1 (w2.alloc (.cells #[.string t] 9))from HX2.o.trans ((ExtR w2).alloc _));refine jaN _ 82 _ (.string (shaB (catB [t]))) rfl (by kernel_rfl) rfl (fun w1=>jau Tryz.enterOf11 (by kernel_rfl)) (fun w4 h4=>of_t w4 _ [t] (by simp) (HRL.o.ext (by exact h4)) (HB.o.cubes.ext (HB.o.ext.trans (HE1.o.trans (HX2'.o.trans h4))))) ?_;rw[jcl, ←HSH.o];simp only[Act.put,sA,sB,sC];iterate 2 (refine jae _ rfl (by kernel_rfl) rfl rfl (fun K hK=>?_);go_big_quiet_op;refine hK _ ?_;clear hK K)
  refine jaJ (by kernel_rfl) (fun w3 h3=>?_);have h13:=HX2'.o.trans h3;have HB3:=Hd (HB1.o.keeps h13 (fun h=>h));have HE3:=Hd (HE1.o.trans h13);have HW3:=Hd (show jbn w3 wb root v u ev from Blk.keeps HW.o HE3.o (fun h=>h));clear h3 h13 HB1 Q1 Q2 QT HX2 HX2' HRL;go_wp2_with fail
  have q2:=HW3.o.cell (i:=2) (v:=.int .i64 (u:Int)) (by rfl);have q1:=HW3.o.cell (i:=1) (v:=v) (by rfl);rw[HV.o]at q1;have Q1:=Hd q1;have Q2:=Hd q2;have QT:=Hd (jab QTW.o HE3.o);have NA:=Hd (show ¬ w3.heap.size≤wb by have:=HW3.o.lt;omega);have NB:=Hd (show ¬ w3.heap.size≤b by have:=HBL.o.1;have:=HE3.o.size;omega);clear q1 q2;refine jaL [0,1,2,3,4,5,6,7,8,9,10,11,12,13,14,15,16] [14,15] Ext (jag (fun b=>w3.heap.size≤b)) ExtR ExtT (fun x y z h k=>jag.trans h k) (fun x y h=>h.mono (fun _ _ h=>h.elim)) (by kernel_rfl) (by kernel_rfl) (by kernel_rfl) ?_
  (refine jaq _ rfl (by kernel_rfl) rfl rfl (fun K hK=>?_);go_big_quiet_op;refine hK _ ?_;clear hK K)
  refine jdt _ (.pointer (some ⟨wb,0,none⟩)) rfl (by kernel_rfl) rfl (fun w1 _=>by kernel_rfl) ?_;simp only[Act.put,sA,sB,sC]
  (refine jaq _ rfl (by kernel_rfl) rfl rfl (fun K hK=>?_);go_big_quiet_op;refine hK _ ?_;clear hK K)
  refine jaQ ⟨wb,1,none⟩ (.slice (some ⟨b,o,none⟩) n c) rfl (by kernel_rfl) rfl rfl (fun w1 h1=>jaa Tryz.underlying34 rfl (jaD (by exact Q1.o) h1 NA.o)) ?_;simp only[Act.put,sA,sB,sC]
  (refine jaq _ rfl (by kernel_rfl) rfl rfl (fun K hK=>?_);go_big_quiet_op;refine hK _ ?_;clear hK K)
  refine jdt _ (.pointer (some ⟨wb,0,none⟩)) rfl (by kernel_rfl) rfl (fun w1 _=>by kernel_rfl) ?_;simp only[Act.put,sA,sB,sC]
  (refine jaq _ rfl (by kernel_rfl) rfl rfl (fun K hK=>?_);go_big_quiet_op;refine hK _ ?_;clear hK K)
  refine jaQ ⟨wb,2,none⟩ (.int .i64 (u:Int)) rfl (by kernel_rfl) rfl rfl (fun w1 h1=>jaa Tryz.underlying3 rfl (jaD (by exact Q2.o) h1 NA.o)) ?_;simp only[Act.put,sA,sB,sC]
  (refine jaq _ rfl (by kernel_rfl) rfl rfl (fun K hK=>?_);go_big_quiet_op;refine hK _ ?_;clear hK K)
  refine jaQ ⟨b,o+u,none⟩ (.string t) rfl (by kernel_rfl) rfl rfl (fun w1 h1=>jaa Tryz.underlying9 rfl (jaD (by exact QT.o) h1 NB.o)) ?_;simp only[Act.put,sA,sB,sC];refine jeL _ 97 _ (.tuple #[m.V,.int .i64 gc]) rfl (by kernel_rfl) rfl (fun w1=>jau Tryz.enterGet11 (by kernel_rfl)) (fun w1 h1=>HG.o w1 (((HB.o.ext.trans HE3.o).trans (jas w3)).trans' h1 (fun x hx hw=>by have:=(HB.o.ext.trans HE3.o).size;omega))) ?_;simp only[Act.put,sA,sB,sC];iterate 3 (refine jaq _ rfl (by kernel_rfl) rfl rfl (fun K hK=>?_);go_big_quiet_op;refine hK _ ?_;clear hK K)
  refine jaV _ rfl (by kernel_rfl) rfl (fun w4 h4 K hK=>?_);have h34:=(jas w3).trans h4;refine jfq Tryz.allocNode rfl ?_;intro W5 hB5 hE5;refine hK _ _ (ExtK hE5) ?_;clear hK K h4;simp only[Act.put,sA,sB,sC];refine jaV _ rfl (by kernel_rfl) rfl (fun w6 h6 K hK=>?_);refine jcw (vs:=m.cells) rfl rfl rfl (hB5.keeps h6 (fun h=>h)) (by rw[m.cells_len HM.o];rfl) (by rw[m.cells_len HM.o];exact Tryz.szNode) m.one ?_;intro W7 hB7 hE7;have h36:=(h34.trans hE5).trans h6;have h37:=h36.trans' hE7 (fun x hx e=>by have e:x=w4.heap.size:=e;have:=h34.size;omega);refine hK _ _ (hE7.mono (fun x hx e=>by have e:x=w4.heap.size:=e;have:=h34.size;show w3.heap.size≤x;omega)) ?_;clear hK K h6 hE7;simp only[Act.put,sA,sB,sC]
  (refine jaq _ rfl (by kernel_rfl) rfl rfl (fun K hK=>?_);go_big_quiet_op;refine hK _ ?_;clear hK K)
  refine jbI (by kernel_rfl) (fun w8 h8=>?_);have HX8:=Hd (h37.trans h8);have HE8:=Hd (HE3.o.trans HX8.o);have HM8:=Hd (hB7.keeps h8 (fun h=>h));have HB8:=Hd (HB3.o.keeps HX8.o (fun h=>h));have HW8:=Hd (show jbn w8 wb root v u ev from Blk.keeps HW3.o HX8.o (fun h=>h));have HNM:=Hd (show W.heap.size < w4.heap.size∧wb < w4.heap.size by have:=h34.size;have:=HB3.o.lt;have:=HW3.o.lt;omega);clear h34 hB5 hE5 hB7 h36 h37 h8 Q1 Q2 QT NA NB HB3 HX8
  obtain⟨mb,hmb⟩:∃ mb,mb=w4.heap.size:=⟨_,rfl⟩
  rw[←hmb]at HM8 HNM ⊢;clear hmb;rcases HCS.o with⟨rfl,rfl⟩ |⟨rfl,rfl⟩
  case inr =>
   go_wp2_with fail
   refine (jj8 w8 wb root v u ev HW8.o).mono ?_;rintro e w4 ⟨rfl,ev',hER,hWA,hK⟩;have hB4:=HB8.o.keeps hK (fun e=>by have e:_=wb:=e;have:=HLT.o;omega);have HR4:=Hd hER;have HW4:=Hd hWA;have HK4:=Hd hK;clear hER hWA hK;go_wp2_with (refine jaf (vs:=jav.cells) rfl rfl rfl rfl hB4 rfl Tryz.szNode (jac.one _) ?_;intro W8 hB8 hE8)
   refine bodyPost_ret (jaj rfl rfl rfl (jao W8 _ jav rfl hB8)) rfl ?_;have hle:=HE8.o.size
   refine⟨((ExtK HE8.o:jag (fun b=>b=wb) W w8).trans HK4.o).trans' hE8 (fun x hx e=>by have e:x=W.heap.size:=e;omega),rfl,ev',?_,?_⟩
   ·obtain⟨b,k,h1,h2,h3⟩:=HR4.o
    exact⟨b,k,h1,h2.keeps hE8 (fun e=>by have e:b=W.heap.size:=e;have:=HB8.o.lt;omega),by omega⟩
   ·have h9:jbn w4 wb root v u ev':=HW4.o
    exact Blk.keeps h9 hE8 (fun e=>by have e:wb=W.heap.size:=e;have:=HLT.o;omega)
  case inl =>
   have h8w:jbn w8 wb root v u ev:=HW8.o;unfold jbn at h8w;have q2:=h8w.cell (i:=2) (v:=.int .i64 (u:Int)) (by rfl);have f2:w8.frozen? ⟨wb,2,none⟩=false:=h8w.frozen;have hM9:=HM8.o.set_other (p:=⟨wb,2,none⟩) (by have:=HNM.o;show mb≠wb;omega) (.int .i64 ((u:Int)+1));have hB9:=HB8.o.set_other (p:=⟨wb,2,none⟩) (by have:=HLT.o;show W.heap.size≠wb;omega) (.int .i64 ((u:Int)+1));clear h8w;go_wp2_with (first |(refine jah 144 (.tmp 6) rfl rfl _ _ rfl (jap _ _ m HM.o hM9) ?_) |(refine jaf (vs:=m.cells) rfl rfl rfl rfl hB9 (by rw[m.cells_len HM.o];rfl) (by rw[m.cells_len HM.o];exact Tryz.szNode) m.one ?_;intro W10 hB10 hE10))
   refine bodyPost_ret (jaj rfl rfl rfl (jao W10 _ m HM.o hB10)) rfl ?_;have h8w:jbn w8 wb root v u ev:=HW8.o
   refine⟨((ExtK HE8.o:jag (fun b=>b=wb) W w8).trans (jag.oneSet w8 ⟨wb,2,none⟩ _)).trans' hE10 (fun x hx e=>by have e:x=W.heap.size:=e;omega),rfl,?_,HM.o⟩
   have h9:=Blk.set_same (i:=2) h8w (.int .i64 ((u:Int)+1));exact Blk.keeps h9 hE10 (fun e=>by have e:wb=W.heap.size:=e;have:=HLT.o;omega)
theorem jj5(w:World)(s p:ByteArray)(hs:s.size≤1000000)(hp:p.size≤1000000):Calls Tryz.prog 234 #[.string s,.string p] w fun e w'=>e=.returned (.tuple #[.string (if preB p s then s.extract p.size s.size else s),.bool (preB p s)])∧w'=w:=by
 have key:Calls Tryz.prog 251 #[.string s,.string p] w fun e w'=>e=.returned (.tuple #[.string (if preB p s then s.extract p.size s.size else s),.bool (preB p s)])∧w'=w:=by
  obtain⟨b,hb⟩:∃ b,b=preB p s:=⟨_,rfl⟩
  have HB:=Hd hb;rw[←hb];cases b with
  | false =>
   clear hb;rw[if_neg (by simp)];go_enter Tryz.func251,Tryz.ntmps251;go_wp2_with fail
   refine (jhN w s p hs hp).mono ?_;rintro e w1 ⟨rfl,hw1⟩;rw[hw1, ←HB.o];clear hw1;go_wp2_with fail
   go_ret2
   exact⟨rfl,rfl⟩
  | true =>
   have hle:=joG hb.symm;have c1:(p.size:Int)≤(s.size:Int):=by omega
   clear hb hle;rw[if_pos rfl];go_enter Tryz.func251,Tryz.ntmps251;go_wp2_with fail
   refine (jhN w s p hs hp).mono ?_;rintro e w1 ⟨rfl,hw1⟩;rw[hw1, ←HB.o];clear hw1;go_wp2_with fail
   go_ret2
   exact⟨rfl,rfl⟩
 obtain⟨r,hr⟩:∃ r,r=(if preB p s then s.extract p.size s.size else s):=⟨_,rfl⟩
 obtain⟨b,hb⟩:∃ b,b=preB p s:=⟨_,rfl⟩
 rw[←hr, ←hb]at key ⊢;have HK:=Hd key;clear key hr hb;go_enter Tryz.func234,Tryz.ntmps234;go_wp2_with fail
 refine HK.o.mono ?_;rintro e w1 ⟨rfl,hw1⟩;rw[hw1];clear hw1;go_wp2_with fail
 go_ret2
 exact⟨rfl,rfl⟩
def jso(k:Nat)(pa:ByteArray)(rs:List ByteArray)(p:ByteArray):Prop:=
 k=0∨k=1∨(k=2∧preB pa p=false)∨(k=3∧p=⟨#[]⟩)∨(k=3∧∃ x t,p.data.toList=x :: t∧rs[x.toNat]?=some ⟨#[]⟩)
theorem jny{d:Nat}{k:Nat}{pa va:ByteArray}{rs:List ByteArray}(hg:jbj (InlD d) ⟨k,pa,va,rs⟩){p q:ByteArray}(hp:jaA p=true)(hs:jbD ⟨k,pa,va,rs⟩ p=(⟨#[]⟩,q)):jso k pa rs p:=by
 cases hc:jca ⟨k,pa,va,rs⟩ p with
 | some u =>
  rcases jnv hc with⟨h,_⟩ |⟨h,h2,_⟩
  ·exact .inr (.inl h)
  ·exact .inr (.inr (.inr (.inl ⟨h,h2⟩)))
 | none =>
  rcases jnx hg hp hs hc with h | h | h | h | h
  ·exact .inl h
  ·exact .inr (.inl h.1)
  ·exact .inr (.inr (.inl h))
  ·exact .inr (.inr (.inr (.inl ⟨h.1,h.2.1⟩)))
  ·exact .inr (.inr (.inr (.inr h)))
theorem jnw{n:jac}{p:ByteArray}{d:Nat}(hg:jbj (InlD d) n)(h:(jbD n p).1.size=0):jbD n p=(⟨#[]⟩,p):=by
 unfold jbD at h ⊢;split
 ·rename_i h3
  rw[if_pos h3]at h;cases hpl:p.data.toList with
  | nil=>rfl
  | cons x t =>
   rw[hpl]at h;show (if (n.refs.getD x.toNat ⟨#[]⟩).size=0 then (⟨#[]⟩,p)else (n.refs.getD x.toNat ⟨#[]⟩,p.extract 1 p.size))=_;have h:(if (n.refs.getD x.toNat ⟨#[]⟩).size=0 then ((⟨#[]⟩:ByteArray),p)else (n.refs.getD x.toNat ⟨#[]⟩,p.extract 1 p.size)).1.size=0:=h
   by_cases h0:(n.refs.getD x.toNat ⟨#[]⟩).size=0
   ·rw[if_pos h0]
   ·rw[if_neg h0]at h;exact absurd h h0
 ·rename_i h3
  rw[if_neg h3]at h;split
  ·rename_i h2
   rw[if_pos h2]at h;split
   ·rename_i hp
    rw[if_pos hp]at h;cases hg with
    | ext p r a1 a2 a3=>exact absurd h a2
    | none=>cases h2
    | leaf p v=>cases h2
    | branch v rs=>cases h2
   ·rfl
  ·rfl
theorem jgm{k:Nat}{pa va:ByteArray}{rs:List ByteArray}{i:Nat}{r:ByteArray}(hi:rs[i]?=some r):(jac.cells ⟨k,pa,va,rs⟩)[3+i]?=some (.string r):=by
 show (_ :: _ :: _ :: rs.map Value.string)[3+i]?=_;rw[show 3+i=i+1+1+1 by omega];simp[hi]
theorem jrX(W:World)(d:Nat)(n:jac)(hg:jbj (InlD d) n)(p:ByteArray)(hp:jaA p=true)(hs:p.size≤2000) :
  Calls Tryz.prog 201 #[n.V,.string p] W fun e w'=>e=.returned (.tuple #[.string (jbD n p).1,.string (jbD n p).2])∧Ext W w':=by
 have h1:=hg.one (inlP d)
 obtain⟨⟨r,q⟩,hrq⟩:∃ rq,rq=jbD n p:=⟨_,rfl⟩
 rw[←hrq];simp only;have hz:r.size=0→r=⟨#[]⟩∧q=p:=fun h=>by
  have:=jnw hg (p:=p) (by rw[←hrq];exact h)
  rw[this]at hrq;exact Prod.mk.inj hrq
 obtain⟨k,pa,va,rs⟩:=n
 have hr:rs.length=16:=h1.refs;have hps:pa.size≤12:=h1.path;have HP:=Hd hp;have HL:=Hd hr;clear h1 hr;unfold jac.V;have hem:(⟨#[]⟩:ByteArray).toList.isEmpty=true:=by rw[ByteArray.toList_eq];rfl
 by_cases hr0:r.size=0
 case pos =>
  obtain⟨rfl,rfl⟩:=hz hr0
  have h0:=jny hg hp hrq.symm;clear hz hrq hg hr0 hp;rcases h0 with rfl | rfl |⟨rfl,hpre⟩ |⟨rfl,rfl⟩ |⟨rfl,x,t,hx,hrx⟩
  ·have e0:(jac.cells ⟨0,pa,va,rs⟩)[0]?=some (.int .i64 0):=rfl
   have e1:(jac.cells ⟨0,pa,va,rs⟩)[1]?=some (.string pa):=rfl;go_enter Tryz.func201,Tryz.ntmps201;go_wp2_with fail
   go_ret2
   exact⟨rfl,(ExtR W).alloc _⟩
  ·have e0:(jac.cells ⟨1,pa,va,rs⟩)[0]?=some (.int .i64 1):=rfl
   have e1:(jac.cells ⟨1,pa,va,rs⟩)[1]?=some (.string pa):=rfl;go_enter Tryz.func201,Tryz.ntmps201;go_wp2_with fail
   go_ret2
   exact⟨rfl,(ExtR W).alloc _⟩
  ·have HPR:=Hd hpre
   clear hpre;have e0:(jac.cells ⟨2,pa,va,rs⟩)[0]?=some (.int .i64 2):=rfl;have e1:(jac.cells ⟨2,pa,va,rs⟩)[1]?=some (.string pa):=rfl;go_enter Tryz.func201,Tryz.ntmps201;go_wp2_with fail
   refine (jj5 _ q pa (by omega) (by omega)).mono ?_;rintro e w1' ⟨rfl,hw1⟩;rw[hw1,HPR.o,if_neg (by simp)];clear hw1;go_wp2_with fail
   go_ret2
   exact⟨rfl,(ExtR W).alloc _⟩
  ·have e0:(jac.cells ⟨3,pa,va,rs⟩)[0]?=some (.int .i64 3):=rfl
   have e1:(jac.cells ⟨3,pa,va,rs⟩)[1]?=some (.string pa):=rfl;go_enter Tryz.func201,Tryz.ntmps201;go_wp2_with fail
   go_ret2
   exact⟨rfl,(ExtR W).alloc _⟩
  ·obtain⟨h0,hx0⟩:=jeH hx
   have hx16:x.toNat < 16:=jde (p:=(q,q)) HP.o hx;have e3:=jgm (k:=3) (pa:=pa) (va:=va) hrx;rw[←hx0]at e3 hx16;have hpe:q.toList.isEmpty=false:=by
    rw[Bool.eq_false_iff];intro e;rw[List.isEmpty_iff,ByteArray.toList_eq]at e;rw[hx]at e;cases e
   have c1:(0:Int) < (q.size:Int):=by omega
   have c2:((q[0]'h0).toNat:Int) < 16:=by omega
   have c3:(1:Int)≤(q.size:Int):=by omega
   clear hx hrx hx0;have e0:(jac.cells ⟨3,pa,va,rs⟩)[0]?=some (.int .i64 3):=rfl;have e1:(jac.cells ⟨3,pa,va,rs⟩)[1]?=some (.string pa):=rfl;go_enter Tryz.func201,Tryz.ntmps201;go_wp2_with fail
   go_quiet (fail)
   go_wp2_with fail
   go_ret2
   exact⟨rfl,((ExtR W).alloc _).trans (jdM _ _)⟩
 case neg =>
  have h0:=jh0 hg hp hrq.symm hr0;have hre:r.toList.isEmpty=false:=by
   rw[Bool.eq_false_iff];intro e;rw[List.isEmpty_iff,ByteArray.toList_eq]at e;exact hr0 (by rw[←jbb,e];rfl)
  clear hz hrq hg hr0 hp;rcases h0 with⟨rfl,hpre,hrr,rfl,hle⟩ |⟨rfl,x,t,hx,hrx,rfl⟩
  ·have HPR:=Hd hpre
   clear hpre;have e0:(jac.cells ⟨2,pa,va,rs⟩)[0]?=some (.int .i64 2):=rfl;have e1:(jac.cells ⟨2,pa,va,rs⟩)[1]?=some (.string pa):=rfl;have e3:(jac.cells ⟨2,pa,va,rs⟩)[3]?=some (.string r):=jgm (i:=0) hrr;clear hrr;go_enter Tryz.func201,Tryz.ntmps201;go_wp2_with fail
   refine (jj5 _ p pa (by omega) (by omega)).mono ?_;rintro e w1' ⟨rfl,hw1⟩;rw[hw1,HPR.o,if_pos rfl];clear hw1;go_wp2_with fail
   go_ret2
   exact⟨rfl,(ExtR W).alloc _⟩
  ·obtain⟨h0,hx0⟩:=jeH hx
   have hx16:x.toNat < 16:=jde (p:=(p,p)) HP.o hx;have e3:=jgm (k:=3) (pa:=pa) (va:=va) hrx;rw[←hx0]at e3 hx16;have hpe:p.toList.isEmpty=false:=by
    rw[Bool.eq_false_iff];intro e;rw[List.isEmpty_iff,ByteArray.toList_eq]at e;rw[hx]at e;cases e
   have c1:(0:Int) < (p.size:Int):=by omega
   have c2:((p[0]'h0).toNat:Int) < 16:=by omega
   have c3:(1:Int)≤(p.size:Int):=by omega
   clear hx hrx hx0;have e0:(jac.cells ⟨3,pa,va,rs⟩)[0]?=some (.int .i64 3):=rfl;have e1:(jac.cells ⟨3,pa,va,rs⟩)[1]?=some (.string pa):=rfl;go_enter Tryz.func201,Tryz.ntmps201;go_wp2_with fail
   go_quiet (fail)
   go_wp2_with fail
   go_ret2
   exact⟨rfl,((ExtR W).alloc _).trans (jdM _ _)⟩
theorem Tryz.isClaim:jfI (Tryz.prog.underlying 71)=true:=by kernel_rfl
theorem Tryz.szClaim:(Tryz.prog.info? 71).map (·.size)=some 2:=by kernel_rfl
def clmL:Option ByteArray→List Value | some u=>[.bool true,.string u] | none=>[.bool false,.string ⟨#[]⟩]
def clmV(o:Option ByteArray):Value:=.agg (clmL o).toArray
theorem jaW(o:Option ByteArray):(clmL o).length=2:=by cases o <;> rfl
theorem jbk(o:Option ByteArray):∀ v∈clmL o,v.oneCell'=true:=by
 cases o <;>(intro v hv;simp[clmL]at hv;rcases hv with rfl | rfl <;> rfl)
theorem jbm{w:World}{b:Nat}{o:Option ByteArray}(hB:Blk w b (.cells (clmL o).toArray 71)):(Instr.loadAt 71 (.pointer (some ⟨b,0,none⟩))).run Tryz.prog w=.ok (clmV o) w:=by
 obtain⟨fs,hu⟩:=jfn Tryz.isClaim
 exact jdV hu (by rw[jaW];exact Tryz.szClaim) (fun j v hv=>by rw[jfC];exact hB.cellL hv)
theorem jaO{w:World}{b:Nat}{o:Option ByteArray}(hB:Blk w b (.cells (clmL o).toArray 71)):(loadVar 71 ⟨b,0,none⟩).run Tryz.prog w=.ok (clmV o) w:=by
 have:=jbm hB
 simpa [Instr.loadAt,Instr.sureAddr,Sem.run_bind,Result.andThen]using this
theorem Tryz.allocClaim:∀ w,(Instr.alloc 71 true (.tuple #[])).run Tryz.prog w=.ok (.pointer (some ⟨w.heap.size,0,none⟩)) (w.alloc (.cells (clmL none).toArray 71)):=fun w=>by kernel_rfl
theorem jn9(W:World)(pa va p:ByteArray)(rs:List ByteArray)(hr:rs.length=16) :
  Calls Tryz.prog 152 #[(jac.mk 1 pa va rs).V,.string pa] W fun e w'=>e=.returned (clmV (some va))∧Ext W w':=by
 have HL:=Hd (jac.cells_len ⟨1,pa,va,rs⟩ hr);clear hr;have hem:(⟨#[]⟩:ByteArray).toList.isEmpty=true:=by rw[ByteArray.toList_eq];rfl
 skip
 have Q0:=Hd ((Blk.new W (.cells (jac.cells ⟨1,pa,va,rs⟩).toArray 144)).cellL (i:=0) (v:=.int .i64 1) (by rfl));have Q1:=Hd ((Blk.new W (.cells (jac.cells ⟨1,pa,va,rs⟩).toArray 144)).cellL (i:=1) (v:=.string pa) (by rfl));have Q2:=Hd ((Blk.new W (.cells (jac.cells ⟨1,pa,va,rs⟩).toArray 144)).cellL (i:=2) (v:=.string va) (by rfl));unfold jac.V;go_enter Tryz.func152,Tryz.ntmps152;go_wp2_with (first |(refine jai Tryz.allocClaim rfl rfl ?_;intro W2 hB2 hE2;rw[World.size_alloc]at hB2;have q0:=jab Q0.o hE2;have q1:=jab Q1.o hE2;have q2:=jab Q2.o hE2) |(refine jaf (old:=clmL none) (vs:=clmL (some va)) rfl rfl rfl rfl hB2 rfl Tryz.szClaim (jbk _) ?_;intro W8 hB8 hE8))
 refine bodyPost_ret (jbd rfl rfl (jaO hB8)) rfl ?_
 exact⟨rfl,(((ExtR W).alloc _).trans hE2).trans' hE8 (fun x hx e=>by have e:x=_:=e;have:=(((ExtR W).alloc (.cells (jac.cells ⟨1,pa,va,rs⟩).toArray 144)):Ext W _).size;omega)⟩
theorem jk7(W:World)(pa va p:ByteArray)(rs:List ByteArray)(hr:rs.length=16)(h:pa≠p) :
  Calls Tryz.prog 152 #[(jac.mk 1 pa va rs).V,.string p] W fun e w'=>e=.returned (clmV (none))∧Ext W w':=by
 have HL:=Hd (jac.cells_len ⟨1,pa,va,rs⟩ hr);clear hr;have hem:(⟨#[]⟩:ByteArray).toList.isEmpty=true:=by rw[ByteArray.toList_eq];rfl
 have h1:=jcP h;clear h;have Q0:=Hd ((Blk.new W (.cells (jac.cells ⟨1,pa,va,rs⟩).toArray 144)).cellL (i:=0) (v:=.int .i64 1) (by rfl));have Q1:=Hd ((Blk.new W (.cells (jac.cells ⟨1,pa,va,rs⟩).toArray 144)).cellL (i:=1) (v:=.string pa) (by rfl));have Q2:=Hd ((Blk.new W (.cells (jac.cells ⟨1,pa,va,rs⟩).toArray 144)).cellL (i:=2) (v:=.string va) (by rfl));unfold jac.V;go_enter Tryz.func152,Tryz.ntmps152;go_wp2_with (first |(refine jai Tryz.allocClaim rfl rfl ?_;intro W2 hB2 hE2;rw[World.size_alloc]at hB2;have q0:=jab Q0.o hE2;have q1:=jab Q1.o hE2;have q2:=jab Q2.o hE2) |(refine jaf (old:=clmL none) (vs:=clmL (none)) rfl rfl rfl rfl hB2 rfl Tryz.szClaim (jbk _) ?_;intro W8 hB8 hE8))
 refine bodyPost_ret (jbd rfl rfl (jaO hB8)) rfl ?_
 exact⟨rfl,(((ExtR W).alloc _).trans hE2).trans' hE8 (fun x hx e=>by have e:x=_:=e;have:=(((ExtR W).alloc (.cells (jac.cells ⟨1,pa,va,rs⟩).toArray 144)):Ext W _).size;omega)⟩
theorem jrk(W:World)(pa va p:ByteArray)(rs:List ByteArray)(hr:rs.length=16)(h:va.size≠0) :
  Calls Tryz.prog 152 #[(jac.mk 3 pa va rs).V,.string ⟨#[]⟩] W fun e w'=>e=.returned (clmV (some va))∧Ext W w':=by
 have HL:=Hd (jac.cells_len ⟨3,pa,va,rs⟩ hr);clear hr;have hem:(⟨#[]⟩:ByteArray).toList.isEmpty=true:=by rw[ByteArray.toList_eq];rfl
 have hne:va.toList.isEmpty=false:=by
  rw[Bool.eq_false_iff];intro e;rw[List.isEmpty_iff,ByteArray.toList_eq]at e;exact h (by rw[←jbb,e];rfl)
 clear h;have Q0:=Hd ((Blk.new W (.cells (jac.cells ⟨3,pa,va,rs⟩).toArray 144)).cellL (i:=0) (v:=.int .i64 3) (by rfl));have Q1:=Hd ((Blk.new W (.cells (jac.cells ⟨3,pa,va,rs⟩).toArray 144)).cellL (i:=1) (v:=.string pa) (by rfl));have Q2:=Hd ((Blk.new W (.cells (jac.cells ⟨3,pa,va,rs⟩).toArray 144)).cellL (i:=2) (v:=.string va) (by rfl));unfold jac.V;go_enter Tryz.func152,Tryz.ntmps152;go_wp2_with (first |(refine jai Tryz.allocClaim rfl rfl ?_;intro W2 hB2 hE2;rw[World.size_alloc]at hB2;have q0:=jab Q0.o hE2;have q1:=jab Q1.o hE2;have q2:=jab Q2.o hE2) |(refine jaf (old:=clmL none) (vs:=clmL (some va)) rfl rfl rfl rfl hB2 rfl Tryz.szClaim (jbk _) ?_;intro W8 hB8 hE8))
 refine bodyPost_ret (jbd rfl rfl (jaO hB8)) rfl ?_
 exact⟨rfl,(((ExtR W).alloc _).trans hE2).trans' hE8 (fun x hx e=>by have e:x=_:=e;have:=(((ExtR W).alloc (.cells (jac.cells ⟨3,pa,va,rs⟩).toArray 144)):Ext W _).size;omega)⟩
theorem jn8(W:World)(pa va p:ByteArray)(rs:List ByteArray)(hr:rs.length=16)(h:va=⟨#[]⟩) :
  Calls Tryz.prog 152 #[(jac.mk 3 pa va rs).V,.string ⟨#[]⟩] W fun e w'=>e=.returned (clmV (none))∧Ext W w':=by
 have HL:=Hd (jac.cells_len ⟨3,pa,va,rs⟩ hr);clear hr;have hem:(⟨#[]⟩:ByteArray).toList.isEmpty=true:=by rw[ByteArray.toList_eq];rfl
 subst h;have Q0:=Hd ((Blk.new W (.cells (jac.cells ⟨3,pa,⟨#[]⟩,rs⟩).toArray 144)).cellL (i:=0) (v:=.int .i64 3) (by rfl));have Q1:=Hd ((Blk.new W (.cells (jac.cells ⟨3,pa,⟨#[]⟩,rs⟩).toArray 144)).cellL (i:=1) (v:=.string pa) (by rfl));have Q2:=Hd ((Blk.new W (.cells (jac.cells ⟨3,pa,⟨#[]⟩,rs⟩).toArray 144)).cellL (i:=2) (v:=.string ⟨#[]⟩) (by rfl));unfold jac.V;go_enter Tryz.func152,Tryz.ntmps152;go_wp2_with (first |(refine jai Tryz.allocClaim rfl rfl ?_;intro W2 hB2 hE2;rw[World.size_alloc]at hB2;have q0:=jab Q0.o hE2;have q1:=jab Q1.o hE2;have q2:=jab Q2.o hE2) |(refine jaf (old:=clmL none) (vs:=clmL (none)) rfl rfl rfl rfl hB2 rfl Tryz.szClaim (jbk _) ?_;intro W8 hB8 hE8))
 refine bodyPost_ret (jbd rfl rfl (jaO hB8)) rfl ?_
 exact⟨rfl,(((ExtR W).alloc _).trans hE2).trans' hE8 (fun x hx e=>by have e:x=_:=e;have:=(((ExtR W).alloc (.cells (jac.cells ⟨3,pa,⟨#[]⟩,rs⟩).toArray 144)):Ext W _).size;omega)⟩
theorem jpP(W:World)(pa va p:ByteArray)(rs:List ByteArray)(hr:rs.length=16)(h:p.size≠0) :
  Calls Tryz.prog 152 #[(jac.mk 3 pa va rs).V,.string p] W fun e w'=>e=.returned (clmV (none))∧Ext W w':=by
 have HL:=Hd (jac.cells_len ⟨3,pa,va,rs⟩ hr);clear hr;have hem:(⟨#[]⟩:ByteArray).toList.isEmpty=true:=by rw[ByteArray.toList_eq];rfl
 have hne:p.toList.isEmpty=false:=by
  rw[Bool.eq_false_iff];intro e;rw[List.isEmpty_iff,ByteArray.toList_eq]at e;exact h (by rw[←jbb,e];rfl)
 clear h;have Q0:=Hd ((Blk.new W (.cells (jac.cells ⟨3,pa,va,rs⟩).toArray 144)).cellL (i:=0) (v:=.int .i64 3) (by rfl));have Q1:=Hd ((Blk.new W (.cells (jac.cells ⟨3,pa,va,rs⟩).toArray 144)).cellL (i:=1) (v:=.string pa) (by rfl));have Q2:=Hd ((Blk.new W (.cells (jac.cells ⟨3,pa,va,rs⟩).toArray 144)).cellL (i:=2) (v:=.string va) (by rfl));unfold jac.V;go_enter Tryz.func152,Tryz.ntmps152;go_wp2_with (first |(refine jai Tryz.allocClaim rfl rfl ?_;intro W2 hB2 hE2;rw[World.size_alloc]at hB2;have q0:=jab Q0.o hE2;have q1:=jab Q1.o hE2;have q2:=jab Q2.o hE2) |(refine jaf (old:=clmL none) (vs:=clmL (none)) rfl rfl rfl rfl hB2 rfl Tryz.szClaim (jbk _) ?_;intro W8 hB8 hE8))
 refine bodyPost_ret (jbd rfl rfl (jaO hB8)) rfl ?_
 exact⟨rfl,(((ExtR W).alloc _).trans hE2).trans' hE8 (fun x hx e=>by have e:x=_:=e;have:=(((ExtR W).alloc (.cells (jac.cells ⟨3,pa,va,rs⟩).toArray 144)):Ext W _).size;omega)⟩
theorem joa(W:World)(pa va p:ByteArray)(rs:List ByteArray)(hr:rs.length=16) :
  Calls Tryz.prog 152 #[(jac.mk 0 pa va rs).V,.string p] W fun e w'=>e=.returned (clmV (none))∧Ext W w':=by
 have HL:=Hd (jac.cells_len ⟨0,pa,va,rs⟩ hr);clear hr;have hem:(⟨#[]⟩:ByteArray).toList.isEmpty=true:=by rw[ByteArray.toList_eq];rfl
 skip
 have Q0:=Hd ((Blk.new W (.cells (jac.cells ⟨0,pa,va,rs⟩).toArray 144)).cellL (i:=0) (v:=.int .i64 0) (by rfl));have Q1:=Hd ((Blk.new W (.cells (jac.cells ⟨0,pa,va,rs⟩).toArray 144)).cellL (i:=1) (v:=.string pa) (by rfl));have Q2:=Hd ((Blk.new W (.cells (jac.cells ⟨0,pa,va,rs⟩).toArray 144)).cellL (i:=2) (v:=.string va) (by rfl));unfold jac.V;go_enter Tryz.func152,Tryz.ntmps152;go_wp2_with (first |(refine jai Tryz.allocClaim rfl rfl ?_;intro W2 hB2 hE2;rw[World.size_alloc]at hB2;have q0:=jab Q0.o hE2;have q1:=jab Q1.o hE2;have q2:=jab Q2.o hE2) |(refine jaf (old:=clmL none) (vs:=clmL (none)) rfl rfl rfl rfl hB2 rfl Tryz.szClaim (jbk _) ?_;intro W8 hB8 hE8))
 refine bodyPost_ret (jbd rfl rfl (jaO hB8)) rfl ?_
 exact⟨rfl,(((ExtR W).alloc _).trans hE2).trans' hE8 (fun x hx e=>by have e:x=_:=e;have:=(((ExtR W).alloc (.cells (jac.cells ⟨0,pa,va,rs⟩).toArray 144)):Ext W _).size;omega)⟩
theorem jpQ(W:World)(pa va p:ByteArray)(rs:List ByteArray)(hr:rs.length=16) :
  Calls Tryz.prog 152 #[(jac.mk 2 pa va rs).V,.string p] W fun e w'=>e=.returned (clmV (none))∧Ext W w':=by
 have HL:=Hd (jac.cells_len ⟨2,pa,va,rs⟩ hr);clear hr;have hem:(⟨#[]⟩:ByteArray).toList.isEmpty=true:=by rw[ByteArray.toList_eq];rfl
 skip
 have Q0:=Hd ((Blk.new W (.cells (jac.cells ⟨2,pa,va,rs⟩).toArray 144)).cellL (i:=0) (v:=.int .i64 2) (by rfl));have Q1:=Hd ((Blk.new W (.cells (jac.cells ⟨2,pa,va,rs⟩).toArray 144)).cellL (i:=1) (v:=.string pa) (by rfl));have Q2:=Hd ((Blk.new W (.cells (jac.cells ⟨2,pa,va,rs⟩).toArray 144)).cellL (i:=2) (v:=.string va) (by rfl));unfold jac.V;go_enter Tryz.func152,Tryz.ntmps152;go_wp2_with (first |(refine jai Tryz.allocClaim rfl rfl ?_;intro W2 hB2 hE2;rw[World.size_alloc]at hB2;have q0:=jab Q0.o hE2;have q1:=jab Q1.o hE2;have q2:=jab Q2.o hE2) |(refine jaf (old:=clmL none) (vs:=clmL (none)) rfl rfl rfl rfl hB2 rfl Tryz.szClaim (jbk _) ?_;intro W8 hB8 hE8))
 refine bodyPost_ret (jbd rfl rfl (jaO hB8)) rfl ?_
 exact⟨rfl,(((ExtR W).alloc _).trans hE2).trans' hE8 (fun x hx e=>by have e:x=_:=e;have:=(((ExtR W).alloc (.cells (jac.cells ⟨2,pa,va,rs⟩).toArray 144)):Ext W _).size;omega)⟩
theorem jme(W:World)(n:jac)(h:n.refs.length=16)(hk:n.kind≤3)(p:ByteArray):Calls Tryz.prog 152 #[n.V,.string p] W fun e w'=>e=.returned (clmV (jca n p))∧Ext W w':=by
 obtain⟨k,pa,va,rs⟩:=n
 have hk:k≤3:=hk;unfold jca;rcases (show k=0∨k=1∨k=2∨k=3 by omega)with rfl | rfl | rfl | rfl
 ·exact joa W pa va p rs h
 ·rw[if_pos rfl]
  show Calls _ _ _ W fun e w'=>e=.returned (clmV (if pa=p then some va else none))∧_
  by_cases he:pa=p
  ·subst he;rw[if_pos rfl];exact jn9 W pa va pa rs h
  ·rw[if_neg he];exact jk7 W pa va p rs h he
 ·exact jpQ W pa va p rs h
 ·rw[if_neg (show ¬(3:Nat)=1 by decide),if_pos rfl]
  show Calls _ _ _ W fun e w'=>e=.returned (clmV (if p.size=0∧va.size≠0 then some va else none))∧_
  by_cases hp:p.size=0
  ·by_cases hv:va.size=0
   ·rw[if_neg (fun e=>e.2 hv),jbE hp];exact jn8 W pa va p rs h (jbE hv)
   ·rw[if_pos ⟨hp,hv⟩,jbE hp];exact jrk W pa va p rs h hv
  ·rw[if_neg (fun e=>hp e.1)];exact jpP W pa va p rs h hp
theorem jh7(W:World)(wb d:Nat)(r:ByteArray)(m:jac)(hI:InlD d r m) :
  Calls Tryz.prog 202 #[.pointer (some ⟨wb,0,none⟩),.string r] W fun e w'=>e=.returned (.tuple #[m.V,.bool true])∧Ext W w':=by
 have hm:=(inlP d).refs _ _ hI;have HI:=Hd (fun w=>(inlP d).inl _ _ hI w);have HM:=Hd hm;have HL:=Hd (m.cells_len hm);clear hI hm;go_enter Tryz.func202,Tryz.ntmps202;go_wp2_with (refine jai Tryz.allocNode rfl rfl ?_;intro W1 hB1 hE1)
 refine (HI.o W1).mono ?_;rintro e w2 ⟨rfl,hE⟩;have hB2:=hB1.keeps hE (fun h=>h);have HE2:=Hd (hE1.trans hE);clear hB1 hE1 hE;unfold jac.V;go_wp2_with (first |(refine jai Tryz.allocNode rfl rfl ?_;intro W3 hB3 hE3;refine jaf (vs:=m.cells) rfl rfl rfl rfl hB3 (by rw[HL.o];rfl) (by rw[HL.o];exact Tryz.szNode) m.one ?_;intro W4 hB4 hE4;have hB24:=(hB2.keeps hE3 (fun h=>h)).keeps hE4 (by have:=hB2.lt;omega)) |(refine jah 144 (.tmp 6) rfl rfl _ _ rfl (jap _ _ m HM.o hB4) ?_) |(refine jaf (vs:=m.cells) rfl rfl rfl rfl hB24 (by rw[HL.o];rfl) (by rw[HL.o];exact Tryz.szNode) m.one ?_;intro W8 hB8 hE8))
 refine bodyPost_ret (jaj rfl rfl rfl (jao W8 _ m HM.o hB8)) rfl ?_;have hX4:Ext w2 W4:=hE3.trans' hE4 (fun x hx e=>by have e:x=w2.heap.size:=e;omega)
 exact⟨rfl,(HE2.o.trans hX4).trans' hE8 (fun x hx e=>by have e:x=W.heap.size:=e;omega)⟩
theorem jjR(W:World)(wb:Nat)(root:ByteArray)(v:Value)(u:Nat)(ev:Value)(hs:ByteArray)(h32:hs.size=32)(hW:jbn W wb root v u ev)(res:Option jac)
  (ht:∀ w,Ext W w→jbn w wb root v u ev→Calls Tryz.prog 200 #[.pointer (some ⟨wb,0,none⟩),.string hs] w (jji w wb root v u ev res)) :
  Calls Tryz.prog 202 #[.pointer (some ⟨wb,0,none⟩),.string (jam hs)] W (jji W wb root v u ev res):=by
 have h33:(jam hs).size=33:=jdH.size ⟨hs,h32,rfl⟩
 obtain⟨qh,h1,h2⟩:=jcI hs h32
 obtain⟨r,hr⟩:∃ r,r=jam hs:=⟨_,rfl⟩
 rw[←hr]at h33 h1 h2 ⊢;have HI:=Hd (fun w=>jqa w r (by omega));have HH:=Hd (fun w=>jcT w r qh (by omega) h1);rw[h2]at HH;have HW:=Hd hW;have HLT:=Hd hW.lt;have HT:=Hd ht;clear hr h33 h1 h2 h32 hW ht;go_enter Tryz.func202,Tryz.ntmps202;go_wp2_with (refine jai Tryz.allocNode rfl rfl ?_;intro W1 hB1 hE1)
 refine (HI.o W1).mono ?_;rintro e w2 ⟨rfl,hE⟩;have hB2:=hB1.keeps hE (fun h=>h);have HE2:=Hd (hE1.trans hE);clear hB1 hE1 hE;unfold jac.V;go_wp2_with (refine jai Tryz.allocNode rfl rfl ?_;intro W3 hB3 hE3;refine jaf (vs:=jav.cells) rfl rfl rfl rfl hB3 rfl Tryz.szNode jav.one ?_;intro W4 hB4 hE4;have hB24:=(hB2.keeps hE3 (fun h=>h)).keeps hE4 (by have:=hB2.lt;omega))
 have hX4:Ext w2 W4:=hE3.trans' hE4 (fun x hx e=>by have e:x=w2.heap.size:=e;omega);have HB4:=Hd hB24;have HE4:=Hd (HE2.o.trans hX4);clear hX4 hB2 hB3 hE3 hB4 hE4 hB24;refine (HH.o W4).mono ?_;rintro e w5 ⟨rfl,hE⟩;have HB5:=Hd (HB4.o.keeps hE (fun h=>h));have HE5:=Hd (HE4.o.trans hE);clear hE HB4 HE4 HE2;unfold optV;go_wp2_with fail
 have hW5:jbn w5 wb root v u ev:=Blk.keeps HW.o HE5.o (fun h=>h);refine (HT.o w5 HE5.o hW5).mono ?_;rintro e w6 ⟨hK,hc⟩;have hB6:=HB5.o.keeps hK (fun e=>by have e:W.heap.size=wb:=e;have:=HLT.o;omega);have HK:=Hd hK;clear hK hW5;cases res with
 | none =>
  obtain⟨rfl,ev',hER,hWA⟩:=hc
  have HR:=Hd hER;have HWA:=Hd hWA;clear hER hWA;unfold jac.V;go_wp2_with (refine jaf (vs:=jav.cells) rfl rfl rfl rfl hB6 rfl Tryz.szNode jav.one ?_;intro W8 hB8 hE8)
  refine bodyPost_ret (jaj rfl rfl rfl (jao W8 _ jav rfl hB8)) rfl ?_;have hle:=HE5.o.size
  refine⟨((ExtK HE5.o:jag (fun b=>b=wb) W w5).trans HK.o).trans' hE8 (fun x hx e=>by have e:x=W.heap.size:=e;omega),rfl,ev',?_,?_⟩
  ·obtain⟨b,k,h1,h2,h3⟩:=HR.o
   exact⟨b,k,h1,h2.keeps hE8 (fun e=>by have e:b=W.heap.size:=e;have:=HB5.o.lt;omega),by omega⟩
  ·have h9:jbn w6 wb root v u ev':=HWA.o
   exact Blk.keeps h9 hE8 (fun e=>by have e:wb=W.heap.size:=e;have:=HLT.o;omega)
 | some m =>
  obtain⟨rfl,hWA,hm⟩:=hc
  have HWA:=Hd hWA;have HM:=Hd hm;have HL:=Hd (m.cells_len hm);clear hWA hm;unfold jac.V;go_wp2_with (refine jaf (vs:=m.cells) rfl rfl rfl rfl hB6 (by rw[HL.o];rfl) (by rw[HL.o];exact Tryz.szNode) m.one ?_;intro W8 hB8 hE8)
  refine bodyPost_ret (jaj rfl rfl rfl (jao W8 _ m HM.o hB8)) rfl ?_;have hle:=HE5.o.size
  refine⟨((ExtK HE5.o:jag (fun b=>b=wb) W w5).trans HK.o).trans' hE8 (fun x hx e=>by have e:x=W.heap.size:=e;omega),rfl,?_,HM.o⟩
  have h9:jbn w6 wb root v (u+1) ev:=HWA.o;exact Blk.keeps h9 hE8 (fun e=>by have e:wb=W.heap.size:=e;have:=HLT.o;omega)
end
section
open Go Go.RowKit
theorem joZ{d:Nat}{n:jac}{p r q:ByteArray}(hg:jbj (InlD d) n)(hp:jaA p=true)(hs:jbD n p=(r,q))(hr:r.size≠0):MayP (InlD d) r∧q.size < p.size∧jaA q=true:=by
 obtain⟨k,pa,va,rs⟩:=n
 have hy:=jh0 hg hp hs hr;rcases hy with⟨rfl,h1,h2,rfl,h3⟩ |⟨rfl,x,t,h1,h2,rfl⟩
 ·cases hg with
  | ext p' r' a1 a2 a3 =>
   have e:r'=r:=Option.some.inj h2;subst e;have hps:1≤pa.size:=by
    unfold jac.pathOk at a1;simp only[Bool.and_eq_true,decide_eq_true_eq]at a1;exact a1.1.1
   refine⟨a3.imp id (fun ⟨m,h,_⟩=>⟨m,h⟩),by rw[jcR];omega,jdk hp _ _⟩
 ·cases hg with
  | branch v rs a1 a2 a3 a4 =>
   have hps:0 < p.size:=by
    have:=congrArg List.length h1
    rw[jbb]at this;simp at this;omega
   exact⟨a3 r (List.mem_of_getElem? h2) hr,by rw[jcR];omega,jdk hp _ _⟩
def jpy(P:Program)(gf:FuncId)(lb:Array Value)(N:Nat)(vals:Nat→Array Value)(M:BSet)(S:BSet→World→Prop)(SE:Nat→BSet→World→Prop):Prop:=
 ∀ (l:Nat) (C:Nat→BSet→World→Prop) (Cx:Nat→BSet→World→Prop),(∀ k,Supp (C k))→(∀ k D W,¬ Cx k D W) →
  ∀ D O W,(∀ k D' W',k < N→C k D' W'→jag (fun b=>D b∨M b) W W'→jlM P l (vals k) D' W' (C (k+1)) (Cx (k+1))) →
   C 0 D W→S O W→(∀ b,D b→¬ O b) →
   CallsIn Fence.wide 0 P gf (#[.func (.yield l) #[] #[]]++lb) W (jhm W M D O N C Cx SE)
theorem jnM{P:Program}{g:Operand}{ps:Array Tmp}{assign body:Code}{Q:Exit→Act→World→Prop}{a:Act}{w:World}
  {gf:Nat} {lb:Array Value} (hg:a.eval g=.func (.func gf) #[] lb) (eg:∀ args w,(callFunc gf args).run P w=.ok (.enter gf args) w)
  {N:Nat} {vals:Nat→Array Value} {M:BSet} {S:BSet→World→Prop} {SE:Nat→BSet→World→Prop} (IS:jpy P gf lb N vals M S SE)
  (hS:Supp S) (hps:∀ k,(vals k).size=ps.size)
  (C:Nat→BSet→World→Prop) (Cj:Code→Nat→BSet→World→Prop) (hC:∀ k,Supp (C k)) (hCj:∀ c k D W,¬ Cj c k D W)
  (D₀ O₀:BSet) (h0:C 0 D₀ w) (hS0:S O₀ w) (hdis:∀ b,D₀ b→¬ O₀ b) (A:Nat→Act→World→Prop) (hA:∀ k a1 W1 W2,A k a1 W1→jag (fun b=>b=w.heap.size+1) W1 W2→A k a1 W2)
  (hassign:∀ (l k:Nat) (W:World) (K:Act→World→Prop),k < N→w.heap.size+1 < W.heap.size→(∀ a1 W1,Ext W W1→A k a1 W1→K a1 W1) →
   assign.wpIn (Fence.wide.inRound l) 0 P (Exit.then K (fun _ _ _=>False)) { tmps:=(ps.zip (vals k)).foldl (fun t (p,v)=>t.setIfInBounds p v) a.tmps,defers:=[] } W)
  (hbody:∀ (l k:Nat) (D:BSet) (W:World) (a1:Act),k < N→C k D W→A k a1 W→jag (fun b=>D₀ b∨M b) w W→body.wpIn (Fence.wide.inRound l) 0 P (jq9 D W (C (k+1)) (fun c=>Cj c (k+1))) a1 W)
  (hdone:∀ (D O:BSet) (W:World),jag (fun b=>D₀ b∨M b) w W→C N D W→SE N O W→(∀ b,D b→¬ O b)→(∀ b,D b→D₀ b∨w.heap.size≤b)→(∀ b,O b→O₀ b∨w.heap.size≤b) →
   Blk W w.heap.size (.deferred (some []))→¬ D w.heap.size→¬ O w.heap.size →
   Q .normal { a with defers:={ target:=.collected w.heap.size,args:=#[] } :: a.defers } W)
  (hSE:∀ k,Supp (SE k)) :
  (Code.rangeFunc g ps assign body).wpIn Fence.wide 0 P Q a w:=by
 refine wpIn_rangeFunc ?_;intro fn _;show ∃ l mark w₁ d w₁' f args w₂,(Instr.enterLoop fn a.tmps ps assign body none).run P w=_∧_
 obtain⟨rec,hrec⟩:∃ rec:LoopState→Option Code→Loop,rec=fun st pe=>{ state:=st,pending:=pe,fn,tmps:=a.tmps,params:=ps,assign,body,defers:=w.heap.size }:=⟨_,rfl⟩
 obtain⟨W1,hW1⟩:∃ W1,(w.alloc (.deferred (some []))).alloc (.loop (rec .ready none))=W1:=⟨_,rfl⟩
 have hL1:Blk W1 (w.heap.size+1) (.loop (rec .ready none)):=by
  rw[←hW1];have:=Blk.new (w.alloc (.deferred (some []))) (.loop (rec .ready none));rwa [World.size_alloc]at this
 have hK1:Blk W1 w.heap.size (.deferred (some [])):=by
  rw[←hW1];exact (Blk.new w _).alloc _
 have hX1:Ext w W1:=by rw[←hW1];exact ((jag.refl _ w).alloc _).alloc _
 have hs1:W1.heap.size=w.heap.size+2:=by rw[←hW1];simp
 have hD0:∀ b,D₀ b→b < w.heap.size:=(hC 0).lt _ _ h0;have hO0:∀ b,O₀ b→b < w.heap.size:=hS.lt _ _ hS0
 refine⟨w.heap.size+1,[{ target:=.collected w.heap.size,args:=#[] }],W1,{ target:=.fn (.func gf) lb,args:=#[.func (.yield (w.heap.size+1)) #[] #[]] },W1,gf,
  #[.func (.yield (w.heap.size+1)) #[] #[]]++lb,W1,?_,?_,?_,?_,fun h=>by simp[Fence.wide]at h,?_⟩
 ·rw[←hW1,hrec];exact run_enterLoop_outer _ _ _ _ _
 ·simp only[resolve,hg]
  simp[go_sem]
 ·intro f' _;trivial
 ·simp[invoke,go_sem,eg]
 ·-- the consumer's invariant with the two blocks of book-keeping
  let CC:Nat→BSet→World→Prop:=fun k D W=>∃ D':BSet,C k D' W∧(∀ b,D b↔D' b∨b=w.heap.size+1∨b=w.heap.size)∧¬ D' (w.heap.size+1)∧¬ D' w.heap.size ∧
   Blk W (w.heap.size+1) (.loop (rec .ready none))∧Blk W w.heap.size (.deferred (some []))
  let CX:Nat→BSet→World→Prop:=fun k D W=>∃ (c:Code) (D':BSet),Cj c k D' W∧(∀ b,D b↔D' b∨b=w.heap.size+1∨b=w.heap.size)∧¬ D' (w.heap.size+1)∧¬ D' w.heap.size ∧
   Blk W (w.heap.size+1) (.loop (rec .done (some c)))∧Blk W w.heap.size (.deferred (some []))
  have sCC:∀ k,Supp (CC k):=fun k=>⟨fun D W ⟨D',h1,h2,_,_,h3,h4⟩ b hb=>by
    rcases (h2 b).1 hb with h | rfl | rfl
    ·exact (hC k).lt _ _ h1 b h
    ·exact h3.lt
    ·exact h4.lt,
   fun D W W' ⟨D',h1,h2,h5,h6,h3,h4⟩ hs hb=>⟨D',(hC k).st _ _ _ h1 hs (fun b h=>hb b ((h2 b).2 (.inl h))),h2,h5,h6,
    (hb _ ((h2 _).2 (.inr (.inl rfl)))).trans h3,(hb _ ((h2 _).2 (.inr (.inr rfl)))).trans h4⟩⟩
  have sCX:∀ k D W,¬ CX k D W:=fun k D W ⟨c,D',h,_⟩=>hCj _ _ _ _ h;have key:=IS (w.heap.size+1) CC CX sCC sCX (fun b=>D₀ b∨b=w.heap.size+1∨b=w.heap.size) O₀ W1 ?_
   ⟨D₀,(hC 0).keeps h0 hX1 (fun _ _ h=>h),fun _=>Iff.rfl,fun h=>by have:=hD0 _ h;omega,fun h=>by have:=hD0 _ h;omega,hL1,hK1⟩
   (hS.keeps hS0 hX1 (fun _ _ h=>h)) (fun b hb ho=>by
    have:=hO0 b ho
    rcases hb with h | rfl | rfl
    ·exact hdis b h ho
    ·omega
    ·omega)
  ·refine CallsIn.mono key ?_
   rintro e W' ⟨⟨v,rfl⟩,D',O',hk,hD',hO',hdis',hcase⟩;have hkw:jag (fun b=>D₀ b∨M b) w W':=(hX1.mono (fun _ _ h=>h.elim)).trans' hk (fun x hx h=>by
     rcases h with (h | rfl | rfl) | h
     ·exact .inl h
     ·omega
     ·omega
     ·exact .inr h)
   have hOo:∀ b,O' b→O₀ b∨w.heap.size≤b:=fun b hb=>(hO' b hb).imp id (fun h=>by omega);rcases hcase with⟨⟨D'',h1,h2,h5,h6,h3,h4⟩,hse⟩ |⟨k,hk1,hk2,⟨c,D'',h1,h2,h5,h6,h3,h4⟩,hse⟩
   ·have hO1:¬ O' (w.heap.size+1):=hdis' _ ((h2 _).2 (.inr (.inl rfl)))
    have hO2:¬ O' w.heap.size:=hdis' _ ((h2 _).2 (.inr (.inr rfl)))
    obtain⟨ox,he⟩:∃ ox,(Instr.endLoop (w.heap.size+1)).run P W'=.ok none (W'.putObj (w.heap.size+1) ox):=⟨_,(run_endLoop (r:=rec .ready none) h3 (by rw[hrec];simp)).trans (by rw[hrec])⟩
    have hkl:=jag.onePut W' (w.heap.size+1) ox
    refine⟨none,_,he,?_⟩
    refine hdone D'' O' _ (hkw.trans' hkl (fun x hx e=>by omega)) ((hC N).keeps h1 hkl (fun b hb e=>h5 (e ▸ hb))) ((hSE N).keeps hse hkl (fun b hb e=>hO1 (e ▸ hb)))
     (fun b hb ho=>hdis' b ((h2 b).2 (.inl hb)) ho) (fun b hb=>?_) hOo (h4.put_other (by omega) _) h6 hO2
    rcases hD' b ((h2 b).2 (.inl hb))with (h | rfl | rfl) | h
    ·exact .inl h
    ·exact absurd hb h5
    ·exact absurd hb h6
    ·exact .inr (by omega)
   ·exact (hCj _ _ _ _ h1).elim
  ·rintro k D W hk ⟨D',h1,h2,h5,h6,h3,h4⟩ hkk
   have hkw:jag (fun b=>D₀ b∨M b) w W:=(hX1.mono (fun _ _ h=>h.elim)).trans' hkk (fun x hx h=>by
     rcases h with (h | rfl | rfl) | h
     ·exact .inl h
     ·omega
     ·omega
     ·exact .inr h)
   have hD1:D (w.heap.size+1):=(h2 _).2 (.inr (.inl rfl))
   refine⟨_,_,_,_,run_yield h3 (by rw[hrec];exact hps k),?_⟩
   refine roundIn_of_wpIn trivial ?_;rw[show (rec .ready none).tmps=a.tmps from by rw[hrec],show (rec .ready none).params=ps from by rw[hrec],show (rec .ready none).assign=assign from by rw[hrec],show (rec .ready none).body=body from by rw[hrec]];refine hassign _ k W _ hk h3.lt ?_;intro a1 W1 hX hA1;have h1:=(hC k).keeps h1 hX (fun _ _ h=>h);have h3:=h3.keeps hX (fun h=>h);have h4:=h4.keeps hX (fun h=>h);have hkw:=hkw.trans' hX (fun _ _ h=>h.elim);have hXs:=hX.size
   refine⟨_,run_beginRound h3 (by rw[hrec]),?_⟩
   have hkb:jag (fun b=>b=w.heap.size+1) W1 (W1.putObj (w.heap.size+1) (.loop { rec .ready none with state:=.busy })):=jag.onePut _ _ _;have hsz:w.heap.size≤W1.heap.size:=by have:=h4.lt;omega
   refine Code.wpIn_mono ?_ (hbody (w.heap.size+1) k D' _ a1 hk ((hC k).keeps h1 hkb (fun b hb e=>h5 (e ▸ hb))) (hA k a1 _ _ hA1 hkb) (hkw.trans' hkb (fun x hx e=>by omega)));have fin:∀ (j:Option Code) (D'':BSet) (W1':World),jag D' (W1.putObj (w.heap.size+1) (.loop { rec .ready none with state:=.busy })) W1' →
     (∀ b,D'' b→D' b∨(W1.putObj (w.heap.size+1) (.loop { rec .ready none with state:=.busy })).heap.size≤b) →
     (Instr.endRound (w.heap.size+1) j).run P W1'=.ok (.bool j.isNone) (W1'.putObj (w.heap.size+1) (.loop (rec (if j.isNone then .ready else .done) j))) ∧
     jag D W1 (W1'.putObj (w.heap.size+1) (.loop (rec (if j.isNone then .ready else .done) j))) ∧
     jag (fun b=>b=w.heap.size+1) W1' (W1'.putObj (w.heap.size+1) (.loop (rec (if j.isNone then .ready else .done) j))) ∧
     (∀ b,(D'' b∨b=w.heap.size+1∨b=w.heap.size)→D b∨W1.heap.size≤b)∧¬ D'' (w.heap.size+1)∧¬ D'' w.heap.size ∧
     Blk (W1'.putObj (w.heap.size+1) (.loop (rec (if j.isNone then .ready else .done) j))) (w.heap.size+1) (.loop (rec (if j.isNone then .ready else .done) j)) ∧
     Blk (W1'.putObj (w.heap.size+1) (.loop (rec (if j.isNone then .ready else .done) j))) w.heap.size (.deferred (some [])):=by
    intro j D'' W1' hK hD'';have hl:Blk W1' (w.heap.size+1) (.loop { rec .ready none with state:=.busy }):=(h3.put_same _).keeps hK h5;have hd:Blk W1' w.heap.size (.deferred (some [])):=(h4.put_other (by omega) _).keeps hK h6;have hke:jag (fun b=>b=w.heap.size+1) W1' (W1'.putObj (w.heap.size+1) (.loop (rec (if j.isNone then .ready else .done) j))):=jag.onePut _ _ _;rw[World.putObj_size]at hD'';have hlt3:=h3.lt;have hlt4:=h4.lt
    refine⟨?_,?_,hke,?_,?_,?_,?_,?_⟩
    ·rw[run_endRound j hl,hrec]
    ·exact ((hkb.mono (fun x _ e=>e ▸ hD1)).trans' hK (fun x hx h=>(h2 x).2 (.inl h))).trans' hke (fun x hx e=>e ▸ hD1)
    ·rintro b (h | rfl | rfl)
     ·exact (hD'' b h).imp (fun h=>(h2 b).2 (.inl h)) id
     ·exact .inl hD1
     ·exact .inl ((h2 _).2 (.inr (.inr rfl)))
    ·intro h;rcases hD'' _ h with h | h
     ·exact h5 h
     ·omega
    ·intro h;rcases hD'' _ h with h | h
     ·exact h6 h
     ·omega
    ·exact hl.put_same _
    ·exact hd.put_other (by omega) _
   intro e a' W1' hq;cases e with
   | normal =>
    obtain⟨D'',hK,hD'',hc⟩:=hq
    obtain⟨f1,f2,f3,f4,f5,f6,f7,f8⟩:=fin none D'' W1' hK hD''
    exact⟨_,_,f1,fun b=>D'' b∨b=w.heap.size+1∨b=w.heap.size,(hX.mono (fun _ _ h=>h.elim)).trans f2,fun b hb=>(f4 b hb).imp id (fun h=>Nat.le_trans hXs h),.inl ⟨rfl,D'',(hC _).keeps hc f3 (fun b hb e=>f5 (e ▸ hb)),fun _=>Iff.rfl,f5,f6,f7,f8⟩⟩
   | ret =>
    obtain⟨D'',hK,hD'',hc⟩:=hq
    obtain⟨f1,f2,f3,f4,f5,f6,f7,f8⟩:=fin (some .ret) D'' W1' hK hD''
    exact⟨_,_,f1,fun b=>D'' b∨b=w.heap.size+1∨b=w.heap.size,(hX.mono (fun _ _ h=>h.elim)).trans f2,fun b hb=>(f4 b hb).imp id (fun h=>Nat.le_trans hXs h),.inr ⟨rfl,.ret,D'',(hCj _ _ _ _ hc).elim,fun _=>Iff.rfl,f5,f6,f7,f8⟩⟩
   | exit i =>
    obtain⟨D'',hK,hD'',hc⟩:=hq
    obtain⟨f1,f2,f3,f4,f5,f6,f7,f8⟩:=fin (some (.exit i)) D'' W1' hK hD''
    exact⟨_,_,f1,fun b=>D'' b∨b=w.heap.size+1∨b=w.heap.size,(hX.mono (fun _ _ h=>h.elim)).trans f2,fun b hb=>(f4 b hb).imp id (fun h=>Nat.le_trans hXs h),.inr ⟨rfl,.exit i,D'',(hCj _ _ _ _ hc).elim,fun _=>Iff.rfl,f5,f6,f7,f8⟩⟩
   | goto t=>exact hq.elim
   | panic ch=>exact hq.elim
   | outgrown=>exact hq.elim
end
end Go.Proofs.YtcpnjmcipainpaaGreatDoor
