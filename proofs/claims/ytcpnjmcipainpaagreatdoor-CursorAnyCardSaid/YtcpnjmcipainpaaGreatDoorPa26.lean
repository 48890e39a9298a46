/- Parts of the proof, one behind the other: CurC, PairEq, CurD, CurE, CurF, EntRow, CurG, CurH, IterP, CurI, CurJ. Each is under no condition but those that it states. -/
import Derived.Test.YtcpnjmcipainpaaGreatDoorPa25
import Derived.Test.YtcpnjmcipainpaaGreatDoorPa17
import Derived.Test.YtcpnjmcipainpaaGreatDoorPa12
namespace Go.Proofs.YtcpnjmcipainpaaGreatDoor
set_option linter.unusedSimpArgs false
set_option linter.unusedVariables false
set_option maxRecDepth 100000
set_option maxHeartbeats 16000000
section
open Go Go.RowKit
attribute [local go_sem] Oper.semAt_some
theorem jiu(W:World)(c:Nat)(r q)(n:jac)(hn:n.refs.length=16)(hr:r.size≤1000)(hq:cutN r=some q)(hh:jds r q=none)(hi:∀ w,Calls Tryz.prog 119 #[.string r] w fun e w'=>e=.returned (.tuple #[n.V,.bool true])∧Ext w w') :
  Calls Tryz.prog 224 #[.pointer (some ⟨c,0,none⟩),.string r] W fun e w'=>e=.returned (.tuple #[n.V,.bool true])∧Ext W w':=by
 have HQ:=Hd hq;have HH:=Hd hh;have HI:=Hd hi;have HN:=Hd hn;have HL:=Hd (n.cells_len hn);clear hq hh hi hn;go_enter Tryz.func224,Tryz.ntmps224;go_wp2_with (refine jak Tryz.allocNode rfl rfl ?_;intro W1 hB1 hE1)
 refine (jdi W1 r q (by omega) HQ.o).mono ?_;rintro e w2 ⟨rfl,hE⟩;rw[HH.o];unfold optV;have HB2:=Hd (hB1.keeps hE (fun h=>h));have HE2:=Hd (hE1.trans hE);clear hE hB1 hE1;go_wp2_with fail
 refine (HI.o w2).mono ?_;rintro e w3 ⟨rfl,hE⟩;have hB3:=HB2.o.keeps hE (fun h=>h);have HE3:=Hd (HE2.o.trans hE);clear hE;unfold jac.V;go_wp2_with (refine jaf (vs:=n.cells) rfl rfl rfl rfl hB3 (by rw[HL.o];rfl) (by rw[HL.o];exact Tryz.szNode) n.one ?_;intro W8 hB8 hE8)
 refine bodyPost_ret (jag rfl rfl rfl (jal W8 _ n HN.o hB8)) rfl ?_
 exact⟨rfl,HE3.o.trans' hE8 (fun x hx e=>by have e:x=W.heap.size:=e;omega)⟩
theorem jlD(W:World)(c s bm:Nat)(room:Int)(S:List Nd5)(fr:ByteArray)(v:Value)(ps:List Pl5)(lk:Int)(h:jaS W c s fr v ps lk)(hs:jat W s bm room S)(x t k:ByteArray)(q)(f:Nat)(n:jac)(hg:jbl (InlD f) n)(ht:t=jaK n)
  (hx:x.size≤1000) (hq:cutN x=some q) (hh:jds x q=some k) (y:Nd5) (hy:atL S k.data.toList=some y) (hyt:y.2.2.text=t) :
  Calls Tryz.prog 224 #[.pointer (some ⟨c,0,none⟩),.string x] W fun e w'=>e=.returned (.tuple #[n.V,.bool true])∧Ext W w':=by
 have q0:=h.cur.cell (i:=0) (v:=.pointer (some ⟨s,0,none⟩)) (by rfl);have HS:=Hd hs;have HQ:=Hd hq;have HH:=Hd hh;have HT:=Hd ht;have HG:=Hd hg;have hn:=(hg.one (inlP f)).refs;have HN:=Hd hn;have HL:=Hd (n.cells_len hn);have hsg:=fun w (h:jat w s bm room S)=>jgq w s bm room S k h;rw[hy]at hsg;have hye:(some y).map (fun z:Nd5=>z.2.2.text)=some t:=by rw[←hyt];rfl
 simp only[hye]at hsg;have HSG:=Hd hsg;clear h hs hq hh ht hg hn hy hyt hsg hye;go_enter Tryz.func224,Tryz.ntmps224;go_wp2_with (refine jak Tryz.allocNode rfl rfl ?_;intro W1 hB1 hE1)
 refine (jdi W1 x q (by omega) HQ.o).mono ?_;rintro e w2 ⟨rfl,hE⟩;rw[HH.o];unfold optV;have HB2:=Hd (hB1.keeps hE (fun h=>h));have HE2:=Hd (hE1.trans hE);have q0:=jab q0 HE2.o;clear hE hB1 hE1;go_wp2_with fail
 refine (HSG.o w2 (HS.o.ext HE2.o)).mono ?_;rintro e w3 ⟨rfl,hE⟩;unfold optV;have HB3:=Hd (HB2.o.keeps hE (fun h=>h));have HE3:=Hd (HE2.o.trans hE);clear hE HB2;go_wp2_with fail
 rw[HT.o];refine (jfq (inlP f) w3 n HG.o).mono ?_;rintro e w4 ⟨rfl,hE⟩;rw[←HT.o];have hB4r:=HB3.o.keeps hE (fun h=>h);have HE4:=Hd (HE3.o.trans hE);clear hE HB3;unfold jac.V;go_wp2_with (first |(refine jak Tryz.allocNode rfl rfl ?_;intro W5 hB5 hE5;refine jaf (vs:=n.cells) rfl rfl rfl rfl hB5 (by rw[HL.o];rfl) (by rw[HL.o];exact Tryz.szNode) n.one ?_;intro W6 hB6 hE6;have hB46:=(hB4r.keeps hE5 (fun h=>h)).keeps hE6 (by have:=hB4r.lt;omega)) |(refine jah 144 (.tmp 9) rfl rfl _ _ rfl (jap _ _ n HN.o hB6) ?_) |(refine jaf (vs:=n.cells) rfl rfl rfl rfl hB46 (by rw[HL.o];rfl) (by rw[HL.o];exact Tryz.szNode) n.one ?_;intro W8 hB8 hE8))
 refine bodyPost_ret (jag rfl rfl rfl (jal W8 _ n HN.o hB8)) rfl ?_;have hX6:Ext w4 W6:=hE5.trans' hE6 (fun x hx e=>by have e:x=w4.heap.size:=e;omega)
 exact⟨rfl,(HE4.o.trans hX6).trans' hE8 (fun x hx e=>by have e:x=W.heap.size:=e;omega)⟩
theorem jkd(W:World)(c s bm:Nat)(room:Int)(S:List Nd5)(fr:ByteArray)(v:Value)(ps:List Pl5)(lk:Int)(h:jaS W c s fr v ps lk)(hs:jat W s bm room S)(x k:ByteArray)(q)(hx:x.size≤1000)(hq:cutN x=some q)(hh:jds x q=some k)(hy:atL S k.data.toList=none) :
  Calls Tryz.prog 224 #[.pointer (some ⟨c,0,none⟩),.string x] W fun e w'=>e=.returned (.tuple #[jar.V,.bool false])∧Ext W w':=by
 have q0:=h.cur.cell (i:=0) (v:=.pointer (some ⟨s,0,none⟩)) (by rfl);have HS:=Hd hs;have HQ:=Hd hq;have HH:=Hd hh;have hsg:=fun w (h:jat w s bm room S)=>jgq w s bm room S k h;rw[hy]at hsg;have HSG:=Hd hsg;clear h hs hq hh hy hsg;go_enter Tryz.func224,Tryz.ntmps224;go_wp2_with (refine jak Tryz.allocNode rfl rfl ?_;intro W1 hB1 hE1)
 refine (jdi W1 x q (by omega) HQ.o).mono ?_;rintro e w2 ⟨rfl,hE⟩;rw[HH.o];unfold optV;have HB2:=Hd (hB1.keeps hE (fun h=>h));have HE2:=Hd (hE1.trans hE);have q0:=jab q0 HE2.o;clear hE hB1 hE1;go_wp2_with fail
 refine (HSG.o w2 (HS.o.ext HE2.o)).mono ?_;rintro e w3 ⟨rfl,hE⟩;rw[show optV ((none:Option Nd5).map (·.2.2.text))=.tuple #[.string ⟨#[]⟩,.bool false]from rfl];have hB3:=HB2.o.keeps hE (fun h=>h);have HE3:=Hd (HE2.o.trans hE);clear hE HB2;go_wp2_with (refine jaf (vs:=jar.cells) rfl rfl rfl rfl hB3 rfl Tryz.szNode jar.one ?_;intro W8 hB8 hE8)
 refine bodyPost_ret (jag rfl rfl rfl (jal W8 _ jar rfl hB8)) rfl ?_
 exact⟨rfl,HE3.o.trans' hE8 (fun x hx e=>by have e:x=W.heap.size:=e;omega)⟩
theorem jpg(W:World)(c s bm:Nat)(room:Int)(S:List Nd5)(fr:ByteArray)(v:Value)(ps:List Pl5)(lk:Int)(h:jaS W c s fr v ps lk)(hs:jat W s bm room S){r:ByteArray}{n:jac}(hr:jfS S r (some n)) :
  Calls Tryz.prog 224 #[.pointer (some ⟨c,0,none⟩),.string r] W fun e w'=>e=.returned (.tuple #[n.V,.bool true])∧Ext W w':=by
 rcases hr with⟨d,m,hI,hm⟩ |⟨k,h1,h2,⟨_,h3⟩ |⟨y,m,h3,h4,hm⟩⟩
 ·obtain rfl:=Option.some.inj hm
  obtain⟨q,h1,h2⟩:=(inlP d).nohash _ _ hI
  exact jiu W c _ q n ((inlP d).refs _ _ hI) (by have:=(inlP d).small _ _ hI;omega) h1 h2 ((inlP d).inl _ _ hI)
 ·cases h3
 ·obtain rfl:=Option.some.inj hm
  obtain⟨q,h5,h6⟩:=jdt k h1
  obtain⟨h4,g,h7⟩:=h4
  rw[h2];refine jlD W c s bm room S fr v ps lk h hs _ y.2.2.text k q g n h7 h4 ?_ h5 h6 y h3 rfl
  have:=jaM k
  omega
theorem jnq(W:World)(c s bm:Nat)(room:Int)(S:List Nd5)(fr:ByteArray)(v:Value)(ps:List Pl5)(lk:Int)(h:jaS W c s fr v ps lk)(hs:jat W s bm room S){r:ByteArray}(hr:jfS S r none) :
  Calls Tryz.prog 224 #[.pointer (some ⟨c,0,none⟩),.string r] W fun e w'=>e=.returned (.tuple #[jar.V,.bool false])∧Ext W w':=by
 rcases hr with⟨d,m,hI,hm⟩ |⟨k,h1,h2,⟨h3,_⟩ |⟨y,m,h3,h4,hm⟩⟩
 ·cases hm
 ·obtain⟨q,h5,h6⟩:=jdt k h1
  rw[h2];refine jkd W c s bm room S fr v ps lk h hs _ k q ?_ h5 h6 h3
  have:=jaM k
  omega
 ·cases hm
theorem jnT{w:World}{B:Nat}{T:TypeId}{sz g n cap m:Nat}{xs:List Value}(h:w.ownsRow B T sz (.slice (some ⟨g,0,none⟩) n cap) n xs)(hm:m≤n):w.ownsRow B T sz (.slice (some ⟨g,0,none⟩) m cap) m (xs.take (m * sz)):=by
 obtain⟨h1,⟨h2,_⟩ |⟨g',cap',cur,h2,h3,h4,h5,h6,h7,h8⟩⟩:=h
 ·cases h2
 ·have hms:m * sz≤n * sz:=Nat.mul_le_mul_right _ hm
  obtain⟨ha,_,hc⟩:=Value.slice.inj h2
  have hg:g=g':=by have:=Option.some.inj ha;exact congrArg Addr.block this
  subst hg hc
  refine⟨by rw[List.length_take,h1];omega,.inr ⟨g,cap,cur,rfl,h3,h4,Nat.le_trans hm h5,h6,h7,?_⟩⟩
  rw[←h8,List.take_take,Nat.min_eq_left hms]
theorem jj3(ps:List Pl5)(t:Pl5):(jbJ (ps++[t])).take (ps.length * 3)=jbJ ps:=by
 rw[jbX, ←jf6];exact List.take_left
theorem jj2(ps:List Pl5)(t:Pl5):(jbJ (ps++[t]))[ps.length * 3]?=some (.string t.path)∧(jbJ (ps++[t]))[ps.length * 3+1]?=some (.string t.value)∧(jbJ (ps++[t]))[ps.length * 3+2]?=some (.string t.ref):=by
 rw[jbX, ←jf6,jdF]
 refine⟨?_,?_,?_⟩
 ·rw[List.getElem?_append_right (by omega),Nat.sub_self];rfl
 ·rw[List.getElem?_append_right (by omega),show (jbJ ps).length+1 - (jbJ ps).length=1 by omega];rfl
 ·rw[List.getElem?_append_right (by omega),show (jbJ ps).length+2 - (jbJ ps).length=2 by omega];rfl
theorem jaS.last{W:World}{c s:Nat}{fr:ByteArray}{v:Value}{ps:List Pl5}{t:Pl5}{lk:Int}(h:jaS W c s fr v (ps++[t]) lk) :
  ∃ g cap,v=.slice (some ⟨g,0,none⟩) (ps.length+1) cap∧ps.length+1≤cap∧W.cell? ⟨g,ps.length * 3,none⟩=some (.string t.path)∧W.cell? ⟨g,ps.length * 3+1,none⟩=some (.string t.value)∧W.cell? ⟨g,ps.length * 3+2,none⟩=some (.string t.ref):=by
 have hr:=h.row
 obtain⟨h1,⟨h2,h3⟩ |⟨g,cap,cur,h2,h3,h4,h5,h6,h7,h8⟩⟩:=h.row
 ·simp at h3
 ·rw[List.length_append]at h2 h5
  have h2:v=.slice (some ⟨g,0,none⟩) (ps.length+1) cap:=h2;have h5:ps.length+1≤cap:=h5;have hc:∀ j u,(jbJ (ps++[t]))[j]?=some u→W.cell? ⟨g,j,none⟩=some u:=fun j u hj=>by
   have:=World.ownsRow.cells (g:=g) hr (by rw[h2];rfl) j u hj
   rwa [Addr.add_lit,Nat.zero_add]at this
  obtain⟨c1,c2,c3⟩:=jj2 ps t
  exact⟨g,cap,h2,h5,hc _ _ c1,hc _ _ c2,hc _ _ c3⟩
structure CurI(S:List Nd5)(c s:Nat)(fr:ByteArray)(R:List Pair)(W:World)(v:Value)(ts:List Pl5)(N k:Nat):Prop where
 left:jaS W c s fr v ts.reverse (k:Int)
 stk:jdk S fr k ts R
 look:k≤400
 len:ts.length≤17 * k
def jo0(S:List Nd5)(c s:Nat)(fr:ByteArray)(R:List Pair)(W:World)(v:Value)(e:Ending)(w':World):Prop:=
 ∃ (v':Value) (ts:List Pl5) (N k:Nat),jaP c s fr W v w' v' ts.reverse (k:Int)∧CurI S c s fr R w' v' ts N k ∧
  ((R=[]∧e=.returned (.bool false))∨(∃ t r R',ts=t :: r∧R=(t.path,t.value) :: R'∧t.value.size≠0∧jck t.path=true∧t.path.size≤6000∧jdk S fr k r R'∧e=.returned (.bool true)))
theorem jaS.types{W:World}{c s:Nat}{fr:ByteArray}{v:Value}{ps:List Pl5}{lk:Int}(h:jaS W c s fr v ps lk){b:Nat}(hb:b=c∨v.ownBlock=some b):∃ cur T,Blk W b (.cells cur T)∧(T=151∨T=254):=by
 rcases hb with rfl | hb
 ·exact⟨_,_,h.cur,.inl rfl⟩
 ·obtain⟨h1,h2 |⟨g,cap,cur,h2,h3,h4,h5⟩⟩:=h.row
  ·rw[h2.1]at hb;cases hb
  ·rw[h2]at hb
   have e:some g=some b:=hb;obtain rfl:=Option.some.inj e
   exact⟨cur,_,h4,.inr rfl⟩
theorem jat.cur{W W':World}{s bm c:Nat}{room:Int}{S:List Nd5}{fr:ByteArray}{v:Value}{ps:List Pl5}{lk:Int}(h:jat W s bm room S)(hl:jaS W c s fr v ps lk)(k:jae (fun b=>b=c∨v.ownBlock=some b) W W'):jat W' s bm room S:=by
 have hno:∀ (b:Nat) (cur:Array Value) (T:TypeId) (fz:Nat × Nat),(b=c∨v.ownBlock=some b)→Blk W b (.cells cur T fz)→T=151∨T=254:=fun b cur T fz hb hB=>by
  obtain⟨cur',T',hB',hT⟩:=hl.types hb
  have:=hB.uniq hB'
  injection this with _ e _;rw[e];exact hT
 refine⟨h.st.keeps k fun hb=>?_,h.mp.keeps k (fun hb=>?_) (fun x hx hb=>?_) fun b cur fz hb hB=>?_⟩
 ·have:=hno _ _ _ _ hb h.st
  revert this;decide
 ·obtain⟨es,ck,h1,_⟩:=h.mp.mp
  obtain⟨cur',T',hB',_⟩:=hl.types hb
  have:=h1.uniq hB';cases this
 ·obtain⟨rv,h1,_⟩:=(h.mp.items x hx).cells
  have:=hno _ _ _ _ hb h1
  revert this;decide
 ·have:=hno _ _ _ _ hb hB
  revert this;decide
theorem jaS.cutRow{W:World}{c s:Nat}{fr:ByteArray}{ps:List Pl5}{t:Pl5}{lk:Int}{g cap:Nat}(h:jaS W c s fr (.slice (some ⟨g,0,none⟩) (ps.length+1) cap) (ps++[t]) lk):W.ownsRow 0 254 3 (.slice (some ⟨g,0,none⟩) ps.length cap) ps.length (jbJ ps)∧g≠c:=by
 have hr:=h.row;rw[List.length_append]at hr
 have:=jnT (m:=ps.length) hr (Nat.le_add_right _ _)
 rw[jj3]at this
 exact⟨this,fun e=>h.ne (by rw[←e];rfl)⟩
theorem jaS.pop{W:World}{c s:Nat}{fr:ByteArray}{ps:List Pl5}{t:Pl5}{lk:Int}{g cap:Nat}(h:jaS W c s fr (.slice (some ⟨g,0,none⟩) (ps.length+1) cap) (ps++[t]) lk)(k':Int) :
  jaP c s fr W (.slice (some ⟨g,0,none⟩) (ps.length+1) cap) ((W.setCell ⟨c,3,none⟩ (.int .i64 k')).setCell ⟨c,2,none⟩ (.slice (some ⟨g,0,none⟩) ps.length cap)) (.slice (some ⟨g,0,none⟩) ps.length cap) ps k':=by
 obtain⟨h1,h2⟩:=h.cutRow
 have k1:=jae.oneSet W ⟨c,3,none⟩ (.int .i64 k');have k2:=jae.oneSet (W.setCell ⟨c,3,none⟩ (.int .i64 k')) ⟨c,2,none⟩ (.slice (some ⟨g,0,none⟩) ps.length cap);have hg:∀ b:Nat,(Value.slice (some ⟨g,0,none⟩) ps.length cap).ownBlock=some b→¬ b=c:=fun b hb e=>by
  have e1:some g=some b:=hb;exact h2 ((Option.some.inj e1).trans e)
 refine⟨⟨(h.cur.set_same _).set_same _,jaG (jaG h1 k1 hg) k2 hg,fun e=>hg c e rfl⟩,?_,.inl rfl⟩
 exact (k1.mono (fun _ _ g=>.inl g)).trans' k2 (fun _ _ g=>.inl g)
theorem jaS.cut{W:World}{c s:Nat}{fr:ByteArray}{ps:List Pl5}{t:Pl5}{lk:Int}{g cap:Nat}(h:jaS W c s fr (.slice (some ⟨g,0,none⟩) (ps.length+1) cap) (ps++[t]) lk) :
  jaP c s fr W (.slice (some ⟨g,0,none⟩) (ps.length+1) cap) (W.setCell ⟨c,2,none⟩ (.slice (some ⟨g,0,none⟩) ps.length cap)) (.slice (some ⟨g,0,none⟩) ps.length cap) ps lk:=by
 obtain⟨h1,h2⟩:=h.cutRow
 have k2:=jae.oneSet W ⟨c,2,none⟩ (.slice (some ⟨g,0,none⟩) ps.length cap);have hg:∀ b:Nat,(Value.slice (some ⟨g,0,none⟩) ps.length cap).ownBlock=some b→¬ b=c:=fun b hb e=>by
  have e1:some g=some b:=hb;exact h2 ((Option.some.inj e1).trans e)
 exact⟨⟨h.cur.set_same _,jaG h1 k2 hg,fun e=>hg c e rfl⟩,k2.mono (fun _ _ g=>.inl g),.inl rfl⟩
theorem jmF{S:List Nd5}{fr:ByteArray}{k:Nat}{t:Pl5}{r:List Pl5}{R:List Pair}(h:jdk S fr k (t :: r) R) :
  (∃ R',t.value.size≠0∧jck t.path=true∧t.path.size≤13 * (k+1)∧R=(t.path,t.value) :: R'∧jdk S fr k r R')∨(t.value=⟨#[]⟩∧400≤k∧R=[])∨(t.value=⟨#[]⟩∧k < 400∧R=[]∧jfS S t.ref none) ∨
  ∃ n,t.value=⟨#[]⟩∧k < 400∧t.path.size≤13 * (k+1)∧jfS S t.ref (some n)∧jdk S fr (k+1) ((layP fr n t.path).reverse++r) R:=by
 cases h with
 | val _ _ _ R' h1 h2 h3 h4=>exact .inl ⟨R',h1,h2,h3,rfl,h4⟩
 | many _ _ _ h1 h2=>exact .inr (.inl ⟨h1,h2,rfl⟩)
 | no _ _ _ h1 h2 h3=>exact .inr (.inr (.inl ⟨h1,h2,rfl,h3⟩))
 | go _ _ _ n _ h1 h2 h3 h4 h5=>exact .inr (.inr (.inr ⟨n,h1,h2,h3,h4,h5⟩))
theorem jaS.clr{W:World}{c s:Nat}{fr:ByteArray}{v:Value}{ps:List Pl5}{lk:Int}(h:jaS W c s fr v ps lk):jaP c s fr W v (W.setCell ⟨c,2,none⟩ (.slice none 0 0)) (.slice none 0 0) [] lk:=
 ⟨⟨h.cur.set_same _,World.ownsRow_nil _ _ _ _,fun e=>by cases e⟩,(jae.oneSet W ⟨c,2,none⟩ _).mono (fun _ _ g=>.inl g),.inr fun b e=>by cases e⟩
def lkOf(c:Nat)(W:World):Nat:=match W.cell? ⟨c,3,none⟩with | some (.int _ n)=>n.toNat | _=>0
theorem jhQ{W:World}{c s:Nat}{fr:ByteArray}{v:Value}{ps:List Pl5}{k:Nat}(h:jaS W c s fr v ps (k:Int)):lkOf c W=k:=by
 unfold lkOf;rw[h.cur.cell (i:=3) (v:=.int .i64 k) (by rfl)]
 simp
def jrh(S:List Nd5)(c s:Nat)(fr:ByteArray)(R:List Pair)(W:World)(v:Value)(bv:Value)(wr:World):Prop:=bv=.bool false∧∃ (v':Value) (ts:List Pl5) (N k:Nat),jaP c s fr W v wr v' ts.reverse (k:Int)∧CurI S c s fr R wr v' ts N k
theorem jog(W:World)(c s bm:Nat)(room:Int)(S:List Nd5)(fr:ByteArray)(R:List Pair)(v:Value)(ts:List Pl5)(N k:Nat)(hf:fr.size≤1000000)(hI:CurI S c s fr R W v ts N k)(hs:jat W s bm room S) :
  Calls Tryz.prog 186 #[.pointer (some ⟨c,0,none⟩)] W (jo0 S c s fr R W v):=by
 have HI:=Hd hI;have HS:=Hd hs;clear hI hs;go_enter Tryz.func186,Tryz.ntmps186;go_wp2_with fail
 go_loopw [2] (fun bv wr=>jrh S c s fr R W v bv wr) (fun _ wr=>400 - lkOf c wr)
 case atStart=>exact⟨rfl,v,ts,N,k,jaP.refl HI.o.left,HI.o⟩
 case round =>
  obtain⟨rfl,v',ts',N',k',hT,hI⟩:=hrel
  have HT:=Hd hT;have HI':=Hd hI;have HS':=Hd (HS.o.cur HI.o.left hT.kp);cases ts' with
  | nil =>
   have q2:=hI.left.cur.cell (i:=2) (v:=v') (by rfl);have hR:R=[]:=by have h:=hI.stk;cases h;rfl
   obtain⟨ad,cp,hv⟩:=jaH hI.left.row
   have hv:v'=.slice ad 0 cp:=hv;subst hv;clear hT hI;go_wp2_with fail
   go_ret
   exact⟨_,_,N',k',HT.o,HI'.o,.inl ⟨hR,rfl⟩⟩
  | cons t r =>
   have hl:=hI.left;rw[List.reverse_cons]at hl
   obtain⟨g,cap,hv,hcap,p1,p2,p3⟩:=hl.last
   have hlen:=hI.len
   obtain⟨m,hm⟩:∃ m,m=r.length:=⟨_,rfl⟩
   rw[List.length_reverse, ←hm]at hv hcap p1 p2 p3;rw[List.length_cons, ←hm]at hlen
   obtain⟨tp,htp⟩:∃ x,x=t.path:=⟨_,rfl⟩
   obtain⟨tv,htv⟩:∃ x,x=t.value:=⟨_,rfl⟩
   obtain⟨tr,htr⟩:∃ x,x=t.ref:=⟨_,rfl⟩
   rw[←htp]at p1;rw[←htv]at p2;rw[←htr]at p3;subst hv;have q2:=hl.cur.cell (i:=2) (v:=.slice (some ⟨g,0,none⟩) (m+1) cap) (by rfl);have q3:=hl.cur.cell (i:=3) (v:=.int .i64 (k':Int)) (by rfl);have f2:wr.frozen? ⟨c,2,none⟩=false:=hl.cur.frozen;have f3:wr.frozen? ⟨c,3,none⟩=false:=hl.cur.frozen;have HL:=Hd hl;have HM:=Hd hm;have hk4:k'≤400:=hI.look;have HLEN:=Hd hlen;have HD:=Hd (jmF hI.stk);have i1:((m+1:Nat):Int) - 1=(m:Int):=by omega
   have i2:(0:Int) < ((m+1:Nat):Int):=by omega
   have i3:(m:Int) < ((m+1:Nat):Int):=by omega
   have i4:(m:Int).toNat=m:=by omega
   have i5:(m:Int)≤(cap:Int):=by omega
   have i6:(m:Int)≤10000:=by omega
   have HTP:=Hd htp;have HTV:=Hd htv;have HTR:=Hd htr;clear hT hI hl hlen hm htp htv htr;rcases HD.o with⟨R',d1,d2,d3,d4,d5⟩ |⟨d1,d2,d3⟩ |⟨d1,d2,d3,d4⟩ |⟨n,d1,d2,d3,d4,d5⟩
   ·have hne:tv.toList.isEmpty=false:=by
     rw[Bool.eq_false_iff];intro e;rw[List.isEmpty_iff]at e;have h1:tv.toList.length=tv.size:=by rw[ByteArray.toList_eq];rfl
     rw[e]at h1;exact d1 (by rw[←HTV.o, ←h1];rfl)
    have HF:=Hd (And.intro d1 (And.intro d2 (And.intro d3 (And.intro d4 d5))));have HK4:=Hd hk4;clear d1 d2 d3 d4 d5;go_wp2_with fail
    go_ret
    obtain⟨d1,d2,d3,d4,d5⟩:=HF.o
    have hX:Ext wr (wr.alloc (.cells #[.string tp,.string tv,.string tr] 254)):=(ExtR wr).alloc _
    exact⟨_,t :: r,N',k',HT.o.ext hX,⟨HI'.o.left.ext hX,HI'.o.stk,HI'.o.look,HI'.o.len⟩,.inr ⟨t,r,R',rfl,d4,d1,d2,by have:=HK4.o;omega,d5,rfl⟩⟩
   ·have hk3:(400:Int)≤(k':Int):=by omega
    have hk5:¬(k':Int) < 400:=by omega
    have hne:tv=⟨#[]⟩:=by rw[HTV.o,d1]
    have HR:=Hd d3;clear d1 d2 d3;rw[hne]at p2;clear hne;have q3a:(wr.alloc (.cells #[.string tp,.string ⟨#[]⟩,.string tr] 254)).cell? ⟨c,3,none⟩=some (.int .i64 (k':Int)):=jab q3 ((ExtR wr).alloc _);have q2a:(wr.alloc (.cells #[.string tp,.string ⟨#[]⟩,.string tr] 254)).cell? ⟨c,2,none⟩=some (.slice (some ⟨g,0,none⟩) (m+1) cap):=jab q2 ((ExtR wr).alloc _);have f2a:(wr.alloc (.cells #[.string tp,.string ⟨#[]⟩,.string tr] 254)).frozen? ⟨c,2,none⟩=false:=(HL.o.ext ((ExtR wr).alloc _)).cur.frozen;go_wp2_with fail
    go_ret;have hL:=(HL.o.ext ((ExtR wr).alloc (.cells #[.string tp,.string ⟨#[]⟩,.string tr] 254))).clr;have hT:=HT.o.trans (jaP.ahead ((ExtR wr).alloc _) hL)
    exact⟨_,[],N',k',hT,⟨hT.at',by rw[HR.o];exact .nil _,HI'.o.look,Nat.zero_le _⟩,.inl ⟨HR.o,rfl⟩⟩
   ·have hk3:¬(400:Int)≤(k':Int):=by omega
    have hk5:(k':Int) < 400:=by omega
    have hftc:∀ w,Ext wr w→Calls Tryz.prog 224 #[.pointer (some ⟨c,0,none⟩),.string tr] w fun e w'=>e=.returned (.tuple #[jar.V,.bool false])∧Ext w w':=fun w hw=>by
     rw[HTR.o];exact jnq w c s bm room S fr _ _ _ (HL.o.ext hw) (HS'.o.ext hw) d4
    have HFT:=Hd hftc;have HR:=Hd d3;have hne:tv=⟨#[]⟩:=by rw[HTV.o,d1]
    clear d1 d2 d3 d4 hftc;rw[hne]at p2;clear hne;have q3a:(wr.alloc (.cells #[.string tp,.string ⟨#[]⟩,.string tr] 254)).cell? ⟨c,3,none⟩=some (.int .i64 (k':Int)):=jab q3 ((ExtR wr).alloc _);go_wp2_with fail
    refine (HFT.o _ ((ExtR wr).alloc _)).mono ?_;rintro e w1 ⟨rfl,hE⟩;have HX1:=Hd (show Ext wr w1 from((ExtR wr).alloc _).trans hE);clear hE q2 q3 q3a f2 f3 p1 p2 p3;unfold jac.V;go_wp2_with (first |(refine jak Tryz.allocNode rfl rfl ?_;intro W5 hB5 hE5;refine jaf (vs:=jar.cells) rfl rfl rfl rfl hB5 rfl Tryz.szNode jar.one ?_;intro W6 hB6 hE6))
    go_ret;have hX6:Ext wr W6:=HX1.o.trans (hE5.trans' hE6 (fun x hx e=>by have e:x=w1.heap.size:=e;omega));have hT:=HT.o.ext hX6
    exact⟨_,t :: r,N',k',hT,⟨hT.at',HI'.o.stk,HI'.o.look,HI'.o.len⟩,.inl ⟨HR.o,rfl⟩⟩
   ·have hk3:¬(400:Int)≤(k':Int):=by omega
    have hk5:(k':Int) < 400:=by omega
    obtain⟨dd,hgd⟩:=d4.good
    have hrefs:=(hgd.one (inlP dd)).refs;have hkind:=(hgd.one (inlP dd)).kind;have hpath:=(hgd.one (inlP dd)).path;have hftc:∀ w,Ext wr w→Calls Tryz.prog 224 #[.pointer (some ⟨c,0,none⟩),.string tr] w fun e w'=>e=.returned (.tuple #[n.V,.bool true])∧Ext w w':=fun w hw=>by
     rw[HTR.o];exact jpg w c s bm room S fr _ _ _ (HL.o.ext hw) (HS'.o.ext hw) d4
    have HFT:=Hd hftc;have HRF:=Hd hrefs;have HKD:=Hd hkind;have HPT:=Hd hpath;have HCL:=Hd (n.cells_len hrefs);have HDD:=Hd (And.intro d3 d5);have HK5:=Hd d2;have hne:tv=⟨#[]⟩:=by rw[HTV.o,d1]
    clear d1 d2 d3 d4 d5 hgd hrefs hkind hpath hftc;rw[hne]at p2;clear hne;have q3a:(wr.alloc (.cells #[.string tp,.string ⟨#[]⟩,.string tr] 254)).cell? ⟨c,3,none⟩=some (.int .i64 (k':Int)):=jab q3 ((ExtR wr).alloc _);go_wp2_with fail
    refine (HFT.o _ ((ExtR wr).alloc _)).mono ?_;rintro e w1 ⟨rfl,hE⟩;have hX1:Ext wr w1:=((ExtR wr).alloc _).trans hE;have hP1:Blk w1 wr.heap.size (.cells #[.string tp,.string ⟨#[]⟩,.string tr] 254):=(Blk.new wr _).keeps hE (fun h=>h);have hcw:=(jab q2 hX1);have hclt:c < wr.heap.size:=HL.o.cur.lt;have hcne:w1.heap.size≠c:=by have:=hX1.size;omega
    have hpne:wr.heap.size≠c:=by omega
    have HX1:=Hd hX1;have HP1:=Hd hP1;have HCN:=Hd (And.intro hcne hpne);clear hE hX1 hP1 hcw hclt hcne hpne q2 q3 q3a f2 f3 p1 p2 p3;unfold jac.V;go_wp2_with (first |(refine jak Tryz.allocNode rfl rfl ?_;intro W5 hB5 hE5;refine jaf (vs:=n.cells) rfl rfl rfl rfl hB5 (by rw[HCL.o];rfl) (by rw[HCL.o];exact Tryz.szNode) n.one ?_;intro W6 hB6 hE6;have hX6:Ext wr W6:=HX1.o.trans (hE5.trans' hE6 (fun x hx e=>by have e:x=w1.heap.size:=e;omega));have q2:=(HL.o.ext hX6).cur.cell (i:=2) (v:=.slice (some ⟨g,0,none⟩) (m+1) cap) (by rfl);have q3:=(HL.o.ext hX6).cur.cell (i:=3) (v:=.int .i64 (k':Int)) (by rfl);have f3:W6.frozen? ⟨c,3,none⟩=false:=(HL.o.ext hX6).cur.frozen;have hB6w:=(hB6.set_other (p:=⟨c,3,none⟩) HCN.o.1 (.int .i64 ((k':Int)+1))).set_other (p:=⟨c,2,none⟩) HCN.o.1 (.slice (some ⟨g,0,none⟩) m cap);have hc3:=(HL.o.ext hX6).cur.set_same (i:=3) (.int .i64 ((k':Int)+1));have q2b:=hc3.cell (i:=2) (v:=.slice (some ⟨g,0,none⟩) (m+1) cap) (by rfl);have f2b:(W6.setCell ⟨c,3,none⟩ (.int .i64 ((k':Int)+1))).frozen? ⟨c,2,none⟩=false:=hc3.frozen;have hP6:=((((HP1.o.keeps hE5 (fun h=>h)).keeps hE6 (fun e=>by have:=HP1.o.lt;have e:wr.heap.size=w1.heap.size:=e;omega)).set_other (p:=⟨c,3,none⟩) HCN.o.2 (.int .i64 ((k':Int)+1))).set_other (p:=⟨c,2,none⟩) HCN.o.2 (.slice (some ⟨g,0,none⟩) m cap)).cell (i:=0) (v:=.string tp) (by rfl);have HX6:=Hd hX6;clear hB6 hc3 hX6 hE5 hE6 hB5) |(refine jah 144 (.tmp 5) rfl rfl _ _ rfl (jap _ _ n HRF.o hB6w) ?_))
    have hmr:m=r.reverse.length:=by rw[List.length_reverse];exact HM.o
    have hL6:=HL.o.ext HX6.o;rw[hmr]at hL6;have hpop:=hL6.pop ((k':Int)+1);rw[←hmr]at hpop;have hcast:((k':Int)+1)=((k'+1:Nat):Int):=by omega
    have HPOP:=Hd (jaP.ahead HX6.o hpop);clear hpop hL6 hB6w q2b f2b hP6 q2 q3 f3
    obtain⟨hd3,hd5⟩:=HDD.o
    have hpsz:tp.size≤100000:=by rw[HTP.o];have:=HK5.o;omega
    refine (jqB _ c s fr (.slice (some ⟨g,0,none⟩) m cap) r.reverse ((k':Int)+1) HPOP.o.at' (by rw[←hmr];omega) hf n HKD.o HRF.o tp (by have:=HPT.o;omega)).mono ?_;rintro e w9 ⟨rfl,v9,hT9⟩;have HT9:=Hd (HT.o.trans (HPOP.o.trans hT9));clear hT9;go_wp2_with fail
    have hres:=HT9.o;rw[hcast]at hres;have hrev:r.reverse++layP fr n tp=((layP fr n tp).reverse++r).reverse:=by simp
    rw[hrev]at hres;go_roundw
    case rel =>
     refine⟨rfl,v9,(layP fr n tp).reverse++r,0,k'+1,hres,hres.at',?_,?_,?_⟩
     ·rw[HTP.o];exact hd5
     ·have h1:=HK5.o;omega
     ·have h1:=jfz fr n tp;have h2:=HLEN.o;have h3:=HM.o
      rw[List.length_append,List.length_reverse];omega
    case measure =>
     have h1:=jhQ hres.at';have h2:=jhQ HI'.o.left;rw[h1,h2]
     have:=HK5.o
     omega
end
section
open Go Go.RowKit
theorem Tryz.isEntry:jeb (Tryz.prog.underlying 95)=true:=by kernel_rfl
theorem Tryz.szEntry:(Tryz.prog.info? 95).map (·.size)=some 2:=by kernel_rfl
theorem jfA{w:World}{b o:Nat}{x y:ByteArray}(h1:w.cell? ⟨b,o,none⟩=some (.string x))(h2:w.cell? ⟨b,o+1,none⟩=some (.string y)):(Instr.loadAt 95 (.pointer (some ⟨b,o,none⟩))).run Tryz.prog w=.ok (.agg #[.string x,.string y]) w:=by
 obtain⟨fs,hu⟩:=jdL Tryz.isEntry
 refine jcL (xs:=[.string x,.string y]) hu Tryz.szEntry (fun j v hv=>?_);rw[Addr.add_lit]
 match j,hv with
 | 0,hv=>simp at hv;subst hv;exact h1
 | 1,hv=>simp at hv;subst hv;exact h2
 | j+2,hv=>simp at hv
end
section
open Go Go.RowKit
attribute [local go_sem] Oper.semAt_some
theorem jne(W:World)(c s:Nat)(fr:ByteArray)(v:Value)(ps:List Pl5)(t:Pl5)(lk:Int)(h:jaS W c s fr v (ps++[t]) lk)(hps:ps.length≤100000) :
  Calls Tryz.prog 143 #[.pointer (some ⟨c,0,none⟩)] W (jcs c s fr W v ps lk):=by
 obtain⟨g,cap,hv,hcap,_⟩:=h.last
 obtain⟨m,hm⟩:∃ m,m=ps.length:=⟨_,rfl⟩
 rw[←hm]at hv hcap hps;subst hv;have q2:=h.cur.cell (i:=2) (v:=.slice (some ⟨g,0,none⟩) (m+1) cap) (by rfl);have H:=Hd h;have HM:=Hd hm;have Q2:=Hd q2;have i1:((m+1:Nat):Int) - 1=(m:Int):=by omega
 have i3:(m:Int)≤((m+1:Nat):Int):=by omega
 have i4:(m:Int).toNat=m:=by omega
 have i5:(m:Int)≤(cap:Int):=by omega
 have i6:(m:Int)≤100000:=by omega
 have i7:(0:Int)≤(m:Int):=by omega
 have i8:wrap64 ((m:Int))=(m:Int):=by unfold wrap64;omega
 clear h hm;go_enter Tryz.func143,Tryz.ntmps143;go_wp2_with fail
 refine jam [0,1,2,3,4,5,6,7,8,9,10,11,12,13,14] [14] Ext ExtR ExtT (by kernel_rfl) (by kernel_rfl) (by kernel_rfl) ?_;iterate 2 (refine jaj _ rfl (by kernel_rfl) rfl rfl (fun K hK=>?_);go_big_quiet_op;refine hK _ ?_;clear hK K)
 refine jb1 _ (.pointer (some ⟨c,0,none⟩)) rfl (by kernel_rfl) rfl (fun w1=>by kernel_rfl) ?_;simp only[Act.put,sA,sB,sC]
 (refine jaj _ rfl (by kernel_rfl) rfl rfl (fun K hK=>?_);go_big_quiet_op;refine hK _ ?_;clear hK K)
 refine jaA ⟨c,2,none⟩ _ rfl (by kernel_rfl) rfl rfl (fun w1 h1=>jaa Tryz.uPls rfl (jab Q2.o ((jav _).trans h1))) ?_;simp only[Act.put,sA,sB,sC]
 (refine jaj _ rfl (by kernel_rfl) rfl rfl (fun K hK=>?_);go_big_quiet_op;refine hK _ ?_;clear hK K)
 refine jb1 _ (.pointer (some ⟨c,0,none⟩)) rfl (by kernel_rfl) rfl (fun w1=>by kernel_rfl) ?_;simp only[Act.put,sA,sB,sC]
 (refine jaj _ rfl (by kernel_rfl) rfl rfl (fun K hK=>?_);go_big_quiet_op;refine hK _ ?_;clear hK K)
 refine jaA ⟨c,2,none⟩ _ rfl (by kernel_rfl) rfl rfl (fun w1 h1=>jaa Tryz.uPls rfl (jab Q2.o ((jav _).trans h1))) ?_;simp only[Act.put,sA,sB,sC];iterate 3 (refine jaj _ rfl (by kernel_rfl) rfl rfl (fun K hK=>?_);go_big_quiet_op;refine hK _ ?_;clear hK K)
 refine jb1 _ (.pointer (some ⟨c,0,none⟩)) rfl (by kernel_rfl) rfl (fun w1=>by kernel_rfl) ?_;simp only[Act.put,sA,sB,sC]
 (refine jaj _ rfl (by kernel_rfl) rfl rfl (fun K hK=>?_);go_big_quiet_op;refine hK _ ?_;clear hK K)
 refine ja4 _ rfl (by kernel_rfl) rfl (fun w4 he K hK=>?_);have h4:=H.o.ext ((jav _).trans he);have q1:w4.cell? ⟨c,2,none⟩=some (.slice (some ⟨g,0,none⟩) (m+1) cap):=h4.cur.cell (i:=2) (by rfl);have f1:w4.frozen? ⟨c,2,none⟩=false:=h4.cur.frozen;have HX4:=Hd (show Ext W w4 from(jav _).trans he);rw[HM.o]at h4;have hcut:=h4.cut;rw[←HM.o]at hcut;have HCUT:=Hd (jaP.ahead HX4.o hcut);clear he h4 hcut;go_simp;refine hK _ _ ?_;clear hK K q1 f1;refine jaX (by kernel_rfl) (fun w5 he=>?_);have HF:=Hd (HCUT.o.ext he);clear he;refine bodyPost_end (results_none rfl _ _ _) rfl ?_
 exact⟨rfl,_,HF.o⟩
theorem jaS.keeps{W W':World}{c s:Nat}{fr:ByteArray}{v:Value}{ps:List Pl5}{lk:Int}{F:BSet}(h:jaS W c s fr v ps lk)(k:jae F W W')(h1:¬ F c)(h2:∀ b,v.ownBlock=some b→¬ F b):jaS W' c s fr v ps lk:=⟨h.cur.keeps k h1,jaG h.row k h2,h.ne⟩
theorem jaP.other{c s:Nat}{fr:ByteArray}{W W' W'':World}{v v':Value}{ps:List Pl5}{lk:Int}{F:BSet}(h:jaP c s fr W v W' v' ps lk)(k:jae F W' W'')(hF:∀ x,F x→W.heap.size≤x∧x≠c∧v'.ownBlock≠some x):jaP c s fr W v W'' v' ps lk:=
 ⟨h.at'.keeps k (fun e=>(hF c e).2.1 rfl) (fun b hb e=>(hF b e).2.2 hb),h.kp.trans' k (fun x hx e=>by have:=(hF x e).1;omega),h.new⟩
theorem jb6{w:World}{b:Nat}{x y:ByteArray}(hB:Blk w b (.cells #[.string x,.string y] 95)):(loadVar 95 ⟨b,0,none⟩).run Tryz.prog w=.ok (.agg #[.string x,.string y]) w:=by
 have:=jfA (b:=b) (o:=0) (hB.cell (i:=0) (by rfl)) (hB.cell (i:=1) (by rfl))
 simpa [Instr.loadAt,Instr.sureAddr,Sem.run_bind,Result.andThen]using this
def jfY:List Pair→Value
 | []=>.tuple #[.agg #[.string ⟨#[]⟩,.string ⟨#[]⟩],.bool false]
 | q :: _=>.tuple #[.agg #[.string (jbD q.1),.string q.2],.bool true]
def jq9(S:List Nd5)(c s:Nat)(fr:ByteArray)(R:List Pair)(W:World)(v:Value)(e:Ending)(w':World):Prop:=
 ∃ (v':Value) (ts:List Pl5) (N k:Nat),jaP c s fr W v w' v' ts.reverse (k:Int)∧CurI S c s fr R w' v' ts N k∧e=.returned (jfY R) ∧
  (R=[]∨(∃ t r R',ts=t :: r∧R=(t.path,t.value) :: R'∧jck t.path=true∧jdk S fr k r R'))
theorem Tryz.isPl:jeb (Tryz.prog.underlying 254)=true:=by kernel_rfl
theorem Tryz.szPl:(Tryz.prog.info? 254).map (·.size)=some 3:=by kernel_rfl
theorem Tryz.allocPl:∀ w,(Instr.alloc 254 true (.tuple #[])).run Tryz.prog w=.ok (.pointer (some ⟨w.heap.size,0,none⟩)) (w.alloc (.cells [Value.string ⟨#[]⟩,.string ⟨#[]⟩,.string ⟨#[]⟩].toArray 254)):=fun w=>by kernel_rfl
theorem jpv{w:World}{b o:Nat}{x y z:ByteArray}(h1:w.cell? ⟨b,o,none⟩=some (.string x))(h2:w.cell? ⟨b,o+1,none⟩=some (.string y))(h3:w.cell? ⟨b,o+2,none⟩=some (.string z)):(Instr.loadAt 254 (.pointer (some ⟨b,o,none⟩))).run Tryz.prog w=.ok (.agg #[.string x,.string y,.string z]) w:=by
 obtain⟨fs,hu⟩:=jdL Tryz.isPl
 refine jcL (xs:=[.string x,.string y,.string z]) hu Tryz.szPl (fun j v hv=>?_);rw[Addr.add_lit]
 match j,hv with
 | 0,hv=>simp at hv;subst hv;exact h1
 | 1,hv=>simp at hv;subst hv;exact h2
 | 2,hv=>simp at hv;subst hv;exact h3
 | j+3,hv=>simp at hv
theorem joH(W:World)(c s bm:Nat)(room:Int)(S:List Nd5)(fr:ByteArray)(R:List Pair)(v:Value)(ts:List Pl5)(N k:Nat)(hf:fr.size≤1000000)(hI:CurI S c s fr R W v ts N k)(hs:jat W s bm room S) :
  Calls Tryz.prog 142 #[.pointer (some ⟨c,0,none⟩)] W (jq9 S c s fr R W v):=by
 have HNE:=Hd (show W.heap.size≠c∧v.ownBlock≠some W.heap.size from⟨by have:=hI.left.cur.lt;omega,fun e=>by have:=jee hI.left.row e;omega⟩);have HS:=Hd (fun w (e:Ext W w)=>jog w c s bm room S fr R v ts N k hf ⟨hI.left.ext e,hI.stk,hI.look,hI.len⟩ (hs.ext e));clear hI hs;go_enter Tryz.func142,Tryz.ntmps142;go_wp2_with fail
 have hX0:Ext W (W.alloc (.cells #[.string ⟨#[]⟩,.string ⟨#[]⟩] 95)):=(ExtR W).alloc _;refine (HS.o _ hX0).mono ?_;rintro e w1 ⟨v1,ts1,N1,k1,hT,hI,hcase⟩;have hB0:Blk (W.alloc (.cells #[.string ⟨#[]⟩,.string ⟨#[]⟩] 95)) W.heap.size (.cells #[.string ⟨#[]⟩,.string ⟨#[]⟩] 95):=Blk.new W _;have hB1:=hT.blk hB0 HNE.o.1 HNE.o.2;have HB1:=Hd hB1;have HN1:=Hd (show v1.ownBlock≠some W.heap.size from fun e=>by
  rcases hT.new with h1 | h1
  ·exact HNE.o.2 (h1 ▸ e)
  ·have:=h1 _ e;simp at this;omega)
 have HT:=Hd (jaP.ahead hX0 hT);have HI:=Hd hI;clear hX0 hB0 hB1 hT hI;rcases hcase with⟨hR,rfl⟩ |⟨t,r,R',hts,hR,h1,h2,h3,h4,rfl⟩
 ·skip
  have hnv:jfY R=.tuple #[.agg #[.string ⟨#[]⟩,.string ⟨#[]⟩],.bool false]:=by rw[hR];rfl
  have HNV:=Hd hnv;have HR:=Hd hR;clear hnv hR;go_wp2_with (refine jaf (old:=[.string ⟨#[]⟩,.string ⟨#[]⟩]) (vs:=[.string ⟨#[]⟩,.string ⟨#[]⟩]) rfl rfl rfl rfl HB1.o rfl Tryz.szEntry (by intro u hu;simp at hu;rcases hu with rfl | rfl <;> rfl) ?_;intro W8 hB8 hE8)
  refine bodyPost_ret (jag rfl rfl rfl (jb6 hB8)) rfl ?_;have hF:∀ x,x=W.heap.size→W.heap.size≤x∧x≠c∧v1.ownBlock≠some x:=fun x e=>by subst e;exact⟨Nat.le_refl _,HNE.o.1,HN1.o⟩
  have hT8:=HT.o.other hE8 hF
  exact⟨v1,_,N1,k1,hT8,⟨hT8.at',HI.o.stk,HI.o.look,HI.o.len⟩,by rw[HNV.o];rfl,.inl HR.o⟩
 ·subst hts
  have hl:=HI.o.left;rw[List.reverse_cons]at hl
  obtain⟨g,cap,hv,hcap,p1,p2,p3⟩:=hl.last
  have hlen:=HI.o.len;have hlook:=HI.o.look;rw[List.length_cons]at hlen
  obtain⟨m,hm⟩:∃ m,m=r.length:=⟨_,rfl⟩
  rw[List.length_reverse, ←hm]at hv hcap p1 p2 p3;rw[←hm]at hlen
  obtain⟨tp,htp⟩:∃ x,x=t.path:=⟨_,rfl⟩
  obtain⟨tv,htv⟩:∃ x,x=t.value:=⟨_,rfl⟩
  obtain⟨tr,htr⟩:∃ x,x=t.ref:=⟨_,rfl⟩
  rw[←htp]at p1;rw[←htv]at p2;rw[←htr]at p3;subst hv;have hnv:jfY R=.tuple #[.agg #[.string (jbD tp),.string tv],.bool true]:=by rw[hR,htp,htv];rfl
  have Q2:=Hd (hl.cur.cell (i:=2) (v:=.slice (some ⟨g,0,none⟩) (m+1) cap) (by rfl));have P1:=Hd p1;have P2:=Hd p2;have P3:=Hd p3;have hky:=jpq;have HNV:=Hd hnv;have HR:=Hd hR;have hk2:jck tp=true:=by rw[htp];exact h2
  have hts:tp.size≤6000:=by rw[htp];exact h3
  have HK:=Hd (And.intro h2 h4);have HKY:=Hd (show ∀ w,Calls Tryz.prog 159 #[.string tp] w fun e w'=>e=.returned (.tuple #[.string (jbD tp),.bool true])∧Ext w w' from fun w=>by
   have:=jpq w tp (by omega)
   unfold keyV at this;rw[hk2]at this;exact this)
  have i1:((m+1:Nat):Int) - 1=(m:Int):=by omega
  have i3:(m:Int) < ((m+1:Nat):Int):=by omega
  have i4:(m:Int).toNat=m:=by omega
  have i6:(m:Int)≤100000:=by omega
  have i7:(0:Int)≤(m:Int):=by omega
  have i8:wrap64 ((m:Int))=(m:Int):=by unfold wrap64;omega
  have HCC:=Hd (show c < w1.heap.size from hl.cur.lt);have HGG:=Hd (show g < w1.heap.size from World.block_lt_of_cell? w1 _ p1);clear hl hcap p1 p2 p3 hlen hlook hm htp htv htr hnv hky hR hk2 h1 h2 h3 h4;go_wp2_with fail
  refine jbR [0,1,2,3,4,5,6,7,8,9,10,11,12,13] [12,13] Ext (jae (fun b=>w1.heap.size≤b)) ExtR ExtT (fun x y z h k=>jae.trans h k) (fun x y h=>h.mono (fun _ _ h=>h.elim)) (by kernel_rfl) (by kernel_rfl) (by kernel_rfl) ?_
  (refine ja5 _ rfl (by kernel_rfl) rfl rfl (fun K hK=>?_);go_big_quiet_op;refine hK _ ?_;clear hK K)
  refine jeX _ (.pointer (some ⟨c,0,none⟩)) rfl (by kernel_rfl) rfl (fun w1 _=>by kernel_rfl) ?_;simp only[Act.put,sA,sB,sC]
  (refine ja5 _ rfl (by kernel_rfl) rfl rfl (fun K hK=>?_);go_big_quiet_op;refine hK _ ?_;clear hK K)
  refine jb3 ⟨c,2,none⟩ _ rfl (by kernel_rfl) rfl rfl (fun w2 h2=>jaa Tryz.uPls rfl (jaY (jab Q2.o (jav _)) h2 (by have:=HCC.o;exact fun e=>absurd e (Nat.not_le.2 this)))) ?_;simp only[Act.put,sA,sB,sC]
  (refine ja5 _ rfl (by kernel_rfl) rfl rfl (fun K hK=>?_);go_big_quiet_op;refine hK _ ?_;clear hK K)
  refine jeX _ (.pointer (some ⟨c,0,none⟩)) rfl (by kernel_rfl) rfl (fun w1 _=>by kernel_rfl) ?_;simp only[Act.put,sA,sB,sC]
  (refine ja5 _ rfl (by kernel_rfl) rfl rfl (fun K hK=>?_);go_big_quiet_op;refine hK _ ?_;clear hK K)
  refine jb3 ⟨c,2,none⟩ _ rfl (by kernel_rfl) rfl rfl (fun w2 h2=>jaa Tryz.uPls rfl (jaY (jab Q2.o (jav _)) h2 (by have:=HCC.o;exact fun e=>absurd e (Nat.not_le.2 this)))) ?_;simp only[Act.put,sA,sB,sC];iterate 3 (refine ja5 _ rfl (by kernel_rfl) rfl rfl (fun K hK=>?_);go_big_quiet_op;refine hK _ ?_;clear hK K)
  refine jb3 ⟨g,m * 3,none⟩ _ rfl (by kernel_rfl) rfl rfl (fun w2 h2=>by
   have hng:¬ w1.heap.size≤g:=Nat.not_le.2 HGG.o;exact jpv (jaY (jab P1.o (jav _)) h2 hng) (jaY (jab P2.o (jav _)) h2 hng) (jaY (jab P3.o (jav _)) h2 hng)) ?_
  simp only[Act.put,sA,sB,sC];refine jbz _ rfl (by kernel_rfl) rfl (fun w2 he K hK=>?_);have HX2:=Hd (show Ext w1 w2 from(jav _).trans he);clear he;refine jdf (v:=.pointer (some ⟨w2.heap.size,0,none⟩)) (w':=w2.alloc (.cells [Value.string ⟨#[]⟩,.string ⟨#[]⟩,.string ⟨#[]⟩].toArray 254)) (by simp only[execOp,Sem.run_bind,Tryz.allocPl,Result.andThen,Sem.run_pure]) (hK _ _ ((jae.refl _ w2).alloc _) ?_);clear hK K;simp only[Act.put,sA,sB,sC];refine jbz _ rfl (by kernel_rfl) rfl (fun w3 he K hK=>?_);refine jg6 (b:=w2.heap.size) (old:=[Value.string ⟨#[]⟩,.string ⟨#[]⟩,.string ⟨#[]⟩]) (vs:=[.string tp,.string tv,.string tr]) rfl rfl rfl ((Blk.new w2 _).keeps he (fun h=>h)) rfl Tryz.szPl (by intro u hu;simp at hu;rcases hu with rfl | rfl | rfl <;> rfl) (fun w4 hB4 hE4=>hK _ _ (hE4.mono (fun x _ e=>by have:=HX2.o.size;have e:x=w2.heap.size:=e;omega)) ?_);have HX4:=Hd (show Ext w1 w4 from HX2.o.trans ((((ExtR w2).alloc _).trans he).trans' hE4 (fun x hx e=>by have e:x=w2.heap.size:=e;omega)));have HB4:=Hd hB4;have H2S:=Hd HX2.o.size;clear hK K he hB4 hE4;simp only[Act.put,sA,sB,sC];refine jed (by kernel_rfl) (fun w5 he=>?_);have HX5:=Hd (HX4.o.trans he);have hB5:=HB4.o.keeps he (fun h=>h);have c0:=hB5.cell (i:=0) (v:=.string tp) (by rfl);have HB5:=Hd hB5;clear he HX4 HB4 hB5;go_wp2_with fail
  refine (HKY.o w5).mono ?_;rintro e w6 ⟨rfl,hE⟩;have c1:=(HB5.o.keeps hE (fun h=>h)).cell (i:=1) (v:=.string tv) (by rfl);have HX6:=Hd (HX5.o.trans hE);have HB6:=Hd (HB1.o.keeps HX6.o (fun h=>h));clear hE HX5 HB5;go_wp2_with (refine jaf (old:=[.string ⟨#[]⟩,.string ⟨#[]⟩]) (vs:=[.string (jbD tp),.string tv]) rfl rfl rfl rfl HB6.o rfl Tryz.szEntry (by intro u hu;simp at hu;rcases hu with rfl | rfl <;> rfl) ?_;intro W8 hB8 hE8)
  refine bodyPost_ret (jag rfl rfl rfl (jb6 hB8)) rfl ?_;have hF:∀ x,x=W.heap.size→W.heap.size≤x∧x≠c∧(Value.slice (some ⟨g,0,none⟩) (m+1) cap).ownBlock≠some x:=fun x e=>by subst e;exact⟨Nat.le_refl _,HNE.o.1,HN1.o⟩
  have hT8:=(HT.o.ext HX6.o).other hE8 hF
  exact⟨_,t :: r,N1,k1,hT8,⟨hT8.at',HI.o.stk,HI.o.look,HI.o.len⟩,by rw[HNV.o];rfl,.inr ⟨t,r,R',rfl,HR.o,HK.o.1,HK.o.2⟩⟩
def jcy(S:List Nd5)(c s:Nat)(fr:ByteArray)(R:List Pair)(W:World)(v:Value):Prop:=∃ (ts:List Pl5) (N k:Nat),CurI S c s fr R W v ts N k
def jcz(S:List Nd5)(c s:Nat)(fr:ByteArray)(W:World)(v:Value)(W':World)(v':Value)(R:List Pair):Prop:=∃ (ts:List Pl5) (N k:Nat),jaP c s fr W v W' v' ts.reverse (k:Int)∧CurI S c s fr R W' v' ts N k
theorem jcz.at'{S:List Nd5}{c s:Nat}{fr:ByteArray}{W W':World}{v v':Value}{R:List Pair}(h:jcz S c s fr W v W' v' R):jcy S c s fr R W' v':=by
 obtain⟨ts,N,k,_,h2⟩:=h
 exact⟨ts,N,k,h2⟩
theorem jcz.kp{S:List Nd5}{c s:Nat}{fr:ByteArray}{W W':World}{v v':Value}{R:List Pair}(h:jcz S c s fr W v W' v' R):jae (fun b=>b=c∨v.ownBlock=some b) W W'∧(v'.ownBlock=v.ownBlock∨∀ b,v'.ownBlock=some b→W.heap.size≤b):=by
 obtain⟨ts,N,k,h1,_⟩:=h
 exact⟨h1.kp,h1.new⟩
theorem jcy.lt{S:List Nd5}{c s:Nat}{fr:ByteArray}{W:World}{v:Value}{R:List Pair}(h:jcy S c s fr R W v):c < W.heap.size∧∀ b,v.ownBlock=some b→b < W.heap.size:=by
 obtain⟨ts,N,k,h⟩:=h
 exact⟨h.left.cur.lt,fun b hb=>jee h.left.row hb⟩
theorem jcy.keeps{S:List Nd5}{c s:Nat}{fr:ByteArray}{W W':World}{v:Value}{R:List Pair}{F:BSet}(h:jcy S c s fr R W v)(k:jae F W W')(h1:¬ F c)(h2:∀ b,v.ownBlock=some b→¬ F b):jcy S c s fr R W' v:=by
 obtain⟨ts,N,n,h⟩:=h
 exact⟨ts,N,n,⟨h.left.keeps k h1 h2,h.stk,h.look,h.len⟩⟩
theorem jcy.ext{S:List Nd5}{c s:Nat}{fr:ByteArray}{W W':World}{v:Value}{R:List Pair}(h:jcy S c s fr R W v)(k:Ext W W'):jcy S c s fr R W' v:=h.keeps k (fun h=>h) (fun _ _ h=>h)
theorem jcy.store{S:List Nd5}{c s bm:Nat}{room:Int}{fr:ByteArray}{W W':World}{v:Value}{R:List Pair}(h:jcy S c s fr R W v)(hs:jat W s bm room S)(k:jae (fun b=>b=c∨v.ownBlock=some b) W W'):jat W' s bm room S:=by
 obtain⟨ts,N,n,h⟩:=h
 exact hs.cur h.left k
theorem jcz.other{S:List Nd5}{c s:Nat}{fr:ByteArray}{W W' W'':World}{v v':Value}{R:List Pair}{F:BSet}(h:jcz S c s fr W v W' v' R)(k:jae F W' W'')(hF:∀ x,F x→W.heap.size≤x∧x≠c∧v'.ownBlock≠some x):jcz S c s fr W v W'' v' R:=by
 obtain⟨ts,N,n,h1,h2⟩:=h
 have:=h1.other k hF
 exact⟨ts,N,n,this,⟨this.at',h2.stk,h2.look,h2.len⟩⟩
theorem jcz.ahead{S:List Nd5}{c s:Nat}{fr:ByteArray}{W0 W W':World}{v v':Value}{R:List Pair}(e:Ext W0 W)(h:jcz S c s fr W v W' v' R):jcz S c s fr W0 v W' v' R:=by
 obtain⟨ts,N,n,h1,h2⟩:=h
 exact⟨ts,N,n,jaP.ahead e h1,h2⟩
theorem Tryz.allocEnt:∀ w,(Instr.alloc 95 true (.tuple #[])).run Tryz.prog w=.ok (.pointer (some ⟨w.heap.size,0,none⟩)) (w.alloc (.cells [Value.string ⟨#[]⟩,.string ⟨#[]⟩].toArray 95)):=fun w=>by kernel_rfl
theorem jeD(x y:ByteArray):∀ u∈[Value.string x,.string y],u.oneCell'=true:=by
 intro u hu;simp at hu;rcases hu with rfl | rfl <;> rfl
theorem je3(W:World)(c s bm:Nat)(room:Int)(S:List Nd5)(fr:ByteArray)(R:List Pair)(v:Value)(hf:fr.size≤1000000)(hC:jcy S c s fr R W v)(hs:jat W s bm room S) :
  Calls Tryz.prog 94 #[.pointer (some ⟨c,0,none⟩)] W fun e w'=>e=.returned (jfY R)∧∃ v',jcz S c s fr W v w' v' R.tail:=by
 obtain⟨hc1,hc2⟩:=hC.lt
 obtain⟨ts,N,k,hI⟩:=hC
 have HI:=Hd (fun w (e:Ext W w)=>joH w c s bm room S fr R v ts N k hf ⟨hI.left.ext e,hI.stk,hI.look,hI.len⟩ (hs.ext e));have HCC:=Hd (And.intro hc1 hc2);clear hI hs hc1 hc2
 obtain⟨T,hT⟩:∃ T,T=R.tail:=⟨_,rfl⟩
 obtain⟨V,hV⟩:∃ V,V=jfY R:=⟨_,rfl⟩
 have HTV:=Hd (And.intro hT hV);rw[←hT, ←hV];clear hT hV;go_enter Tryz.func94,Tryz.ntmps94;go_wp2_with (refine jak Tryz.allocEnt rfl rfl ?_;intro W1 hB1 hE1)
 have HZ1:=Hd (show W.heap.size < W1.heap.size from hB1.lt);refine (HI.o W1 hE1).mono ?_;rintro e w2 ⟨v2,ts2,N2,k2,hT2,hI2,rfl,hcase⟩;have hB2:=hT2.blk hB1 (by have:=HCC.o.1;omega) (fun e=>by have:=HCC.o.2 _ e;omega);have HB2:=Hd hB2;have HN2:=Hd (show v2.ownBlock≠some W.heap.size∧W.heap.size≠c from⟨fun e=>by
  rcases hT2.new with h1 | h1
  ·have:=HCC.o.2 _ (h1 ▸ e);omega
  ·have:=h1 _ e;have:=HZ1.o;omega,by have:=HCC.o.1;omega⟩)
 have HT2:=Hd (jaP.ahead hE1 hT2);have HI2:=Hd hI2;clear hT2 hI2 hB1 hE1 hB2;rcases hcase with hR |⟨t,r,R',hts,hR,hk,hst⟩
 ·have hv:jfY R=.tuple #[.agg #[.string ⟨#[]⟩,.string ⟨#[]⟩],.bool false]:=by rw[hR];rfl
  have HR:=Hd hR;have HV:=Hd hv;rw[hv];clear hR hv;go_wp2_with (first |(refine jak Tryz.allocEnt rfl rfl ?_;intro W5 hB5 hE5;refine jaf (vs:=[.string ⟨#[]⟩,.string ⟨#[]⟩]) rfl rfl rfl rfl hB5 rfl Tryz.szEntry (jeD _ _) ?_;intro W6 hB6 hE6;have hX6:Ext w2 W6:=hE5.trans' hE6 (fun x hx e=>by have e:x=w2.heap.size:=e;omega);have hBr:=HB2.o.keeps hX6 (fun h=>h);have hld:=jfA (b:=w2.heap.size) (o:=0) (hB6.cell (i:=0) (by rfl)) (hB6.cell (i:=1) (by rfl))) |(refine jah 95 (.tmp 4) rfl rfl _ _ rfl hld ?_) |(refine jaf (vs:=[.string ⟨#[]⟩,.string ⟨#[]⟩]) rfl rfl rfl rfl hBr rfl Tryz.szEntry (jeD _ _) ?_;intro W8 hB8 hE8))
  refine bodyPost_ret (jag rfl rfl rfl (jb6 hB8)) rfl ?_;have hT8:=(HT2.o.ext hX6).other hE8 (fun x e=>by subst e;exact⟨Nat.le_refl _,HN2.o.2,HN2.o.1⟩)
  refine⟨by rw[HTV.o.2,HV.o];rfl,v2,_,N2,k2,hT8,⟨hT8.at',?_,HI2.o.look,HI2.o.len⟩⟩
  have h1:=HI2.o.stk;rw[HR.o]at h1;rw[HTV.o.1,HR.o];exact h1
 ·subst hts
  obtain⟨x,hx⟩:∃ x,x=jbD t.path:=⟨_,rfl⟩
  obtain⟨y,hy⟩:∃ y,y=t.value:=⟨_,rfl⟩
  have hv:jfY R=.tuple #[.agg #[.string x,.string y],.bool true]:=by rw[hR,hx,hy];rfl
  have HR:=Hd hR;have HV:=Hd hv;have HST:=Hd hst;rw[hv];clear hR hv hx hy hst hk;go_wp2_with (first |(refine jak Tryz.allocEnt rfl rfl ?_;intro W5 hB5 hE5;refine jaf (vs:=[.string x,.string y]) rfl rfl rfl rfl hB5 rfl Tryz.szEntry (jeD _ _) ?_;intro W6 hB6 hE6))
  have hX6:Ext w2 W6:=hE5.trans' hE6 (fun x hx e=>by have e:x=w2.heap.size:=e;omega);have hl:=HI2.o.left;rw[List.reverse_cons]at hl;have hlen:=HI2.o.len;have hlook:=HI2.o.look;rw[List.length_cons]at hlen;have hclt:=HI2.o.left.cur.lt;have hrl:∀ b,v2.ownBlock=some b→b < w2.heap.size:=fun b hb=>jee HI2.o.left.row hb;refine (jne W6 c s fr v2 r.reverse t k2 (hl.ext hX6) (by rw[List.length_reverse];omega)).mono ?_;rintro e w7 ⟨rfl,v7,hT7⟩;have hB7:=hT7.blk hB6 (by omega) (fun e=>by have:=hrl _ e;omega);have hld:=jfA (b:=w2.heap.size) (o:=0) (hB7.cell (i:=0) (by rfl)) (hB7.cell (i:=1) (by rfl));have hBr:=hT7.blk (HB2.o.keeps hX6 (fun h=>h)) HN2.o.2 HN2.o.1;have HN7:=Hd (show v7.ownBlock≠some W.heap.size from fun e=>by
   rcases hT7.new with h1 | h1
   ·exact HN2.o.1 (h1 ▸ e)
   ·have:=h1 _ e;have:=HB2.o.lt;have:=hX6.size;omega)
  have HT7:=Hd (HT2.o.trans (jaP.ahead hX6 hT7));clear hl hlen hclt hrl hT7 hB6 hE6 hE5 hB5;go_wp2_with (first |(refine jah 95 (.tmp 4) rfl rfl _ _ rfl hld ?_) |(refine jaf (vs:=[.string x,.string y]) rfl rfl rfl rfl hBr rfl Tryz.szEntry (jeD _ _) ?_;intro W8 hB8 hE8))
  refine bodyPost_ret (jag rfl rfl rfl (jb6 hB8)) rfl ?_;have hT8:=HT7.o.other hE8 (fun x e=>by subst e;exact⟨Nat.le_refl _,HN2.o.2,HN7.o⟩)
  refine⟨by rw[HTV.o.2,HV.o];rfl,v7,r,N2,k2,hT8,⟨hT8.at',?_,hlook,by have:=HI2.o.len;rw[List.length_cons]at this;omega⟩⟩
  rw[HTV.o.1,HR.o];exact HST.o
def jn3:List Pair→Value
 | []=>.tuple #[.string ⟨#[]⟩,.bool false]
 | q :: _=>.tuple #[.string (jbD q.1),.bool true]
theorem jlg(W:World)(c s bm:Nat)(room:Int)(S:List Nd5)(fr:ByteArray)(R:List Pair)(v:Value)(hf:fr.size≤1000000)(hC:jcy S c s fr R W v)(hs:jat W s bm room S) :
  Calls Tryz.prog 93 #[.pointer (some ⟨c,0,none⟩)] W fun e w'=>e=.returned (jn3 R)∧∃ v',jcz S c s fr W v w' v' R:=by
 obtain⟨ts,N,k,hI⟩:=hC
 have HI:=Hd (joH W c s bm room S fr R v ts N k hf hI hs);clear hI hs;go_enter Tryz.func93,Tryz.ntmps93;go_wp2_with fail
 refine HI.o.mono ?_;rintro e w2 ⟨v2,ts2,N2,k2,hT2,hI2,rfl,hcase⟩;have HT2:=Hd hT2;have HI2:=Hd hI2;clear hT2 hI2;rcases hcase with hR |⟨t,r,R',hts,hR,hk,hst⟩
 ·have hv:jfY R=.tuple #[.agg #[.string ⟨#[]⟩,.string ⟨#[]⟩],.bool false]:=by rw[hR];rfl
  have HP:=Hd (show jn3 R=.tuple #[.string ⟨#[]⟩,.bool false] by rw[hR];rfl);rw[hv];clear hR hv;go_wp2_with fail
  go_ret2;have hX:=(ExtR w2).alloc (.cells #[.string ⟨#[]⟩,.string ⟨#[]⟩] 95)
  exact⟨by rw[HP.o];rfl,v2,ts2,N2,k2,HT2.o.ext hX,⟨HI2.o.left.ext hX,HI2.o.stk,HI2.o.look,HI2.o.len⟩⟩
 ·obtain⟨x,hx⟩:∃ x,x=jbD t.path:=⟨_,rfl⟩
  obtain⟨y,hy⟩:∃ y,y=t.value:=⟨_,rfl⟩
  have hv:jfY R=.tuple #[.agg #[.string x,.string y],.bool true]:=by rw[hR,hx,hy];rfl
  have HP:=Hd (show jn3 R=.tuple #[.string x,.bool true] by rw[hR,hx];rfl);rw[hv];clear hR hv hx hy hst hk hts;go_wp2_with fail
  go_ret2;have hX:=(ExtR w2).alloc (.cells #[.string x,.string y] 95)
  exact⟨by rw[HP.o];rfl,v2,ts2,N2,k2,HT2.o.ext hX,⟨HI2.o.left.ext hX,HI2.o.stk,HI2.o.look,HI2.o.len⟩⟩
def jmj(fr:ByteArray)(l:List Pair):List Pair:=absF (jaL fr) ⟨#[]⟩ (jaV l)
theorem jl5(x:ByteArray):(⟨#[]⟩:ByteArray)++x=x:=ByteArray.empty_append
theorem jnZ(k:ByteArray):jck (jaL k)=true:=by
 unfold jck;rw[jew,jb5];simp
theorem HasM.ref{S:List Nd5}{l:List Pair}(h:HasM S l)(hn:l≠[]):jil (HasS S) ⟨#[]⟩ 12 (jaV l):=by
 have hr:=jeB (jbT h.ok)
 refine⟨hr,fun e=>hn (by unfold jaV at e;simpa using e),fun x hx _=>h.has x hx,fun q hq=>?_⟩
 rw[jl5]
 obtain⟨p,hp,rfl⟩:=List.mem_map.1 hq
 refine⟨jnZ _,?_⟩
 exact (hr.size _ (List.mem_map_of_mem hp)).2.1
theorem jkB{S:List Nd5}{l:List Pair}(h:HasM S l)(fr:ByteArray):∃ N,N≤200∧jcr (HasS S) (jaL fr) (layP (jaL fr) (jaJ (jad 12) (jaV l)) ⟨#[]⟩).reverse (jmj fr l) N:=by
 by_cases hn:l=[]
 ·subst hn
  exact⟨0,by omega,rfl,rfl⟩
 ·have hR:=h.ref hn
  obtain⟨N,h1,h2⟩:=jlS (jaL fr) hR
  have h3:=(jqn 12 (jaV l) hR.rows hR.ne).all;have h4:(jaV l).length=l.length:=by unfold jaV;rw[List.length_map]
  have h5:=(jbT h.ok).len
  exact⟨N,by omega,h2⟩
theorem Tryz.enterLay:∀ args w,(callFunc 98 args).run Tryz.prog w=.ok (.enter 98 args) w:=fun _ _=>by kernel_rfl
def jjO(S:List Nd5)(s:Nat)(fr:ByteArray)(R:List Pair)(W:World)(e:Ending)(w':World):Prop:=∃ c v,e=.returned (.tuple #[.pointer (some ⟨c,0,none⟩),.int .i64 0])∧W.heap.size≤c∧(∀ b,v.ownBlock=some b→W.heap.size≤b)∧Ext W w'∧jcy S c s (jaL fr) R w' v
def jjP(S:List Nd5)(s:Nat)(fr:ByteArray)(l:List Pair)(W:World)(e:Ending)(w':World):Prop:=∃ c v,e=.returned (.tuple #[.pointer (some ⟨c,0,none⟩),.int .i64 0])∧W.heap.size≤c∧(∀ b,v.ownBlock=some b→W.heap.size≤b)∧Ext W w'∧jcy S c s (jaL fr) (jmj fr l) w' v
theorem jgV(W:World)(s bm:Nat)(room:Int)(S:List Nd5)(fr k:ByteArray)(R:List Pair)(hf:fr.size≤100000)(hs:jat W s bm room S)(y:Nd5)(hy:atL S k.data.toList=some y)(d:Nat)(n:jac)(hg:jbl (InlD d) n)(htx:y.2.2.text=jaK n)(hT:jdk S (jaL fr) 1 (layP (jaL fr) n ⟨#[]⟩).reverse R) :
  Calls Tryz.prog 42 #[.pointer (some ⟨s,0,none⟩),.string k,.string fr] W (jjO S s fr R W):=by
 have hg1:=hg.one (inlP d);have hsg:=fun w (h:jat w s bm room S)=>jgq w s bm room S k h;rw[hy]at hsg
 obtain⟨t,ht⟩:∃ t,t=y.2.2.text:=⟨_,rfl⟩
 rw[←ht]at htx;have hye:(some y).map (fun z:Nd5=>z.2.2.text)=some t:=by rw[ht];rfl
 simp only[hye]at hsg;have HSG:=Hd hsg;have HS:=Hd hs;have HG:=Hd hg;have HTX:=Hd htx;have HRF:=Hd hg1.refs;have HKD:=Hd hg1.kind;have HPT:=Hd hg1.path;have HCL:=Hd (n.cells_len hg1.refs);have HST:=Hd hT;have hps:=jb5 fr;clear hs hy hg htx ht hsg hye hg1 hT;go_enter Tryz.func42,Tryz.ntmps42;go_wp2_with fail
 refine (HSG.o W HS.o).mono ?_;rintro e w1 ⟨rfl,hE⟩;unfold optV;have HE1:=Hd hE;clear hE;go_wp2_with fail
 rw[HTX.o];refine (jfq (inlP d) w1 n HG.o).mono ?_;rintro e w2 ⟨rfl,hE⟩;rw[←HTX.o];have HE2:=Hd (HE1.o.trans hE);clear hE HE1;unfold jac.V;go_wp2_with (refine jak Tryz.allocNode rfl rfl ?_;intro W5 hB5 hE5;refine jaf (vs:=n.cells) rfl rfl rfl rfl hB5 (by rw[HCL.o];rfl) (by rw[HCL.o];exact Tryz.szNode) n.one ?_;intro W6 hB6 hE6)
 have hX6:Ext w2 W6:=hE5.trans' hE6 (fun x hx e=>by have e:x=w2.heap.size:=e;omega);refine (jfE W6 fr (by omega)).mono ?_;rintro e w7 ⟨rfl,hE⟩;have HE7:=Hd ((HE2.o.trans hX6).trans hE);have HB7:=Hd (hB6.keeps hE (fun h=>h))
 obtain⟨pf,hpf⟩:∃ pf,pf=jaL fr:=⟨_,rfl⟩
 have HPF:=Hd hpf;rw[←hpf]at HST hps ⊢;clear hE hX6 hB6 hE6 hE5 hB5 hpf;go_wp2_with fail
 obtain⟨W8,hW8⟩:∃ W8,W8=w7.alloc (.cells #[.pointer (some ⟨s,0,none⟩),.string pf,.slice none 0 0,.int .i64 1] 151):=⟨_,rfl⟩
 have hb8:Blk W8 w7.heap.size (.cells #[.pointer (some ⟨s,0,none⟩),.string pf,.slice none 0 0,.int .i64 ((1:Nat):Int)] 151):=by rw[hW8];exact Blk.new w7 _
 have hE8:Ext w7 W8:=by rw[hW8];exact (ExtR w7).alloc _
 have hL8:jaS W8 w7.heap.size s pf (.slice none 0 0) [] ((1:Nat):Int):=⟨hb8,World.ownsRow_nil _ _ _ _,fun e=>by cases e⟩;rw[←hW8];have HL8:=Hd hL8;have HE8:=Hd (HE7.o.trans hE8);have HZ7:=Hd HE7.o.size;have HB8:=Hd (HB7.o.keeps hE8 (fun h=>h));clear hW8 hb8 hE8 hL8 HB7 HE7;refine jam [0,1,2,3,4] [4] Ext ExtR ExtT (by kernel_rfl) (by kernel_rfl) (by kernel_rfl) ?_
 (refine jaj _ rfl (by kernel_rfl) rfl rfl (fun K hK=>?_);go_big_quiet_op;refine hK _ ?_;clear hK K)
 refine jb1 _ (.pointer (some ⟨w7.heap.size,0,none⟩)) rfl (by kernel_rfl) rfl (fun w1=>by kernel_rfl) ?_;simp only[Act.put,sA,sB,sC]
 (refine jaj _ rfl (by kernel_rfl) rfl rfl (fun K hK=>?_);go_big_quiet_op;refine hK _ ?_;clear hK K)
 refine jaA ⟨w2.heap.size,0,none⟩ n.V rfl (by kernel_rfl) rfl rfl (fun w1 h1=>jap w1 _ n HRF.o (HB8.o.keeps ((jav _).trans h1) (fun h=>h))) ?_;simp only[Act.put,sA,sB,sC];refine ja4 _ rfl (by kernel_rfl) rfl (fun w4 he K hK=>?_);have HX4:=Hd (show Ext W8 w4 from(jav _).trans he);clear he;refine jdD (jaw Tryz.enterLay (by kernel_rfl)) ((jqB w4 w7.heap.size s pf (.slice none 0 0) [] ((1:Nat):Int) (HL8.o.ext HX4.o) (by simp) (by omega) n HKD.o HRF.o ⟨#[]⟩ (by have:=HPT.o;show 0+_≤_;omega)).mono ?_);rintro e w5 ⟨rfl,v5,hT5⟩
 refine⟨_,rfl,hK _ _ ?_⟩
 have HT5:=Hd hT5;clear hK K hT5;refine jaX (by kernel_rfl) (fun w6 he=>?_);have HT6:=Hd ((jaP.ahead HX4.o HT5.o).ext he);clear he HT5 HX4;simp only[Act.put,sA,sB,sC];go_wp2_with fail
 go_ret2;have hst:=HST.o;rw[List.nil_append]at HT6;have hT6:=HT6.o;have hlen:=jfz pf n ⟨#[]⟩;have hrev:layP pf n ⟨#[]⟩=(layP pf n ⟨#[]⟩).reverse.reverse:=by simp
 rw[hrev]at hT6;rw[HPF.o]at hst hT6 hlen
 refine⟨w7.heap.size,v5,rfl,HZ7.o,fun b hb=>?_,HE8.o.trans' hT6.kp (fun x hx e=>?_),_,0,1,⟨?_,hst,by omega,by rw[List.length_reverse];omega⟩⟩
 ·rcases hT6.new with h1 | h1
  ·rw[h1]at hb;cases hb
  ·exact Nat.le_trans HE8.o.size (h1 b hb)
 ·rcases e with e | e
  ·have:=HZ7.o;omega
  ·cases e
 ·exact hT6.at'
theorem jjA(W:World)(s bm:Nat)(room:Int)(S:List Nd5)(fr:ByteArray)(l:List Pair)(hf:fr.size≤100000)(hM:HasM S l)(hs:jat W s bm room S) :
  Calls Tryz.prog 42 #[.pointer (some ⟨s,0,none⟩),.string (shaB (ja2 l).text),.string fr] W (jjP S s fr l W):=by
 obtain⟨y,hy1,hy2⟩:=hM.has _ (jgY (ja2 l))
 have hg:=(good 12 (jaV l) (jeB (jbT hM.ok))).1
 obtain⟨N,hN,hst⟩:=jkB hM fr
 exact jgV W s bm room S fr _ (jmj fr l) hf hs y hy1 12 _ hg hy2 (jnk N _ _ N 1 (Nat.le_refl _) hst (by omega))
theorem jjz(W:World)(s bm:Nat)(room:Int)(S:List Nd5)(hN:AllN S)(fr k:ByteArray)(hf:fr.size≤100000)(hs:jat W s bm room S)(y:Nd5)(hy:atL S k.data.toList=some y) :
  Calls Tryz.prog 42 #[.pointer (some ⟨s,0,none⟩),.string k,.string fr] W fun e w'=>∃ R:List Pair,R.length≤7000∧jjO S s fr R W e w':=by
 obtain⟨n,h1,d,hg⟩:=hN y (jaR hy).1
 obtain⟨R,hR⟩:=jmG hN (jaL fr) 399 1 (layP (jaL fr) n ⟨#[]⟩).reverse (by omega) fun x hx=>jlT (k:=0) hg (by show 0≤_;omega) x (List.mem_reverse.1 hx)
 have hl:=jjG hR;have hl2:=jfz (jaL fr) n ⟨#[]⟩;rw[List.length_reverse]at hl;exact (jgV W s bm room S fr k R hf hs y hy d n hg h1 hR).mono fun e w' h=>⟨R,by omega,h⟩
theorem jgW(W:World)(s bm:Nat)(room:Int)(S:List Nd5)(root fr:ByteArray)(hs:jat W s bm room S)(hn:atL S root.data.toList=none) :
  Calls Tryz.prog 42 #[.pointer (some ⟨s,0,none⟩),.string root,.string fr] W fun e w'=>e=.returned (.tuple #[.pointer none,.int .i64 4])∧Ext W w':=by
 have hsg:=jgq W s bm room S root hs;rw[hn]at hsg;have HSG:=Hd hsg;clear hs hn hsg;go_enter Tryz.func42,Tryz.ntmps42;go_wp2_with fail
 refine HSG.o.mono ?_;rintro e w1 ⟨rfl,hE⟩;rw[show optV ((none:Option Nd5).map (·.2.2.text))=.tuple #[.string ⟨#[]⟩,.bool false]from rfl];have HE1:=Hd hE;clear hE;go_wp2_with fail
 go_ret2
 exact⟨rfl,HE1.o⟩
end
section
open Go Go.RowKit
theorem Tryz.infoEnt:(Tryz.prog.info? 95).map (fun i=>(i.zero,i.size,i.bytes))=some (some (.agg #[.string ⟨#[]⟩,.string ⟨#[]⟩]),2,32):=by kernel_rfl
theorem Tryz.uEnts:Tryz.prog.underlying 22=some (.slice 95):=by kernel_rfl
theorem Tryz.sEnts:jdN Tryz.prog 22 95 2 32:=jdN.mk' Tryz.uEnts Tryz.infoEnt rfl (by decide)
end
section
open Go Go.RowKit
attribute [local go_sem] Oper.semAt_some
def jeP(fr:ByteArray)(l:List Pair):List Pair:=l.filter fun p => !ja9 p.1 fr
theorem jfC:∀ l:List UInt8,jbI (jcg l)=l
 | []=>rfl
 | b :: l=>by
  have h:(b >>> 4) <<< 4 |||(b &&& 15)=b:=by
   have h:∀ b:Fin 256,((UInt8.ofNat b.1) >>> 4) <<< 4 |||((UInt8.ofNat b.1) &&& 15)=UInt8.ofNat b.1:=by decide +kernel
   have:=h ⟨b.toNat,b.toNat_lt⟩
   simpa only[UInt8.ofNat_toNat]using this
  show ((b >>> 4) <<< 4 |||(b &&& 15)) :: jbI (jcg l)=_;rw[h,jfC l]
theorem jgl(k:ByteArray):jbD (jaL k)=k:=by
 unfold jbD jaL;show (⟨(jbI (jcg k.data.toList)).toArray⟩:ByteArray)=k;rw[jfC]
theorem jgO:∀ a b:List UInt8,Lt a b∨a=b∨Lt b a
 | [],[]=>.inr (.inl rfl)
 | [],y :: b=>.inl jl6
 | x :: a,[]=>.inr (.inr jl6)
 | x :: a,y :: b=>by
  rcases Nat.lt_trichotomy x.toNat y.toNat with h | h | h
  ·exact .inl (ja0.2 (.inl (UInt8.lt_iff_toNat_lt.2 h)))
  ·have e:=UInt8.toNat_inj.1 h
   subst e;rcases jgO a b with h | h | h
   ·exact .inl (ja0.2 (.inr ⟨rfl,h⟩))
   ·exact .inr (.inl (by rw[h]))
   ·exact .inr (.inr (ja0.2 (.inr ⟨rfl,h⟩)))
  ·exact .inr (.inr (ja0.2 (.inl (UInt8.lt_iff_toNat_lt.2 h))))
theorem jfG(k:ByteArray):(jaL k).data.toList=jcg k.data.toList:=rfl
theorem jlV(a b:ByteArray):ja9 (jaL a) (jaL b)=ja9 a b:=by
 cases h:ja9 a b with
 | true =>
  rw[jbK]at h ⊢;exact jgN _ _ h
 | false =>
  rw[Bool.eq_false_iff]at h ⊢;intro h2;rw[jbK,jfG,jfG]at h2;rcases jgO a.data.toList b.data.toList with h3 | h3 | h3
  ·exact h ((jbK _ _).2 h3)
  ·rw[h3]at h2;exact lt_irrefl _ h2
  ·exact lt_irrefl _ (jcX _ _ _ h2 (jgN _ _ h3))
theorem jeh(fr:ByteArray)(l:List Pair):jmj fr l=jaV (jeP fr l):=by
 unfold jmj absF jaV jeP;induction l with
 | nil=>rfl
 | cons p l ih =>
  simp only[List.map_cons,List.filter_cons,jl5]at ih ⊢;rw[jlV];cases ja9 p.1 fr with
  | true=>simpa using ih
  | false=>simpa using ih
def jiD:List Pair→Value
 | []=>.tuple #[.agg #[.string ⟨#[]⟩,.string ⟨#[]⟩],.bool false]
 | q :: _=>.tuple #[.agg #[.string q.1,.string q.2],.bool true]
def jpB:List Pair→Value
 | []=>.tuple #[.string ⟨#[]⟩,.bool false]
 | q :: _=>.tuple #[.string q.1,.bool true]
theorem jcY(E:List Pair):jfY (jaV E)=jiD E:=by
 cases E with
 | nil=>rfl
 | cons q E=>show Value.tuple #[.agg #[.string (jbD (jaL q.1)),.string q.2],.bool true]=_;rw[jgl];rfl
theorem jgn(E:List Pair):jn3 (jaV E)=jpB E:=by
 cases E with
 | nil=>rfl
 | cons q E=>show Value.tuple #[.string (jbD (jaL q.1)),.bool true]=_;rw[jgl];rfl
theorem jeA(E:List Pair):(jaV E).tail=jaV E.tail:=by cases E <;> rfl
structure NRow(W w:World)(v:Value)(xs:List Pair):Prop where
 own:w.ownsRow 0 95 2 v xs.length (jcR xs)
 new:∀ b,v.ownBlock=some b→W.heap.size≤b
theorem NRow.keeps{W w w':World}{v:Value}{xs:List Pair}{F:BSet}(h:NRow W w v xs)(k:jae F w w')(hF:∀ b,v.ownBlock=some b→¬ F b):NRow W w' v xs:=⟨jaG h.own k hF,h.new⟩
theorem NRow.ext{W w w':World}{v:Value}{xs:List Pair}(h:NRow W w v xs)(k:Ext w w'):NRow W w' v xs:=h.keeps k (fun _ _ h=>h)
def jre(S:List Nd5)(c s:Nat)(fr:ByteArray)(W:World)(v:Value)(E:List Pair)(lim:Nat)(lv:Value)(wr:World):Prop:=
 ∃ n v',n≤lim∧n≤E.length∧NRow W wr lv (E.take n)∧(∀ b,lv.ownBlock=some b→v'.ownBlock≠some b)∧jcz S c s fr W v wr v' (jaV (E.drop n))
theorem jcz.trans{S:List Nd5}{c s:Nat}{fr:ByteArray}{W W' W'':World}{v v' v'':Value}{R R':List Pair}(h:jcz S c s fr W v W' v' R)(k:jcz S c s fr W' v' W'' v'' R'):jcz S c s fr W v W'' v'' R':=by
 obtain⟨_,_,_,h1,_⟩:=h
 obtain⟨ts,N,n,k1,k2⟩:=k
 exact⟨ts,N,n,h1.trans k1,k2⟩
theorem jcz.refl{S:List Nd5}{c s:Nat}{fr:ByteArray}{W:World}{v:Value}{R:List Pair}(h:jcy S c s fr R W v):jcz S c s fr W v W v R:=by
 obtain⟨ts,N,n,h⟩:=h
 exact⟨ts,N,n,jaP.refl h.left,h⟩
def jrf(S:List Nd5)(c s:Nat)(fr:ByteArray)(W:World)(v:Value)(E:List Pair)(lim:Nat)(e:Ending)(w':World):Prop:=∃ lv v',e=.returned lv∧NRow W w' lv (E.take lim)∧(∀ b,lv.ownBlock=some b→v'.ownBlock≠some b)∧jcz S c s fr W v w' v' (jaV (E.drop lim))
theorem jqW(W:World)(c s bm:Nat)(room:Int)(S:List Nd5)(fr:ByteArray)(E:List Pair)(v:Value)(lim:Nat)(hl:lim≤1000)(hf:fr.size≤1000000)(hC:jcy S c s fr (jaV E) W v)(hs:jat W s bm room S) :
  Calls Tryz.prog 95 #[.func (.func 94) #[.pointer (some ⟨c,0,none⟩)] #[],.int .i64 lim] W (jrf S c s fr W v E lim):=by
 have HC:=Hd hC;have HS:=Hd hs;have HLT:=Hd hC.lt;clear hC hs;go_enter Tryz.func95,Tryz.ntmps95;go_wp2_with fail
 go_loopw [5] (fun lv wr=>jre S c s fr W v E lim lv wr) (fun lv _=>lim - slN lv)
 case atStart=>exact⟨0,v,by omega,by omega,⟨World.ownsRow_nil _ _ _ _,fun b hb=>by cases hb⟩,(fun b hb=>by cases hb),jcz.refl HC.o⟩
 case round =>
  obtain⟨n,v',hn1,hn2,hR,hne,hT⟩:=hrel
  have htl:(E.take n).length=n:=by rw[List.length_take];omega
  obtain⟨ad,cp,hsl⟩:=jaH hR.own
  rw[htl]at hsl;subst hsl;have HR:=Hd hR;have HNE:=Hd hne;have HT:=Hd hT;have HTL:=Hd htl;have HS2:=Hd (HC.o.store HS.o hT.kp.1);clear hR hne hT htl
  by_cases hlt:n < lim
  ·have b1:(n:Int) < (lim:Int):=by omega
   go_wp2_with fail
   obtain⟨D,hD⟩:∃ D,D=E.drop n:=⟨_,rfl⟩
   have HD:=Hd hD;have hat:=HT.o.at';rw[←hD]at hat;refine (je3 wr c s bm room S fr (jaV D) v' hf hat HS2.o).mono ?_;rintro e w2 ⟨rfl,v2,hT2⟩;rw[jcY,jeA]at *;have hlt2:=hat.lt;have hrk:=HR.o.own;have hcW:c < W.heap.size:=HLT.o.1;have hkp:=hT2.kp;have hR2:=HR.o.keeps hkp.1 (fun b hb e=>by
    rcases e with e | e
    ·have:=HR.o.new b hb;omega
    ·exact HNE.o b hb e)
   have hN2:∀ b,(Value.slice ad n cp).ownBlock=some b→v2.ownBlock≠some b:=fun b hb e=>by
    rcases hkp.2 with h1 | h1
    ·exact HNE.o b hb (h1 ▸ e)
    ·have:=h1 b e
     have:=jee hrk hb;omega
   have HR2:=Hd hR2;have HN2:=Hd hN2;have HT2:=Hd (HT.o.trans hT2);clear hat hT2 hlt2 hrk hkp hR2 hN2 hD;cases D with
   | nil =>
    have hdn:E.length≤n:=by
     have:=congrArg List.length HD.o
     rw[List.length_drop]at this;simp at this;omega
    unfold jiD;go_wp2_with fail
    go_ret;have hX:=(ExtR w2).alloc (.cells #[.string ⟨#[]⟩,.string ⟨#[]⟩] 95)
    refine⟨.slice ad n cp,v2,rfl,?_,HN2.o,?_⟩
    ·rw[List.take_of_length_le (by omega)]
     have:=HR2.o.ext hX
     rwa [List.take_of_length_le hdn]at this
    ·rw[List.drop_of_length_le (by omega)]
     exact HT2.o.other hX (fun x h=>h.elim)
   | cons q D =>
    obtain⟨x,y⟩:=q
    unfold jiD;have hm1:n+1≤maxLen:=by unfold maxLen;omega
    have hm2:(n+1) * 32≤140737488355328:=by omega
    have hown:=HR2.o.own;rw[HTL.o]at hown;have HOWN:=Hd hown;clear hown;have hnb:Blk ((w2.alloc (.cells #[.string x,.string y] 95)).alloc (.cells #[.string x,.string y] 95)) (w2.heap.size+1) (.cells [Value.string x,.string y].toArray 95):=by
     have:=Blk.new (w2.alloc (.cells #[.string x,.string y] 95)) (.cells #[.string x,.string y] 95)
     rwa [World.size_alloc]at this
    have hxx:Ext w2 ((w2.alloc (.cells #[.string x,.string y] 95)).alloc (.cells #[.string x,.string y] 95)):=((ExtR w2).alloc _).alloc _;go_wp2_with (at_builtin;(refine jbH Tryz.sEnts (ORow.any (ja7 HOWN.o hxx)) (.tmp 19) (.tmp 21) rfl rfl rfl (jbe hnb) (news:=[.string x,.string y]) (jeD _ _) rfl rfl hm1 hm2 ?_;intro lv' w' r1 r2 r3))
    have HXX:=Hd hxx;have HR9:=Hd (And.intro r1 (And.intro r2 r3))
    obtain⟨ad',cp',rfl⟩:=r1.sl
    clear r1 r2 r3 hnb hxx;go_wp2_with fail
    go_roundw
    case rel =>
     obtain⟨r1,r2,r3⟩:=HR9.o
     have htk:E.take (n+1)=E.take n++[(x,y)]:=by
      have:E[n]?=some (x,y):=by
       have:=congrArg (·[0]?) HD.o
       simpa using this.symm
      rw[List.take_add_one,this];rfl
     have hdr:E.drop (n+1)=D:=by
      have:=congrArg List.tail HD.o
      simpa using this.symm
     have hel:n+1≤E.length:=by
      have:=congrArg List.length HD.o
      rw[List.length_drop]at this;simp at this;omega
     have hw2:=HT2.o.kp.1.size;have hv2:=HT2.o.at'.lt
     refine⟨n+1,v2,by omega,hel,⟨?_,fun b hb=>?_⟩,fun b hb e=>?_,?_⟩
     ·have hlen:(E.take (n+1)).length=n+1:=by rw[List.length_take];omega
      rw[hlen,htk,jbY];exact r1.own
     ·rcases r3 with r3 | r3
      ·exact HR2.o.new b (r3 ▸ hb)
      ·have:=r3 b hb;have:=HXX.o.size;omega
     ·rcases r3 with r3 | r3
      ·exact HN2.o b (r3 ▸ hb) e
      ·have:=r3 b hb;have:=HXX.o.size;have:=hv2.2 b e;omega
     ·rw[hdr]
      exact (HT2.o.other HXX.o (fun x h=>h.elim)).other r2 (fun x e=>⟨HR2.o.new x e,fun e2=>by have:=HR2.o.new x e;have:=HLT.o.1;omega,HN2.o x e⟩)
    case measure=>simp[slN];omega
  ·have b1:¬(n:Int) < (lim:Int):=by omega
   have hnl:n=lim:=by omega
   have HNL:=Hd hnl;clear hlt hnl;go_wp2_with fail
   go_ret;rw[←HNL.o]
   exact⟨_,v',rfl,HR.o,HNE.o,HT.o⟩
def jqx:List Pair→ByteArray
 | []=>⟨#[]⟩
 | q :: _=>q.1
theorem jn2(E:List Pair):jpB E=.tuple #[.string (jqx E),.bool (!E.isEmpty)]:=by cases E <;> rfl
def jp7(E:List Pair)(limit:Int)(W:World)(e:Ending)(w':World):Prop:=
 Ext W w'∧if 1≤limit∧limit≤8 then ∃ lv,e=.returned (.tuple #[lv,.string (jqx (E.drop limit.toNat)),.int .i64 0])∧NRow W w' lv (E.take limit.toNat)
  else e=.returned (.tuple #[.slice none 0 0,.string ⟨#[]⟩,.int .i64 1])
theorem jjP.ext{S:List Nd5}{c s:Nat}{fr:ByteArray}{W w1 w2:World}{v v2:Value}{R:List Pair}(h1:W.heap.size≤c)(h2:∀ b,v.ownBlock=some b→W.heap.size≤b)(h3:Ext W w1)(h4:jcz S c s fr w1 v w2 v2 R):Ext W w2:=by
 refine h3.trans' h4.kp.1 (fun x hx e=>?_);rcases e with e | e
 ·omega
 ·have:=h2 x e;omega
theorem jjo(W:World)(s bm:Nat)(room:Int)(S:List Nd5)(fr k:ByteArray)(E:List Pair)(limit:Int)(hf:fr.size≤100000)(hSK:Calls Tryz.prog 42 #[.pointer (some ⟨s,0,none⟩),.string k,.string fr] W (jjO S s fr (jaV E) W))(hs:jat W s bm room S) :
  Calls Tryz.prog 39 #[.pointer (some ⟨s,0,none⟩),.string k,.string fr,.int .i64 limit] W (jp7 E limit W):=by
 have HSK:=Hd hSK;have HS:=Hd hs;have hps:=jb5 fr;clear hs hSK;go_enter Tryz.func39,Tryz.ntmps39;go_wp2_with fail
 refine HSK.o.mono ?_;rintro e w1 ⟨c,v,rfl,hc,hv,hX,hC⟩;have HCC:=Hd (And.intro hc hv);have HX:=Hd hX;have HC:=Hd hC;clear hc hv hX hC
 by_cases h1:limit < 1
 ·go_wp2_with fail
  go_ret3
  refine⟨HX.o,?_⟩
  rw[if_neg (by omega)];rfl
 ·by_cases h2:8 < limit
  ·go_wp2_with fail
   go_ret3
   refine⟨HX.o,?_⟩
   rw[if_neg (by omega)];rfl
  ·obtain⟨n,rfl⟩:∃ n:Nat,limit=(n:Int):=⟨limit.toNat,by omega⟩
   have HN:=Hd (show 1≤n∧n≤8 by omega);go_wp2_with fail
   refine (jqW w1 c s bm room S (jaL fr) E v n (by have:=HN.o;omega) (by omega) HC.o (HS.o.ext HX.o)).mono ?_;rintro e w2 ⟨lv,v2,rfl,hR,hne,hT⟩;have HR:=Hd hR;have HNE:=Hd hne;have HT:=Hd hT;clear hR hne hT;go_wp2_with fail
   refine (jlg w2 c s bm room S (jaL fr) (jaV (E.drop n)) v2 (by omega) HT.o.at' (HC.o.store (HS.o.ext HX.o) HT.o.kp.1)).mono ?_;rintro e w3 ⟨rfl,v3,hT3⟩;rw[jgn,jn2];have hcl:=HC.o.lt;have hrl:∀ b,lv.ownBlock=some b→b < w2.heap.size:=fun b hb=>jee HR.o.own hb;have hR3:=HR.o.keeps hT3.kp.1 (fun b hb e=>by
    rcases e with e | e
    ·have:=HR.o.new b hb;have:=hcl.1;omega
    ·exact HNE.o b hb e)
   have HF:=Hd (And.intro hR3 (HT.o.trans hT3));clear hT3 hcl hrl hR3;go_wp2_with fail
   go_ret3
   obtain⟨hR3,hT3⟩:=HF.o
   refine⟨jjP.ext HCC.o.1 HCC.o.2 HX.o hT3,?_⟩
   rw[if_pos (by have:=HN.o;omega)]
   exact⟨lv,rfl,hR3.own,fun b hb=>Nat.le_trans HX.o.size (hR3.new b hb)⟩
theorem jqM(W:World)(s bm:Nat)(room:Int)(S:List Nd5)(fr:ByteArray)(l:List Pair)(limit:Int)(hf:fr.size≤100000)(hM:HasM S l)(hs:jat W s bm room S) :
  Calls Tryz.prog 39 #[.pointer (some ⟨s,0,none⟩),.string (shaB (ja2 l).text),.string fr,.int .i64 limit] W (jp7 (jeP fr l) limit W):=
 jjo W s bm room S fr _ (jeP fr l) limit hf (by
  have h:=jjA W s bm room S fr l hf hM hs;unfold jjP at h;rw[jeh]at h;exact h) hs
end
section
open Go Go.RowKit
def jos(P:Program)(gf:FuncId)(pre lb:Array Value)(N:Nat)(vals:Nat→Array Value)(M:BSet)(S:BSet→World→Prop)(SE:Nat→BSet→World→Prop):Prop:=
 ∀ (l:Nat) (C:Nat→BSet→World→Prop) (Cx:Nat→BSet→World→Prop),(∀ k,Supp (C k))→(∀ k,Supp (Cx k)) →
  ∀ D O W,(∀ k D' W',k < N→C k D' W'→jae (fun b=>D b∨M b) W W'→jkT P l (vals k) D' W' (C (k+1)) (Cx (k+1))) →
   C 0 D W→S O W→(∀ b,D b→¬ O b) →
   CallsIn Fence.wide 0 P gf ((pre++#[.func (.yield l) #[] #[]])++lb) W (jgt W M D O N C Cx SE)
theorem jij{P:Program}{g:Operand}{ps:Array Tmp}{assign body:Code}{Q:Exit→Act→World→Prop}{a:Act}{w:World}
  {gf:Nat} {pre lb:Array Value} (hg:a.eval g=.func (.func gf) pre lb) (eg:∀ args w,(callFunc gf args).run P w=.ok (.enter gf args) w)
  {N:Nat} {vals:Nat→Array Value} {M:BSet} {S:BSet→World→Prop} {SE:Nat→BSet→World→Prop} (IS:jos P gf pre lb N vals M S SE)
  (hS:Supp S) (hps:∀ k,(vals k).size=ps.size)
  (C:Nat→BSet→World→Prop) (Cj:Code→Nat→BSet→World→Prop) (hC:∀ k,Supp (C k)) (hCj:∀ c k,Supp (Cj c k))
  (D₀ O₀:BSet) (h0:C 0 D₀ w) (hS0:S O₀ w) (hdis:∀ b,D₀ b→¬ O₀ b) (a₁:Nat→Act)
  (hassign:∀ (l k:Nat) (W:World) (K:Act→World→Prop),K (a₁ k) W →
   assign.wpIn (Fence.wide.inRound l) 0 P (Exit.then K (fun _ _ _=>False)) { tmps:=(ps.zip (vals k)).foldl (fun t (p,v)=>t.setIfInBounds p v) a.tmps,defers:=[] } W)
  (hbody:∀ (l k:Nat) (D:BSet) (W:World),k < N→C k D W→jae (fun b=>D₀ b∨M b) w W→body.wpIn (Fence.wide.inRound l) 0 P (jqc D W (C (k+1)) (fun c=>Cj c (k+1))) (a₁ k) W)
  (hdone:∀ (D O:BSet) (W:World),jae (fun b=>D₀ b∨M b) w W→C N D W→SE N O W→(∀ b,D b→¬ O b)→(∀ b,D b→D₀ b∨w.heap.size≤b)→(∀ b,O b→O₀ b∨w.heap.size≤b) →
   Blk W w.heap.size (.deferred (some []))→¬ D w.heap.size→¬ O w.heap.size →
   Q .normal { a with defers:={ target:=.collected w.heap.size,args:=#[] } :: a.defers } W)
  (hstop:∀ (c:Code) (k:Nat) (D O:BSet) (W:World),k≤N→0 < k→jae (fun b=>D₀ b∨M b) w W→Cj c k D W→SE k O W→(∀ b,D b→¬ O b)→(∀ b,D b→D₀ b∨w.heap.size≤b)→(∀ b,O b→O₀ b∨w.heap.size≤b) →
   Blk W w.heap.size (.deferred (some []))→¬ D w.heap.size→¬ O w.heap.size →
   c.wpIn Fence.wide 0 P Q { a with defers:={ target:=.collected w.heap.size,args:=#[] } :: a.defers } W)
  (hSE:∀ k,Supp (SE k)) :
  (Code.rangeFunc g ps assign body).wpIn Fence.wide 0 P Q a w:=by
 refine wpIn_rangeFunc ?_;intro fn _;show ∃ l mark w₁ d w₁' f args w₂,(Instr.enterLoop fn a.tmps ps assign body none).run P w=_∧_
 obtain⟨rec,hrec⟩:∃ rec:LoopState→Option Code→Loop,rec=fun st pe=>{ state:=st,pending:=pe,fn,tmps:=a.tmps,params:=ps,assign,body,defers:=w.heap.size }:=⟨_,rfl⟩
 obtain⟨W1,hW1⟩:∃ W1,(w.alloc (.deferred (some []))).alloc (.loop (rec .ready none))=W1:=⟨_,rfl⟩
 have hL1:Blk W1 (w.heap.size+1) (.loop (rec .ready none)):=by
  rw[←hW1];have:=Blk.new (w.alloc (.deferred (some []))) (.loop (rec .ready none));rwa [World.size_alloc]at this
 have hK1:Blk W1 w.heap.size (.deferred (some [])):=by
  rw[←hW1];exact (Blk.new w _).alloc _
 have hX1:Ext w W1:=by rw[←hW1];exact ((jae.refl _ w).alloc _).alloc _
 have hs1:W1.heap.size=w.heap.size+2:=by rw[←hW1];simp
 have hD0:∀ b,D₀ b→b < w.heap.size:=(hC 0).lt _ _ h0;have hO0:∀ b,O₀ b→b < w.heap.size:=hS.lt _ _ hS0
 refine⟨w.heap.size+1,[{ target:=.collected w.heap.size,args:=#[] }],W1,{ target:=.fn (.func gf) lb,args:=pre++#[.func (.yield (w.heap.size+1)) #[] #[]] },W1,gf,
  (pre++#[.func (.yield (w.heap.size+1)) #[] #[]])++lb,W1,?_,?_,?_,?_,fun h=>by simp[Fence.wide]at h,?_⟩
 ·rw[←hW1,hrec];exact run_enterLoop_outer _ _ _ _ _
 ·simp only[resolve,hg]
  simp[go_sem]
 ·intro f' _;trivial
 ·simp[invoke,go_sem,eg]
 ·-- the consumer's invariant with the two blocks of book-keeping
  let CC:Nat→BSet→World→Prop:=fun k D W=>∃ D':BSet,C k D' W∧(∀ b,D b↔D' b∨b=w.heap.size+1∨b=w.heap.size)∧¬ D' (w.heap.size+1)∧¬ D' w.heap.size ∧
   Blk W (w.heap.size+1) (.loop (rec .ready none))∧Blk W w.heap.size (.deferred (some []))
  let CX:Nat→BSet→World→Prop:=fun k D W=>∃ (c:Code) (D':BSet),Cj c k D' W∧(∀ b,D b↔D' b∨b=w.heap.size+1∨b=w.heap.size)∧¬ D' (w.heap.size+1)∧¬ D' w.heap.size ∧
   Blk W (w.heap.size+1) (.loop (rec .done (some c)))∧Blk W w.heap.size (.deferred (some []))
  have sCC:∀ k,Supp (CC k):=fun k=>⟨fun D W ⟨D',h1,h2,_,_,h3,h4⟩ b hb=>by
    rcases (h2 b).1 hb with h | rfl | rfl
    ·exact (hC k).lt _ _ h1 b h
    ·exact h3.lt
    ·exact h4.lt,
   fun D W W' ⟨D',h1,h2,h5,h6,h3,h4⟩ hs hb=>⟨D',(hC k).st _ _ _ h1 hs (fun b h=>hb b ((h2 b).2 (.inl h))),h2,h5,h6,
    (hb _ ((h2 _).2 (.inr (.inl rfl)))).trans h3,(hb _ ((h2 _).2 (.inr (.inr rfl)))).trans h4⟩⟩
  have sCX:∀ k,Supp (CX k):=fun k=>⟨fun D W ⟨c,D',h1,h2,_,_,h3,h4⟩ b hb=>by
    rcases (h2 b).1 hb with h | rfl | rfl
    ·exact (hCj c k).lt _ _ h1 b h
    ·exact h3.lt
    ·exact h4.lt,
   fun D W W' ⟨c,D',h1,h2,h5,h6,h3,h4⟩ hs hb=>⟨c,D',(hCj c k).st _ _ _ h1 hs (fun b h=>hb b ((h2 b).2 (.inl h))),h2,h5,h6,
    (hb _ ((h2 _).2 (.inr (.inl rfl)))).trans h3,(hb _ ((h2 _).2 (.inr (.inr rfl)))).trans h4⟩⟩
  have key:=IS (w.heap.size+1) CC CX sCC sCX (fun b=>D₀ b∨b=w.heap.size+1∨b=w.heap.size) O₀ W1 ?_
   ⟨D₀,(hC 0).keeps h0 hX1 (fun _ _ h=>h),fun _=>Iff.rfl,fun h=>by have:=hD0 _ h;omega,fun h=>by have:=hD0 _ h;omega,hL1,hK1⟩
   (hS.keeps hS0 hX1 (fun _ _ h=>h)) (fun b hb ho=>by
    have:=hO0 b ho
    rcases hb with h | rfl | rfl
    ·exact hdis b h ho
    ·omega
    ·omega)
  ·refine CallsIn.mono key ?_
   rintro e W' ⟨⟨v,rfl⟩,D',O',hk,hD',hO',hdis',hcase⟩;have hkw:jae (fun b=>D₀ b∨M b) w W':=(hX1.mono (fun _ _ h=>h.elim)).trans' hk (fun x hx h=>by
     rcases h with (h | rfl | rfl) | h
     ·exact .inl h
     ·omega
     ·omega
     ·exact .inr h)
   have hOo:∀ b,O' b→O₀ b∨w.heap.size≤b:=fun b hb=>(hO' b hb).imp id (fun h=>by omega);rcases hcase with⟨⟨D'',h1,h2,h5,h6,h3,h4⟩,hse⟩ |⟨k,hk1,hk2,⟨c,D'',h1,h2,h5,h6,h3,h4⟩,hse⟩
   ·have hO1:¬ O' (w.heap.size+1):=hdis' _ ((h2 _).2 (.inr (.inl rfl)))
    have hO2:¬ O' w.heap.size:=hdis' _ ((h2 _).2 (.inr (.inr rfl)))
    obtain⟨ox,he⟩:∃ ox,(Instr.endLoop (w.heap.size+1)).run P W'=.ok none (W'.putObj (w.heap.size+1) ox):=⟨_,(run_endLoop (r:=rec .ready none) h3 (by rw[hrec];simp)).trans (by rw[hrec])⟩
    have hkl:=jae.onePut W' (w.heap.size+1) ox
    refine⟨none,_,he,?_⟩
    refine hdone D'' O' _ (hkw.trans' hkl (fun x hx e=>by omega)) ((hC N).keeps h1 hkl (fun b hb e=>h5 (e ▸ hb))) ((hSE N).keeps hse hkl (fun b hb e=>hO1 (e ▸ hb)))
     (fun b hb ho=>hdis' b ((h2 b).2 (.inl hb)) ho) (fun b hb=>?_) hOo (h4.put_other (by omega) _) h6 hO2
    rcases hD' b ((h2 b).2 (.inl hb))with (h | rfl | rfl) | h
    ·exact .inl h
    ·exact absurd hb h5
    ·exact absurd hb h6
    ·exact .inr (by omega)
   ·have hO1:¬ O' (w.heap.size+1):=hdis' _ ((h2 _).2 (.inr (.inl rfl)))
    have hO2:¬ O' w.heap.size:=hdis' _ ((h2 _).2 (.inr (.inr rfl)))
    obtain⟨ox,he⟩:∃ ox,(Instr.endLoop (w.heap.size+1)).run P W'=.ok (some c) (W'.putObj (w.heap.size+1) ox):=⟨_,(run_endLoop (r:=rec .done (some c)) h3 (by rw[hrec];simp)).trans (by rw[hrec])⟩
    have hkl:=jae.onePut W' (w.heap.size+1) ox
    refine⟨some c,_,he,?_⟩
    refine hstop c k D'' O' _ hk1 hk2 (hkw.trans' hkl (fun x hx e=>by omega)) ((hCj c k).keeps h1 hkl (fun b hb e=>h5 (e ▸ hb))) ((hSE k).keeps hse hkl (fun b hb e=>hO1 (e ▸ hb)))
     (fun b hb ho=>hdis' b ((h2 b).2 (.inl hb)) ho) (fun b hb=>?_) hOo (h4.put_other (by omega) _) h6 hO2
    rcases hD' b ((h2 b).2 (.inl hb))with (h | rfl | rfl) | h
    ·exact .inl h
    ·exact absurd hb h5
    ·exact absurd hb h6
    ·exact .inr (by omega)
  ·rintro k D W hk ⟨D',h1,h2,h5,h6,h3,h4⟩ hkk
   have hkw:jae (fun b=>D₀ b∨M b) w W:=(hX1.mono (fun _ _ h=>h.elim)).trans' hkk (fun x hx h=>by
     rcases h with (h | rfl | rfl) | h
     ·exact .inl h
     ·omega
     ·omega
     ·exact .inr h)
   have hD1:D (w.heap.size+1):=(h2 _).2 (.inr (.inl rfl))
   refine⟨_,_,_,_,run_yield h3 (by rw[hrec];exact hps k),?_⟩
   refine roundIn_of_wpIn trivial ?_;rw[show (rec .ready none).tmps=a.tmps from by rw[hrec],show (rec .ready none).params=ps from by rw[hrec],show (rec .ready none).assign=assign from by rw[hrec],show (rec .ready none).body=body from by rw[hrec]];refine hassign _ k W _ ?_
   refine⟨_,run_beginRound h3 (by rw[hrec]),?_⟩
   have hkb:jae (fun b=>b=w.heap.size+1) W (W.putObj (w.heap.size+1) (.loop { rec .ready none with state:=.busy })):=jae.onePut _ _ _;have hsz:w.heap.size≤W.heap.size:=by have:=h4.lt;omega
   refine Code.wpIn_mono ?_ (hbody (w.heap.size+1) k D' _ hk ((hC k).keeps h1 hkb (fun b hb e=>h5 (e ▸ hb))) (hkw.trans' hkb (fun x hx e=>by omega)));have fin:∀ (j:Option Code) (D'':BSet) (W':World),jae D' (W.putObj (w.heap.size+1) (.loop { rec .ready none with state:=.busy })) W' →
     (∀ b,D'' b→D' b∨(W.putObj (w.heap.size+1) (.loop { rec .ready none with state:=.busy })).heap.size≤b) →
     (Instr.endRound (w.heap.size+1) j).run P W'=.ok (.bool j.isNone) (W'.putObj (w.heap.size+1) (.loop (rec (if j.isNone then .ready else .done) j))) ∧
     jae D W (W'.putObj (w.heap.size+1) (.loop (rec (if j.isNone then .ready else .done) j))) ∧
     jae (fun b=>b=w.heap.size+1) W' (W'.putObj (w.heap.size+1) (.loop (rec (if j.isNone then .ready else .done) j))) ∧
     (∀ b,(D'' b∨b=w.heap.size+1∨b=w.heap.size)→D b∨W.heap.size≤b)∧¬ D'' (w.heap.size+1)∧¬ D'' w.heap.size ∧
     Blk (W'.putObj (w.heap.size+1) (.loop (rec (if j.isNone then .ready else .done) j))) (w.heap.size+1) (.loop (rec (if j.isNone then .ready else .done) j)) ∧
     Blk (W'.putObj (w.heap.size+1) (.loop (rec (if j.isNone then .ready else .done) j))) w.heap.size (.deferred (some [])):=by
    intro j D'' W' hK hD'';have hl:Blk W' (w.heap.size+1) (.loop { rec .ready none with state:=.busy }):=(h3.put_same _).keeps hK h5;have hd:Blk W' w.heap.size (.deferred (some [])):=(h4.put_other (by omega) _).keeps hK h6;have hke:jae (fun b=>b=w.heap.size+1) W' (W'.putObj (w.heap.size+1) (.loop (rec (if j.isNone then .ready else .done) j))):=jae.onePut _ _ _;rw[World.putObj_size]at hD'';have hlt3:=h3.lt;have hlt4:=h4.lt
    refine⟨?_,?_,hke,?_,?_,?_,?_,?_⟩
    ·rw[run_endRound j hl,hrec]
    ·exact ((hkb.mono (fun x _ e=>e ▸ hD1)).trans' hK (fun x hx h=>(h2 x).2 (.inl h))).trans' hke (fun x hx e=>e ▸ hD1)
    ·rintro b (h | rfl | rfl)
     ·exact (hD'' b h).imp (fun h=>(h2 b).2 (.inl h)) id
     ·exact .inl hD1
     ·exact .inl ((h2 _).2 (.inr (.inr rfl)))
    ·intro h;rcases hD'' _ h with h | h
     ·exact h5 h
     ·omega
    ·intro h;rcases hD'' _ h with h | h
     ·exact h6 h
     ·omega
    ·exact hl.put_same _
    ·exact hd.put_other (by omega) _
   intro e a' W' hq;cases e with
   | normal =>
    obtain⟨D'',hK,hD'',hc⟩:=hq
    obtain⟨f1,f2,f3,f4,f5,f6,f7,f8⟩:=fin none D'' W' hK hD''
    exact⟨_,_,f1,fun b=>D'' b∨b=w.heap.size+1∨b=w.heap.size,f2,f4,.inl ⟨rfl,D'',(hC _).keeps hc f3 (fun b hb e=>f5 (e ▸ hb)),fun _=>Iff.rfl,f5,f6,f7,f8⟩⟩
   | ret =>
    obtain⟨D'',hK,hD'',hc⟩:=hq
    obtain⟨f1,f2,f3,f4,f5,f6,f7,f8⟩:=fin (some .ret) D'' W' hK hD''
    exact⟨_,_,f1,fun b=>D'' b∨b=w.heap.size+1∨b=w.heap.size,f2,f4,.inr ⟨rfl,.ret,D'',(hCj _ _).keeps hc f3 (fun b hb e=>f5 (e ▸ hb)),fun _=>Iff.rfl,f5,f6,f7,f8⟩⟩
   | exit i =>
    obtain⟨D'',hK,hD'',hc⟩:=hq
    obtain⟨f1,f2,f3,f4,f5,f6,f7,f8⟩:=fin (some (.exit i)) D'' W' hK hD''
    exact⟨_,_,f1,fun b=>D'' b∨b=w.heap.size+1∨b=w.heap.size,f2,f4,.inr ⟨rfl,.exit i,D'',(hCj _ _).keeps hc f3 (fun b hb e=>f5 (e ▸ hb)),fun _=>Iff.rfl,f5,f6,f7,f8⟩⟩
   | goto t=>exact hq.elim
   | panic ch=>exact hq.elim
   | outgrown=>exact hq.elim
end
section
open Go Go.RowKit
attribute [local go_sem] Oper.semAt_some
theorem jat.heap{W0 W:World}{s bm:Nat}{room:Int}{S:List Nd5}(h:jat W0 s bm room S)(hz:W0.heap.size≤W.heap.size)(hb:∀ b,b < W0.heap.size→W.heap[b]?=W0.heap[b]?):jat W s bm room S:=by
 have h1:jat { W with heap:=W0.heap } s bm room S:=⟨h.st,⟨h.mp.mp,h.mp.blks,fun x hx=>⟨(h.mp.items x hx).cells⟩⟩⟩;exact h1.ext ⟨rfl,rfl,rfl,hz,fun b hl _=>hb b hl⟩
theorem jaS.heap{W W':World}{c s:Nat}{fr:ByteArray}{v:Value}{ps:List Pl5}{lk:Int}(h:jaS W c s fr v ps lk)(hz:W.heap.size≤W'.heap.size)(hb:∀ b,b=c∨v.ownBlock=some b→W'.heap[b]?=W.heap[b]?):jaS W' c s fr v ps lk:=by
 have h1:jaS { W' with heap:=W.heap } c s fr v ps lk:=⟨h.cur,h.row,h.ne⟩;exact h1.keeps (F:=fun b=>¬(b=c∨v.ownBlock=some b)) ⟨rfl,rfl,rfl,hz,fun b _ hn=>hb b (Classical.not_not.1 hn)⟩ (fun e=>e (.inl rfl)) (fun b hb e=>e (.inr hb))
theorem jcy.heap{S:List Nd5}{W W':World}{c s:Nat}{fr:ByteArray}{v:Value}{R:List Pair}(h:jcy S c s fr R W v)(hz:W.heap.size≤W'.heap.size)(hb:∀ b,b=c∨v.ownBlock=some b→W'.heap[b]?=W.heap[b]?):jcy S c s fr R W' v:=by
 obtain⟨ts,N,n,h⟩:=h
 exact⟨ts,N,n,⟨h.left.heap hz hb,h.stk,h.look,h.len⟩⟩
structure EaS(W0:World)(S:List Nd5)(c s:Nat)(fr:ByteArray)(E:List Pair)(v:Value)(O:BSet)(W:World):Prop where
 is:∀ b,O b↔b < W0.heap.size∨b=c∨v.ownBlock=some b
 size:W0.heap.size≤W.heap.size
 old:∀ b,b < W0.heap.size→W.heap[b]?=W0.heap[b]?
 cur:jcy S c s fr (jaV E) W v
theorem EaS.supp(W0:World)(S:List Nd5)(c s:Nat)(fr:ByteArray)(E:List Pair)(v:Value):Supp (EaS W0 S c s fr E v):=by
 refine⟨fun D W h b hb=>?_,fun D W W' h hz hb=>⟨h.is,Nat.le_trans h.size hz,fun b hl=>(hb b ((h.is b).2 (.inl hl))).trans (h.old b hl),h.cur.heap hz fun b hc=>hb b ((h.is b).2 (.inr hc))⟩⟩
 rcases (h.is b).1 hb with h1 | rfl | h1
 ·exact Nat.lt_of_lt_of_le h1 h.size
 ·exact h.cur.lt.1
 ·exact h.cur.lt.2 b h1
def EaE(_:Nat)(O:BSet)(W:World):Prop:=∀ b,O b→b < W.heap.size
theorem EaE.supp(k:Nat):Supp (EaE k):=⟨fun D W h b hb=>h b hb,fun D W W' h hz _ b hb=>Nat.lt_of_lt_of_le (h b hb) hz⟩
def atE(E:List Pair)(k:Nat):Pair:=E.getD k pd
def isE(E:List Pair)(k:Nat):Bool:=decide (k < E.length)
def eaV(E:List Pair)(k:Nat):Array Value:=#[.string (atE E k).1,.string (atE E k).2]
structure jq3(W:World)(S:List Nd5)(c s:Nat)(fr:ByteArray)(E:List Pair)(v:Value)(C:Nat→BSet→World→Prop)(D:BSet)(k g:Nat)(Dk:BSet)(v':Value)(wr:World):Prop where
 le:k≤E.length
 at':C k Dk wr
 sub:∀ b,Dk b→D b∨W.heap.size≤b
 kp:jae (fun b=>D b∨b=c∨v.ownBlock=some b) W wr
 cur:jcy S c s fr (jaV (E.drop (k+1))) wr v'
 row:v'.ownBlock=v.ownBlock∨∀ b,v'.ownBlock=some b→W.heap.size≤b
 var:Blk wr g (.cells #[.string (atE E k).1,.string (atE E k).2] 95)
 vnew:W.heap.size≤g
 n1:¬ Dk g
 n2:¬ Dk c
 n3:∀ b,v'.ownBlock=some b→¬ Dk b
 n4:v'.ownBlock≠some g
def EaI(W:World)(S:List Nd5)(c s:Nat)(fr:ByteArray)(E:List Pair)(v:Value)(C:Nat→BSet→World→Prop)(D:BSet)(gv bv:Value)(wr:World)(m:Nat):Prop:=
 ∃ k g Dk v',k+m=E.length∧gv=.pointer (some ⟨g,0,none⟩)∧bv=.bool (isE E k)∧jq3 W S c s fr E v C D k g Dk v' wr
def jp1(W:World)(S:List Nd5)(c s:Nat)(fr:ByteArray)(E:List Pair)(v:Value)(C:Nat→BSet→World→Prop)(D:BSet)(gv bv:Value)(wr:World):Prop:=∃ m,EaI W S c s fr E v C D gv bv wr m
theorem jeG{p:Nat→Prop}(h:∃ m,p m):∃ m,p m∧∀ k,p k→m≤k:=by
 obtain⟨m,hm⟩:=h
 induction m using Nat.strongRecOn with
 | ind m ih =>
  by_cases hx:∃ k,k < m∧p k
  ·obtain⟨k,hk,hp⟩:=hx
   exact ih k hk hp
  ·exact⟨m,hm,fun k hk=>Nat.le_of_not_lt fun hl=>hx ⟨k,hl,hk⟩⟩
open Classical in
noncomputable def least(p:Nat→Prop):Nat:=if h:∃ m,p m then (jeG h).choose else 0
theorem jgh{p:Nat→Prop}(h:∃ m,p m):p (least p)∧∀ k,p k→least p≤k:=by
 unfold least;rw[dif_pos h];exact (jeG h).choose_spec
theorem jjm(E:List Pair)(k:Nat):jiD (E.drop k)=.tuple #[.agg #[.string (atE E k).1,.string (atE E k).2],.bool (isE E k)]:=by
 unfold atE isE
 by_cases h:k < E.length
 ·have e:E.drop k=E[k] :: E.drop (k+1):=List.drop_eq_getElem_cons h
  rw[e,decide_eq_true h,List.getD_eq_getElem?_getD,List.getElem?_eq_getElem h];rfl
 ·rw[List.drop_of_length_le (by omega),decide_eq_false h,List.getD_eq_getElem?_getD,List.getElem?_eq_none (by omega)];rfl
theorem jiX(W0:World)(c s bm:Nat)(room:Int)(S:List Nd5)(hs0:jat W0 s bm room S)(fr:ByteArray)(E:List Pair)(v:Value)(hf:fr.size≤1000000)(hE:E.length≤8000)(hc:W0.heap.size≤c)(hv:∀ b,v.ownBlock=some b→W0.heap.size≤b) :
  jos Tryz.prog 96 #[.pointer (some ⟨c,0,none⟩)] #[] E.length (eaV E) (fun b=>b=c∨v.ownBlock=some b) (EaS W0 S c s fr E v) EaE:=by
 intro y C Cx hC hCx D O W hY h0 hS hdis;have HST:=Hd (show ∀ w,jae (fun b=>D b∨b=c∨v.ownBlock=some b) W w→jat w s bm room S from fun w k=>hs0.heap (Nat.le_trans hS.size k.size) fun b hb=>(k.block b (Nat.lt_of_lt_of_le hb hS.size) (fun e=>by
  rcases e with e | e | e
  ·exact hdis b e ((hS.is b).2 (.inl hb))
  ·omega
  ·have:=hv b e;omega)).trans (hS.old b hb))
 have HY:=Hd hY;have HC:=Hd hC;have HCX:=Hd hCx;have H0:=Hd h0;have HS:=Hd hS;have HD:=Hd hdis;have hnx:=je3 W c s bm room S fr (jaV E) v hf hS.cur (HST.o W (jae.refl _ W));rw[jcY,jeA,show jiD E=_ from jjm E 0]at hnx;have HNX:=Hd hnx;clear hY hC hCx h0 hS hdis hnx;refine callsIn_of_wp Tryz.func96 rfl trivial ?_ rfl;simp only[Tryz.ntmps96,List.size_toArray,List.length_cons,List.length_nil,Nat.reduceAdd,Nat.reduceSub,Array.replicate_succ,Array.replicate_zero,List.push_toArray,List.append_toArray,List.nil_append,List.cons_append];gi_wp2_with fail
 refine⟨trivial,rfl,CallsIn.mono (callsIn_wide.2 HNX.o) ?_⟩
 rintro e w1 ⟨rfl,v1,hT1⟩;have HT1:=Hd hT1;clear hT1;gi_wp2_with fail
 have hX:Ext w1 (w1.alloc (.cells #[.string (atE E 0).1,.string (atE E 0).2] 95)):=(ExtR w1).alloc _;have hB:Blk (w1.alloc (.cells #[.string (atE E 0).1,.string (atE E 0).2] 95)) w1.heap.size (.cells #[.string (atE E 0).1,.string (atE E 0).2] 95):=Blk.new w1 _
 obtain⟨w2,hw2⟩:∃ w2,w2=w1.alloc (.cells #[.string (atE E 0).1,.string (atE E 0).2] 95):=⟨_,rfl⟩
 rw[←hw2]at hX hB ⊢;have HX:=Hd hX;have HB:=Hd hB;clear hX hB hw2;gi_loopw [4,5] (fun gv bv wr=>jp1 W S c s fr E v C D gv bv wr) (fun gv bv wr=>least (EaI W S c s fr E v C D gv bv wr))
 case atStart =>
  have hT:=HT1.o;have hkp:=hT.kp;have hDlt:=(HC.o 0).lt _ _ H0.o;have hDO:∀ b,D b→¬(b=c∨v.ownBlock=some b):=fun b hb e=>HD.o b hb ((HS.o.is b).2 (.inr e));have hsz:=hkp.1.size
  refine⟨E.length,0,w1.heap.size,D,v1,by omega,rfl,rfl,⟨by omega,(HC.o 0).keeps ((HC.o 0).keeps H0.o hkp.1 hDO) HX.o (fun _ _ h=>h),fun b hb=>.inl hb,(hkp.1.mono (fun b _ h=>.inr h)).trans' HX.o (fun _ _ h=>h.elim),?_,hkp.2,HB.o,hsz,fun h=>by have:=hDlt _ h;omega,fun h=>hDO c h (.inl rfl),fun b hb h=>?_,fun e=>?_⟩⟩
  ·have:E.tail=E.drop (0+1):=by cases E <;> rfl
   rw[←this];exact hT.at'.ext HX.o
  ·rcases hkp.2 with h1 | h1
   ·exact hDO b h (.inr (h1 ▸ hb))
   ·have:=h1 b hb;have:=hDlt b h;omega
  ·have:=hT.at'.lt.2 _ e;omega
 case round =>
  obtain⟨hI,hmin⟩:=jgh hrel
  obtain⟨m,hm⟩:∃ m,m=least (EaI W S c s fr E v C D u4 u5 wr):=⟨_,rfl⟩
  rw[←hm]at hI hmin
  obtain⟨k,g,Dk,v',hkm,rfl,rfl,hR⟩:=hI
  have HR:=Hd hR;have HM:=Hd (And.intro hm (And.intro hmin hkm));clear hm hmin hkm hrel;cases hb:isE E k with
  | false =>
   have hke:k=E.length:=by
    have h1:=hR.le
    have:¬ k < E.length:=fun h=>by unfold isE at hb;rw[decide_eq_true h]at hb;cases hb
    omega
   have HF:Hid (jgt W (fun b=>b=c∨v.ownBlock=some b) D O E.length C Cx EaE (.returned (.tuple #[])) wr):=Hd ⟨⟨_,rfl⟩,Dk,fun _=>False,hR.kp,hR.sub,fun b h=>h.elim,fun b _ h=>h,.inl ⟨hke ▸ hR.at',fun b h=>h.elim⟩⟩;clear hR hb hke;gi_wp2;refine bodyPost_end (results_none rfl _ _ _) rfl ?_;exact HF.o
  | true =>
   have hlt:k < E.length:=by unfold isE at hb;exact of_decide_eq_true hb
   have HLT:=Hd hlt;have HBK:=Hd hb;have q0:=hR.var.cell (i:=0) (v:=.string (atE E k).1) (by rfl);have q1:=hR.var.cell (i:=1) (v:=.string (atE E k).2) (by rfl)
   obtain⟨x,hx⟩:∃ x,x=(atE E k).1:=⟨_,rfl⟩
   obtain⟨z,hz⟩:∃ z,z=(atE E k).2:=⟨_,rfl⟩
   obtain⟨fn,tm,asg,bd,hyr,hrd⟩:=HY.o k Dk wr hlt hR.at' hR.kp
   unfold eaV at hyr;have HV:=Hd (show Blk wr g (.cells #[.string x,.string z] 95) by rw[hx,hz];exact hR.var);rw[←hx]at q0 hyr;rw[←hz]at q1 hyr;have HRD:=Hd hrd;clear hR hb hrd hlt hx hz;gi_wp2_with fail
   refine⟨rfl,HRD.o.mono ?_⟩
   rintro e w5 ⟨D5,k5,s5,hcase⟩;have HK5:=Hd (And.intro k5 s5);have hv5:=HV.o.keeps k5 HR.o.n1;have HV5:=Hd hv5;rcases hcase with⟨rfl,C5⟩ |⟨rfl,C5⟩
   ·have q0:=hv5.cell (i:=0) (v:=.string x) (by rfl)
    have q1:=hv5.cell (i:=1) (v:=.string z) (by rfl);have HC5:=Hd C5;clear C5 k5 s5 hv5;gi_wp2_with fail
    have hgl:=HR.o.var.lt;have hcl:=HR.o.cur.lt;have hz5:=HK5.o.1.size;have hx6:Ext w5 (w5.alloc (.cells #[.string x,.string z] 95)):=(ExtR w5).alloc _;have hcur:=((HR.o.cur.keeps HK5.o.1 HR.o.n2 HR.o.n3).ext hx6);have hkp6:jae (fun b=>D b∨b=c∨v.ownBlock=some b) W (w5.alloc (.cells #[.string x,.string z] 95)):=(HR.o.kp.trans' HK5.o.1 (fun b hb h=>by
     rcases HR.o.sub b h with h | h
     ·exact .inl h
     ·omega)).trans' hx6 (fun _ _ h=>h.elim)
    have hb6:Blk (w5.alloc (.cells #[.string x,.string z] 95)) w5.heap.size (.cells #[.string x,.string z] 95):=Blk.new w5 _
    refine⟨trivial,rfl,CallsIn.mono (callsIn_wide.2 (je3 _ c s bm room S fr (jaV (E.drop (k+1))) v' hf hcur (HST.o _ hkp6))) ?_⟩
    rintro e w7 ⟨rfl,v7,hT7⟩;rw[jcY,jjm];rw[jeA,List.tail_drop]at hT7;have hkp7:=hT7.kp;have hb7:=hb6.keeps hkp7.1 (fun e=>by
     rcases e with e | e
     ·omega
     ·have:=hcl.2 _ e;omega)
    have p0:=hb7.cell (i:=0) (v:=.string x) (by rfl);have p1:=hb7.cell (i:=1) (v:=.string z) (by rfl);have f0:w7.frozen? ⟨w5.heap.size,0,none⟩=false:=hb7.frozen;have f1:w7.frozen? ⟨w5.heap.size,1,none⟩=false:=hb7.frozen;have HT7:=Hd hT7;have HB7:=Hd hb7;have HKP6:=Hd hkp6;clear hgl hcl hz5 hcur hkp6 hb6 hkp7 hb7 hT7 hx6 q0 q1;gi_wp2_with fail
    have hnew:EaI W S c s fr E v C D (.pointer (some ⟨w5.heap.size,0,none⟩)) (.bool (isE E (k+1))) ((w7.setCell ⟨w5.heap.size,0,none⟩ (.string (atE E (k+1)).1)).setCell ⟨w5.heap.size,1,none⟩ (.string (atE E (k+1)).2)) (m - 1):=by
     obtain⟨k5,s5⟩:=HK5.o
     have hkm:=HM.o.2.2;have hlt:=HLT.o;have hT7:=HT7.o;have hkp7:=hT7.kp;have hcl:=HR.o.cur.lt;have hz5:=k5.size;have hz6:(w5.alloc (.cells #[.string x,.string z] 95)).heap.size=w5.heap.size+1:=by simp
     have hD5:=(HC.o (k+1)).lt _ _ HC5.o;have hwr:=HR.o.kp.size;have hrow5:∀ b,v'.ownBlock=some b→¬ D5 b:=fun b hb h=>by
      rcases s5 b h with h1 | h1
      ·exact HR.o.n3 b hb h1
      ·have:=hcl.2 b hb;omega
     have hc5:¬ D5 c:=fun h=>by
      rcases s5 c h with h1 | h1
      ·exact HR.o.n2 h1
      ·have:=hcl.1;omega
     have ks1:=jae.oneSet w7 ⟨w5.heap.size,0,none⟩ (.string (atE E (k+1)).1);have ks2:=jae.oneSet (w7.setCell ⟨w5.heap.size,0,none⟩ (.string (atE E (k+1)).1)) ⟨w5.heap.size,1,none⟩ (.string (atE E (k+1)).2);have ks:jae (fun b=>b=w5.heap.size) w7 ((w7.setCell ⟨w5.heap.size,0,none⟩ (.string (atE E (k+1)).1)).setCell ⟨w5.heap.size,1,none⟩ (.string (atE E (k+1)).2)):=ks1.trans ks2;have hC7:=(HC.o (k+1)).keeps ((HC.o (k+1)).keeps HC5.o ((ExtR w5).alloc (.cells #[.string x,.string z] 95)) (fun _ _ h=>h)) hkp7.1 (fun b hb e=>by
      rcases e with e | e
      ·subst e;exact hc5 hb
      ·exact hrow5 b e hb)
     have hC9:=(HC.o (k+1)).keeps hC7 ks (fun b hb e=>by have:=hD5 b hb;omega);have hn7:∀ b,v7.ownBlock=some b→¬ D5 b∧b≠w5.heap.size:=fun b hb=>by
      rcases hkp7.2 with h1 | h1
      ·have hb':v'.ownBlock=some b:=h1 ▸ hb
       have:=hcl.2 b hb'
       exact⟨hrow5 b hb',by omega⟩
      ·have:=h1 b hb
       exact⟨fun h=>by have:=hD5 b h;omega,by omega⟩
     have hcw:c < W.heap.size:=HS.o.cur.lt.1
     refine⟨k+1,w5.heap.size,D5,v7,by omega,rfl,rfl,⟨by omega,hC9,fun b hb=>?_,?_,?_,?_,?_,by omega,fun h=>by have:=hD5 _ h;omega,hc5,fun b hb=>(hn7 b hb).1,fun e=>(hn7 _ e).2 rfl⟩⟩
     ·rcases s5 b hb with h | h
      ·exact HR.o.sub b h
      ·exact .inr (by omega)
     ·refine (HKP6.o.trans' hkp7.1 (fun b hb e=>?_)).trans' ks (fun b hb e=>by omega)
      rcases e with e | e
      ·exact .inr (.inl e)
      ·rcases HR.o.row with h1 | h1
       ·exact .inr (.inr (h1 ▸ e))
       ·have:=h1 b e;omega
     ·exact (hT7.at').keeps ks (fun e=>by omega) (fun b hb e=>(hn7 b hb).2 e)
     ·rcases hkp7.2 with h1 | h1
      ·rcases HR.o.row with h2 | h2
       ·exact .inl (h1.trans h2)
       ·exact .inr fun b hb=>h2 b (h1 ▸ hb)
      ·exact .inr fun b hb=>by have:=h1 b hb;omega
     ·exact (HB7.o.set_same (i:=0) (.string (atE E (k+1)).1)).set_same (i:=1) (.string (atE E (k+1)).2)
    refine⟨⟨m - 1,hnew⟩,?_⟩
    have h1:=(jgh ⟨_,hnew⟩).2 _ hnew;have h2:=HM.o.1;rw[HBK.o]at h2;rw[←h2]
    have:=HM.o.2.2
    have:=HLT.o
    omega
   ·have HF:Hid (jgt W (fun b=>b=c∨v.ownBlock=some b) D O E.length C Cx EaE (.returned (.tuple #[])) w5):=Hd ⟨⟨_,rfl⟩,D5,fun _=>False,HR.o.kp.trans' k5 (fun b hb h=>by
      rcases HR.o.sub b h with h | h
      ·exact .inl h
      ·omega),fun b hb=>by
      rcases s5 b hb with h | h
      ·exact HR.o.sub b h
      ·have:=HR.o.kp.size;exact .inr (by omega),fun b h=>h.elim,fun b _ h=>h,.inr ⟨k+1,by have:=HLT.o;omega,by omega,C5,fun b h=>h.elim⟩⟩
    clear k5 s5 hv5 C5;gi_wp2;refine bodyPost_ret (results_none rfl _ _ _) rfl ?_;exact HF.o
end
section
open Go Go.RowKit
attribute [local go_sem] Oper.semAt_some
theorem Tryz.enterEachCur:∀ args w,(callFunc 96 args).run Tryz.prog w=.ok (.enter 96 args) w:=fun _ _=>by kernel_rfl
theorem jlF(l:List Pair):jeP ⟨#[]⟩ l=l:=by
 unfold jeP;rw[List.filter_eq_self];intro p _;cases h:ja9 p.1 ⟨#[]⟩with
 | false=>rfl
 | true=>exact absurd ((jbK _ _).1 h) (jaQ _)
def CtC(t:Nat)(k:Nat)(D:BSet)(W:World):Prop:=(∀ b,D b↔b=t)∧Blk W t (.cells #[.int .i64 (k:Int)] 3)
theorem CtC.supp(t k:Nat):Supp (CtC t k):=⟨fun D W h b hb=>by rw[(h.1 b).1 hb];exact h.2.lt,fun D W W' h hz hb=>⟨h.1,(hb t ((h.1 t).2 rfl)).trans h.2⟩⟩
theorem jpx:Supp (fun _ _=>False):=⟨fun _ _ h=>h.elim,fun _ _ _ h=>h.elim⟩
theorem jhs(W:World)(s bm:Nat)(room:Int)(S:List Nd5)(k:ByteArray)(l:List Pair)(hSK:Calls Tryz.prog 42 #[.pointer (some ⟨s,0,none⟩),.string k,.string ⟨#[]⟩] W (jjO S s ⟨#[]⟩ (jaV l) W))(hl40:l.length≤8000)(hs:jat W s bm room S) :
  Calls Tryz.prog 41 #[.pointer (some ⟨s,0,none⟩),.string k] W fun e w'=>e=.returned (.tuple #[.int .i64 l.length,.int .i64 0])∧Ext W w':=by
 have HSK:=Hd hSK;have HS:=Hd hs;clear hs hSK;rw[←callsIn_wide (n:=0)];refine callsIn_of_wp_marks Tryz.func41 rfl trivial ?_ rfl;simp only[Tryz.ntmps41,List.size_toArray,List.length_cons,List.length_nil,Nat.reduceAdd,Nat.reduceSub,Array.replicate_succ,Array.replicate_zero,List.push_toArray,List.append_toArray,List.nil_append,List.cons_append];gi_wp2_with fail
 refine⟨trivial,rfl,CallsIn.mono (callsIn_wide.2 HSK.o) ?_⟩
 rintro e w1 ⟨c,v,rfl,hc,hv,hX,hC⟩;have HCC:=Hd (And.intro hc hv);have HX:=Hd hX;have HC:=Hd hC;clear hc hv hX hC;gi_wp2_with fail
 obtain⟨w2,hw2⟩:∃ w2,w2=w1.alloc (.cells #[.int .i64 0] 3):=⟨_,rfl⟩
 have hX2:Ext w1 w2:=by rw[hw2];exact (ExtR w1).alloc _
 have hB2:Blk w2 w1.heap.size (.cells #[.int .i64 ((0:Nat):Int)] 3):=by rw[hw2];exact Blk.new w1 _
 have hz2:w2.heap.size=w1.heap.size+1:=by rw[hw2];simp
 rw[←hw2];have hcl:=HC.o.lt;have hS0:EaS W S c s (jaL ⟨#[]⟩) l v (fun b=>b < W.heap.size∨b=c∨v.ownBlock=some b) w2:=
  ⟨fun b=>Iff.rfl,by have:=HX.o.size;omega,fun b hb=>(hX2.block b (by have:=HX.o.size;omega) (fun h=>h)).trans (HX.o.block b hb (fun h=>h)),HC.o.ext hX2⟩
 have HX2:=Hd (HX.o.trans hX2);have HZ:=Hd (And.intro hz2 HX.o.size);clear hw2 hX2 hz2;refine jij (N:=l.length) (gf:=96) (pre:=#[.pointer (some ⟨c,0,none⟩)]) (lb:=#[]) rfl Tryz.enterEachCur
  (jiX W c s bm room S HS.o (jaL ⟨#[]⟩) l v (by have:=jb5 ⟨#[]⟩;rw[this];decide) (by omega) HCC.o.1 HCC.o.2)
  (EaS.supp W S c s (jaL ⟨#[]⟩) l v) (fun k=>rfl) (CtC w1.heap.size) (fun _ _ _ _=>False) (CtC.supp w1.heap.size) (fun _ _=>jpx)
  (fun b=>b=w1.heap.size) (fun b=>b < W.heap.size∨b=c∨v.ownBlock=some b) ⟨fun b=>Iff.rfl,hB2⟩ hS0
  (fun b hb ho=>by
   have hb:b=w1.heap.size:=hb;subst hb;rcases ho with h | h | h
   ·have:=HZ.o.2;omega
   ·omega
   ·have:=hcl.2 _ h;omega)
  (fun j=>{ tmps:=#[.pointer (some ⟨s,0,none⟩),.string k,undef,undef,.int .i64 0,.int .i64 0,.pointer (some ⟨c,0,none⟩),.int .i64 0,.pointer (some ⟨w1.heap.size,0,none⟩),
     .tuple #[.pointer (some ⟨c,0,none⟩),.int .i64 0],.pointer (some ⟨s,0,none⟩),.string k,.tuple #[.pointer (some ⟨c,0,none⟩),.int .i64 0],
     .pointer (some ⟨c,0,none⟩),.int .i64 0,.int .i64 0,.bool false,undef,.pointer (some ⟨c,0,none⟩),
     .func (.func 96) #[.pointer (some ⟨c,0,none⟩)] #[],.string (atE l j).1,.string (atE l j).2,undef,undef,undef],defers:=[] }) ?hassign ?hbody ?hdone ?hstop EaE.supp
 case hassign =>
  intro y j W9 K hK;unfold eaV;rw[jgE];gi_wp2;exact hK
 case hbody =>
  intro y j D W9 hj hc hkp
  obtain⟨hD,hN⟩:=hc
  have n0:=hN.cell (i:=0) (v:=.int .i64 (j:Int)) (by rfl);have nf:W9.frozen? ⟨w1.heap.size,0,none⟩=false:=hN.frozen;have HN:=Hd hN;have HD:=Hd hD;have hj2:(j:Int)≤10000:=by omega
  have hj3:(j:Int)+1=((j+1:Nat):Int):=by omega
  have HJ:=Hd hj3;clear hN hD hkp hj3;gi_wp2_with fail
  refine⟨D,(jae.oneSet W9 ⟨w1.heap.size,0,none⟩ (.int .i64 ((j:Int)+1))).mono (fun b _ e=>(HD.o b).2 e),fun b hb=>.inl hb,HD.o,?_⟩
  have:=HN.o.set_same (i:=0) (.int .i64 ((j:Int)+1))
  rw[←HJ.o];exact this
 case hdone =>
  intro D O W9 hkp hc hse hdis hDn hOn hbd h1 h2
  obtain⟨hD,hN⟩:=hc
  have n0:=hN.cell (i:=0) (v:=.int .i64 (l.length:Int)) (by rfl);have HBD:=Hd hbd;have HF:=Hd (show Ext W W9 from HX2.o.trans' hkp (fun b hb e=>by
   rcases e with e | e | e
   ·have e:b=w1.heap.size:=e;have:=HZ.o.2;omega
   ·have:=HCC.o.1;omega
   ·have:=HCC.o.2 b e;omega))
  clear hD hN hkp hse hdis hDn hOn hbd h1 h2 hS0 hB2;gi_wp2
  refine⟨by simp,.inl ⟨_,_,rfl,run_takeDeferred HBD.o,?_⟩⟩
  exact⟨_,results_tmp2 rfl _ _ _,rfl,HF.o.trans' (jae.onePut W9 w2.heap.size _) (fun b hb e=>by have:=HX2.o.size;have e:b=w2.heap.size:=e;omega)⟩
 case hstop=>exact fun _ _ _ _ _ _ _ _ h=>h.elim
theorem jpa(W:World)(s bm:Nat)(room:Int)(S:List Nd5)(l:List Pair)(hM:HasM S l)(hs:jat W s bm room S) :
  Calls Tryz.prog 41 #[.pointer (some ⟨s,0,none⟩),.string (shaB (ja2 l).text)] W fun e w'=>e=.returned (.tuple #[.int .i64 l.length,.int .i64 0])∧Ext W w':=
 jhs W s bm room S _ l (by
  have h:=jjA W s bm room S ⟨#[]⟩ l (by simp[ByteArray.size]) hM hs;unfold jjP at h;rw[jeh,jlF]at h;exact h) (by have:=(jbT hM.ok).len;omega) hs
end
end Go.Proofs.YtcpnjmcipainpaaGreatDoor
