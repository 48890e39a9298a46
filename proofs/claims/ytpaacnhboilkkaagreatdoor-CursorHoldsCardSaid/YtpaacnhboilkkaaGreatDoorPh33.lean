/- Parts of the proof, one behind the other: StoreE, StoreF, StoreFb, StoreG, StoreH, NibbleE. Each is under no condition but those that it states. -/
import Derived.Test.YtpaacnhboilkkaaGreatDoorPh31
import Derived.Test.YtpaacnhboilkkaaGreatDoorPh21
import Derived.Test.YtpaacnhboilkkaaGreatDoorPh23
import Derived.WalkMore
namespace Go.Proofs.YtpaacnhboilkkaaGreatDoor
set_option linter.unusedSimpArgs false
set_option linter.unusedVariables false
set_option maxRecDepth 100000
set_option maxHeartbeats 16000000
section
open Go Go.RowKit
attribute [local go_sem] Oper.semAt_some
def jb4(G:List Nd5)(x:ByteArray):List ByteArray:=match atL G x.data.toList with | some y=>y.2.2.refs | none=>[]
theorem jfp{G:List Nd5}{x:ByteArray}{y:Nd5}(h:atL G x.data.toList=some y):jb4 G x=y.2.2.refs:=by unfold jb4;rw[h]
theorem jkn(S:List Nd5)(M:List ByteArray):(frK S M).Nodup:=(jgV M).sublist List.filter_sublist
theorem jfM{S:List Nd5}{M:List ByteArray}{x:ByteArray}:x∈frK S M↔x∈M∧atL S x.data.toList=none:=by
 unfold frK;rw[List.mem_filter,jbm];simp
theorem jlp{x y:ByteArray}(h:x.data.toList=y.data.toList):x=y:=ByteArray.ext (Array.ext' h)
theorem jmD(S:List Nd5)(M:List ByteArray):∀ T:List ByteArray,∃ X,frK S (M++T)=frK S M++X
 | []=>⟨[],by simp⟩
 | x :: T=>by
  obtain⟨X,hX⟩:=jmD S (M++[x]) T
  have e:M++x :: T=M++[x]++T:=by simp
  rw[e,hX,jmE];split
  ·exact⟨X,rfl⟩
  ·split
   ·exact⟨x :: X,by simp⟩
   ·exact⟨X,rfl⟩
theorem jqs(w0:World)(s:Nat)(S:List Nd5)(bg:Nat):Meet w0 s S bg w0.heap.size [] (((((w0.alloc (.cells #[.pointer (some ⟨s,0,none⟩)] 24)).alloc (.cells #[.map (some bg)] 109)).alloc (.cells #[.slice none 0 0] 34)).alloc (.map #[] 0)).alloc (.cells #[.map (some (w0.heap.size+3))] 101)):=by
 obtain⟨W1,h1⟩:∃ W1,W1=w0.alloc (.cells #[.pointer (some ⟨s,0,none⟩)] 24):=⟨_,rfl⟩
 obtain⟨W2,h2⟩:∃ W2,W2=W1.alloc (.cells #[.map (some bg)] 109):=⟨_,rfl⟩
 obtain⟨W3,h3⟩:∃ W3,W3=W2.alloc (.cells #[.slice none 0 0] 34):=⟨_,rfl⟩
 obtain⟨W4,h4⟩:∃ W4,W4=W3.alloc (.map #[] 0):=⟨_,rfl⟩
 obtain⟨W5,h5⟩:∃ W5,W5=W4.alloc (.cells #[.map (some (w0.heap.size+3))] 101):=⟨_,rfl⟩
 rw[←h1, ←h2, ←h3, ←h4, ←h5];have z1:W1.heap.size=w0.heap.size+1:=by rw[h1,World.size_alloc]
 have z2:W2.heap.size=w0.heap.size+2:=by rw[h2,World.size_alloc,z1]
 have z3:W3.heap.size=w0.heap.size+3:=by rw[h3,World.size_alloc,z2]
 have z4:W4.heap.size=w0.heap.size+4:=by rw[h4,World.size_alloc,z3]
 have e1:Ext w0 W1:=by rw[h1];exact (ExtR w0).alloc _
 have e2:Ext W1 W2:=by rw[h2];exact (ExtR W1).alloc _
 have e3:Ext W2 W3:=by rw[h3];exact (ExtR W2).alloc _
 have e4:Ext W3 W4:=by rw[h4];exact (ExtR W3).alloc _
 have e5:Ext W4 W5:=by rw[h5];exact (ExtR W4).alloc _
 have b1:=by have:=Blk.new w0 (.cells #[.pointer (some ⟨s,0,none⟩)] 24);rw[←h1]at this;exact this
 have b2:=by have:=Blk.new W1 (.cells #[.map (some bg)] 109);rw[←h2,z1]at this;exact this
 have b3:=by have:=Blk.new W2 (.cells #[.slice none 0 0] 34);rw[←h3,z2]at this;exact this
 have b4:=by have:=Blk.new W3 (.map #[] 0);rw[←h4,z3]at this;exact this
 have b5:=by have:=Blk.new W4 (.cells #[.map (some (w0.heap.size+3))] 101);rw[←h5,z4]at this;exact this
 exact⟨(((e1.trans e2).trans e3).trans e4).trans e5,Nat.le_refl _,b1.keeps (((e2.trans e3).trans e4).trans e5) (fun g=>g),b2.keeps ((e3.trans e4).trans e5) (fun g=>g),b5,
  ⟨[],0,b4.keeps e5 (fun g=>g),fun y=>rfl⟩,.slice none 0 0,0,b3.keeps (e4.trans e5) (fun g=>g),World.ownsRow_nil _ _ _ _,Nat.le_refl _,fun z hz=>by cases hz⟩
theorem jhP{w:World}{v:Value}{n:Nat}{xs:List ByteArray}(h:w.ownsRow 0 9 1 v n (xs.map Value.string)):RdS w v xs:=by
 have hl:xs.length=n:=by have:=h.1;simpa using this
 obtain⟨_,⟨rfl,h2⟩ |⟨g,cap,cur,rfl,h3,h4,h5,h6,h7⟩⟩:=id h
 ·exact .inl ⟨none,0,rfl,List.eq_nil_of_length_eq_zero (by omega)⟩
 ·subst hl
  refine .inr ⟨g,0,cap,rfl,(Array.getElem?_eq_some_iff.1 h4).1,h5,fun j x hx=>?_⟩;have hj:=(List.getElem?_eq_some_iff.1 hx).1
  have:=h.cellAt j (by omega)
  rw[Nat.zero_add,this,List.getElem?_map,hx];rfl
theorem joi(L:List ByteArray)(t:ByteArray):readG (L++[t])=addG (readG L) t:=by unfold readG;rw[List.foldl_append];rfl
theorem jef(L:List ByteArray):(∀ p∈readG L,∃ t∈L,p=(ky t,itOf t))∧(∀ t∈L,∃ p∈readG L,p.1=ky t)∧(readG L).length≤L.length:=by
 suffices h:∀ (R acc:List ByteArray),((∀ p∈readG acc,∃ t∈acc,p=(ky t,itOf t))∧(∀ t∈acc,∃ p∈readG acc,p.1=ky t)∧(readG acc).length≤acc.length)→(∀ p∈readG (acc++R),∃ t∈acc++R,p=(ky t,itOf t))∧(∀ t∈acc++R,∃ p∈readG (acc++R),p.1=ky t)∧(readG (acc++R)).length≤(acc++R).length from by
  have:=h L [] ⟨fun p hp=>(by cases hp),fun t ht=>(by cases ht),Nat.le_refl _⟩
  simpa using this
 intro R;induction R with
 | nil=>intro acc h;simpa using h
 | cons t R ih =>
  intro acc ⟨h1,h2,h3⟩
  have:=ih (acc++[t]) (by
   rw[joi];unfold addG;split
   ·rename_i hb
    obtain⟨p,hp,e⟩:=List.any_eq_true.1 hb
    refine⟨fun p hp=>by obtain⟨x,hx,e⟩:=h1 p hp;exact⟨x,List.mem_append.2 (.inl hx),e⟩,fun x hx=>?_,by rw[List.length_append];exact Nat.le_trans h3 (Nat.le_add_right _ _)⟩
    rcases List.mem_append.1 hx with hx | hx
    ·exact h2 x hx
    ·simp only[List.mem_singleton]at hx;subst hx;exact⟨p,hp,(of_decide_eq_true e).symm⟩
   ·refine⟨fun p hp=>?_,fun x hx=>?_,by rw[List.length_append,List.length_append];exact Nat.add_le_add_right h3 1⟩
    ·rcases List.mem_append.1 hp with hp | hp
     ·obtain⟨x,hx,e⟩:=h1 p hp;exact⟨x,List.mem_append.2 (.inl hx),e⟩
     ·simp only[List.mem_singleton]at hp;subst hp;exact⟨t,by simp,rfl⟩
    ·rcases List.mem_append.1 hx with hx | hx
     ·obtain⟨p,hp,e⟩:=h2 x hx;exact⟨p,List.mem_append.2 (.inl hp),e⟩
     ·simp only[List.mem_singleton]at hx;subst hx;exact⟨(ky x,itOf x),by simp,rfl⟩)
  simpa using this
structure jv1(L:List ByteArray):Prop where
 node:∀ t∈L,∃ n,jbW t n
 shut:∀ t∈L,∀ h∈jaV (nodeOf t),∃ t'∈L,h=shaB t'
 few:L.length≤1000
theorem jkr{L:List ByteArray}{G:List Nd5}(h:G.map kvI=readG L){t:ByteArray}(ht:t∈L):(atL G (shaB t).data.toList).isSome=true:=by
 obtain⟨p,hp,e⟩:=(jef L).2.1 t ht
 rw[←h]at hp
 obtain⟨x,hx,rfl⟩:=List.mem_map.1 hp
 cases ha:atL G (shaB t).data.toList with
 | some y=>rfl
 | none=>exact absurd e.symm (jg1.1 ha x hx)
theorem jdd{L:List ByteArray}{G:List Nd5}(h:G.map kvI=readG L){x:Nd5}(hx:x∈G):∃ t∈L,x.1=ky t∧x.2.2=itOf t:=by
 obtain⟨t,ht,e⟩:=(jef L).1 (kvI x) (by rw[←h];exact List.mem_map.2 ⟨x,hx,rfl⟩)
 exact⟨t,ht,congrArg Prod.fst e,congrArg Prod.snd e⟩
def putF(f:Nat)(v:Int)(it:It):It:=if f=2 then { it with used:=v }else { it with held:=v }
def setB(f c:Nat)(v:Int)(x:Nd5):Nd5:=if x.2.1=c then (x.1,x.2.1,putF f v x.2.2)else x
theorem jtb(f c:Nat)(v:Int)(L:List Nd5):(L.map (setB f c v)).map kvN=L.map kvN:=by
 rw[List.map_map];refine List.map_congr_left (fun x _=>?_);simp only[Function.comp,setB];split <;> rfl
theorem jnh(f c:Nat)(v:Int)(L:List Nd5):(L.map (setB f c v)).map (·.2.1)=L.map (·.2.1):=by
 rw[List.map_map];refine List.map_congr_left (fun x _=>?_);simp only[Function.comp,setB];split <;> rfl
theorem jcQ.setF{W:World}{bm:Nat}{L:List Nd5}(h:jcQ W bm L){c:Nat}{it:It}(hc:jeD W c it){f:Nat}(hf:f=2∨f=3)(v:Int):jcQ (W.setCell ⟨c,f,none⟩ (.int .i64 v)) bm (L.map (setB f c v)):=by
 obtain⟨rv,hcb,hcr⟩:=hc.cells
 have hK:jac (fun z=>z=c) W (W.setCell ⟨c,f,none⟩ (.int .i64 v)):=jac.oneSet W ⟨c,f,none⟩ _;have hN:jgW W (fun z=>z=c):=fun z cur fz e hz=>by
  have e:z=c:=e;subst e
  have:=hcb.uniq hz;injection this with _ h2;exact absurd h2 (by decide)
 obtain⟨es,ck,h1,h2⟩:=h.mp
 have hne:bm≠c:=fun e=>by subst e;have:=h1.uniq hcb;cases this
 refine⟨⟨es,ck,h1.keeps hK hne,by rw[jtb];exact h2⟩,by rw[jnh];exact h.blks,fun x hx=>?_⟩
 obtain⟨y,hy,rfl⟩:=List.mem_map.1 hx
 have hi:=h.items y hy;unfold setB;split
 ·rename_i e
  obtain⟨rw',hb,hr⟩:=hi.cells
  rw[e]at hb
  refine⟨rw',?_,?_⟩
  ·show Blk _ y.2.1 _
   rw[e];rcases hf with rfl | rfl
   ·exact hb.set_same (i:=2) _
   ·exact hb.set_same (i:=3) _
  ·have:=jcY hr hK hN
   rcases hf with rfl | rfl <;> exact this
 ·rename_i e
  exact hi.keeps hK e hN
def jfV(k:Key)(L:List Nd5):List Nd5:=L.map fun x=>if x.1=k then (x.1,x.2.1,putF 2 (x.2.2.used+1) x.2.2)else x
def jeI(T:List ByteArray)(L:List Nd5):List Nd5:=T.foldl (fun L r=>jfV r.data.toList L) L
theorem jnL(T:List ByteArray)(r:ByteArray)(L:List Nd5):jeI (T++[r]) L=jfV r.data.toList (jeI T L):=by unfold jeI;rw[List.foldl_append];rfl
theorem jnK(k:Key)(L:List Nd5):(jfV k L).map (·.1)=L.map (·.1):=by
 unfold jfV;rw[List.map_map];refine List.map_congr_left (fun x _=>?_);simp only[Function.comp];split <;> rfl
theorem jnJ(k:Key)(L:List Nd5):(jfV k L).map (·.2.1)=L.map (·.2.1):=by
 unfold jfV;rw[List.map_map];refine List.map_congr_left (fun x _=>?_);simp only[Function.comp];split <;> rfl
theorem jgt:∀ (T:List ByteArray) (L:List Nd5),(jeI T L).map (·.1)=L.map (·.1)
 | [],_=>rfl
 | r :: T,L=>by
  show (jeI T (jfV r.data.toList L)).map (·.1)=_;rw[jgt T,jnK]
theorem jgs:∀ (T:List ByteArray) (L:List Nd5),(jeI T L).map (·.2.1)=L.map (·.2.1)
 | [],_=>rfl
 | r :: T,L=>by
  show (jeI T (jfV r.data.toList L)).map (·.2.1)=_;rw[jgs T,jnJ]
theorem jme{A B:List Nd5}(h:A.map (·.1)=B.map (·.1))(k:Key):(atL A k).isSome=(atL B k).isSome:=by
 have e:∀ L:List Nd5,(atL L k).isSome=(L.map (·.1)).any (fun y=>decide (k=y)):=fun L=>by
  unfold atL;rw[List.isSome_find?,List.any_map];rfl
 rw[e,e,h]
theorem jig:∀ (T:List ByteArray) (L:List Nd5) (lo hi:Int),(∀ x∈L,lo≤x.2.2.used∧x.2.2.used≤hi)→∀ x∈jeI T L,lo≤x.2.2.used∧x.2.2.used≤hi+T.length
 | [],L,lo,hi,h=>fun x hx=>by have:=h x hx;simp;exact this
 | r :: T,L,lo,hi,h=>fun x hx=>by
  have:=jig T (jfV r.data.toList L) lo (hi+1) (fun y hy=>by
   obtain⟨z,hz,rfl⟩:=List.mem_map.1 hy
   have:=h z hz
   split
   ·simp only[putF,if_true];omega
   ·omega) x hx
  rw[List.length_cons];omega
def kvR(x:Nd5):Nat × ByteArray × List ByteArray:=(x.2.1,x.2.2.text,x.2.2.refs)
def Like(W:World)(bg:Nat)(G:List Nd5):Prop:=∃ G',jcQ W bg G'∧∀ k,(atL G' k).map kvR=(atL G k).map kvR
theorem jrH(f c:Nat)(v:Int)(L:List Nd5)(k:Key):atL (L.map (setB f c v)) k=(atL L k).map (setB f c v):=by
 unfold atL;rw[List.find?_map]
 congr 1
 refine congrFun (congrArg _ (funext fun x=>?_)) L;simp only[Function.comp,setB];split <;> rfl
theorem jsA(f c:Nat)(v:Int)(x:Nd5):kvR (setB f c v x)=kvR x:=by
 unfold setB kvR putF
 by_cases e:x.2.1=c
 ·rw[if_pos e]
  by_cases e2:f=2
  ·rw[if_pos e2]
  ·rw[if_neg e2]
 ·rw[if_neg e]
theorem Like.setF{W:World}{bg:Nat}{G:List Nd5}(h:Like W bg G){c:Nat}{it:It}(hc:jeD W c it){f:Nat}(hf:f=2∨f=3)(v:Int):Like (W.setCell ⟨c,f,none⟩ (.int .i64 v)) bg G:=by
 obtain⟨G',h1,h2⟩:=h
 refine⟨_,h1.setF hc hf v,fun k=>?_⟩
 rw[jrH,Option.map_map, ←h2 k]
 congr 1
 funext x
 exact jsA f c v x
theorem jrc{W:World}{bm:Nat}{L:List Nd5}(h:jcQ W bm L){k:Key}{y:Nd5}(hy:atL L k=some y):L.map (setB 2 y.2.1 (y.2.2.used+1))=jfV k L:=by
 obtain⟨es,ck,_,h2⟩:=h.mp
 have hk:=h2.keys;rw[List.map_map]at hk;have hk:(L.map (·.1)).Nodup:=hk;unfold jfV;refine List.map_congr_left (fun x hx=>?_);unfold setB
 by_cases e:x.2.1=y.2.1
 ·have:x=y:=ja4 h.blks hx (jaD hy).1 e
  subst this;rw[if_pos rfl,if_pos (jaD hy).2]
 ·rw[if_neg e,if_neg]
  intro e2
  have:x=y:=ja4 hk hx (jaD hy).1 (e2.trans (jaD hy).2.symm)
  subst this;exact e rfl
structure Ad2(w5:World)(s bm bg:Nat)(room:Int)(S1 G:List Nd5)(F:List ByteArray)(v:Value)(T:List ByteArray)(W:World):Prop where
 kp:jac (fun z=>z∈S1.map (·.2.1)) w5 W
 st:jas W s bm room (jeI T S1)
 gv:Like W bg G
 row:W.ownsRow 0 9 1 v F.length (F.map Value.string)
theorem Ad2.bump{w5:World}{s bm bg:Nat}{room:Int}{S1 G:List Nd5}{F:List ByteArray}{v:Value}{T:List ByteArray}{W:World}(h:Ad2 w5 s bm bg room S1 G F v T W)
  (hu:∀ x∈S1,0≤x.2.2.used∧x.2.2.used≤1000000000) (hT:T.length≤1000000) (r:ByteArray) (hr:(atL S1 r.data.toList).isSome=true) :
  ∃ (zb:Nat) (u:Int),(Instr.lookup 109 (.map (some bm)) (.string r) false).run Tryz.prog W=.ok (.pointer (some ⟨zb,0,none⟩)) W∧W.cell? ⟨zb,2,none⟩=some (.int .i64 u)∧W.frozen? ⟨zb,2,none⟩=false∧0≤u∧u≤2000000000 ∧
   Ad2 w5 s bm bg room S1 G F v (T++[r]) (W.setCell ⟨zb,2,none⟩ (.int .i64 (u+1)))∧∀ rv n xs,W.ownsRow 0 9 1 rv n xs→(W.setCell ⟨zb,2,none⟩ (.int .i64 (u+1))).ownsRow 0 9 1 rv n xs:=by
 have hs:(atL (jeI T S1) r.data.toList).isSome=true:=by rw[jme (jgt T S1)];exact hr
 obtain⟨y,hy⟩:=Option.isSome_iff_exists.1 hs
 have hym:=(jaD hy).1;have hi:=h.st.mp.items y hym
 obtain⟨rv,hb,hrw⟩:=hi.cells
 have hlk:=h.st.mp.look r false;rw[hy]at hlk;simp only[Bool.false_eq_true,if_false]at hlk;have hK:jac (fun z=>z=y.2.1) W (W.setCell ⟨y.2.1,2,none⟩ (.int .i64 (y.2.2.used+1))):=jac.oneSet W ⟨y.2.1,2,none⟩ _;have hN:jgW W (fun z=>z=y.2.1):=fun z cur fz e hz=>by
  have e:z=y.2.1:=e;subst e
  have:=hb.uniq hz;injection this with _ h2;exact absurd h2 (by decide)
 have hyb:y.2.1∈S1.map (·.2.1):=by rw[←jgs T S1];exact List.mem_map.2 ⟨y,hym,rfl⟩
 have hub:=jig T S1 0 1000000000 hu y hym
 refine⟨y.2.1,y.2.2.used,hlk,hb.cell (i:=2) (by rfl),hb.frozen,hub.1,by omega,⟨h.kp.trans (hK.mono (fun z _ e=>by have e:z=_:=e;rw[e];exact hyb)),⟨h.st.st.keeps hK (fun e=>?_),?_⟩,h.gv.setF hi (.inl rfl) _,jcY h.row hK hN⟩,fun rv n xs hx=>jcY hx hK hN⟩
 ·have e:s=y.2.1:=e
  rw[e]at h
  have:=hb.uniq h.st.st;injection this with _ h2;exact absurd h2 (by decide)
 ·rw[jnL, ←jrc h.st.mp hy]
  exact h.st.mp.setF hi (.inl rfl) _
def jj3(k:Key)(L:List Nd5):List Nd5:=L.map fun x=>if x.1=k then (x.1,x.2.1,putF 3 (x.2.2.held+1) x.2.2)else x
theorem joq{W:World}{bm:Nat}{L:List Nd5}(h:jcQ W bm L){k:Key}{y:Nd5}(hy:atL L k=some y):L.map (setB 3 y.2.1 (y.2.2.held+1))=jj3 k L:=by
 obtain⟨es,ck,_,h2⟩:=h.mp
 have hk:=h2.keys;rw[List.map_map]at hk;have hk:(L.map (·.1)).Nodup:=hk;unfold jj3;refine List.map_congr_left (fun x hx=>?_);unfold setB
 by_cases e:x.2.1=y.2.1
 ·have:x=y:=ja4 h.blks hx (jaD hy).1 e
  subst this;rw[if_pos rfl,if_pos (jaD hy).2]
 ·rw[if_neg e,if_neg]
  intro e2
  have:x=y:=ja4 hk hx (jaD hy).1 (e2.trans (jaD hy).2.symm)
  subst this;exact e rfl
theorem jif:∀ (T:List ByteArray) (L:List Nd5) (lo hi:Int),(∀ x∈L,lo≤x.2.2.held∧x.2.2.held≤hi)→∀ x∈jeI T L,lo≤x.2.2.held∧x.2.2.held≤hi
 | [],L,lo,hi,h=>fun x hx=>h x hx
 | r :: T,L,lo,hi,h=>fun x hx=>by
  refine jif T (jfV r.data.toList L) lo hi (fun y hy=>?_) x hx
  obtain⟨z,hz,rfl⟩:=List.mem_map.1 hy
  have:=h z hz
  split
  ·simp only[putF,if_true];exact this
  ·exact this
theorem Ad2.hold{w5:World}{s bm bg:Nat}{room:Int}{S1 G:List Nd5}{F:List ByteArray}{v:Value}{T:List ByteArray}{W:World}(h:Ad2 w5 s bm bg room S1 G F v T W)
  (hu:∀ x∈S1,0≤x.2.2.held∧x.2.2.held≤1000000000) (r:ByteArray) (hr:(atL S1 r.data.toList).isSome=true) :
  ∃ (zb:Nat) (u:Int),(Instr.lookup 109 (.map (some bm)) (.string r) false).run Tryz.prog W=.ok (.pointer (some ⟨zb,0,none⟩)) W∧W.cell? ⟨zb,3,none⟩=some (.int .i64 u)∧W.frozen? ⟨zb,3,none⟩=false∧0≤u∧u≤1000000000 ∧
   jas (W.setCell ⟨zb,3,none⟩ (.int .i64 (u+1))) s bm room (jj3 r.data.toList (jeI T S1))∧jac (fun z=>z∈S1.map (·.2.1)) w5 (W.setCell ⟨zb,3,none⟩ (.int .i64 (u+1))):=by
 have hs:(atL (jeI T S1) r.data.toList).isSome=true:=by rw[jme (jgt T S1)];exact hr
 obtain⟨y,hy⟩:=Option.isSome_iff_exists.1 hs
 have hym:=(jaD hy).1;have hi:=h.st.mp.items y hym
 obtain⟨rv,hb,hrw⟩:=hi.cells
 have hlk:=h.st.mp.look r false;rw[hy]at hlk;simp only[Bool.false_eq_true,if_false]at hlk;have hK:jac (fun z=>z=y.2.1) W (W.setCell ⟨y.2.1,3,none⟩ (.int .i64 (y.2.2.held+1))):=jac.oneSet W ⟨y.2.1,3,none⟩ _;have hyb:y.2.1∈S1.map (·.2.1):=by rw[←jgs T S1];exact List.mem_map.2 ⟨y,hym,rfl⟩
 have hub:=jif T S1 0 1000000000 hu y hym
 refine⟨y.2.1,y.2.2.held,hlk,hb.cell (i:=3) (by rfl),hb.frozen,hub.1,hub.2,⟨h.st.st.keeps hK (fun e=>?_),?_⟩,h.kp.trans (hK.mono (fun z _ e=>by have e:z=_:=e;rw[e];exact hyb))⟩
 ·have e:s=y.2.1:=e
  rw[e]at h
  have:=hb.uniq h.st.st;injection this with _ h2;exact absurd h2 (by decide)
 ·rw[←joq h.st.mp hy]
  exact h.st.mp.setF hi (.inr rfl) _
def jc2(G:List Nd5)(F:List ByteArray):List Nd5:=F.filterMap fun x=>atL G x.data.toList
theorem joh{G:List Nd5}{F:List ByteArray}{i:Nat}{x:ByteArray}{y:Nd5}(hx:F[i]?=some x)(hy:atL G x.data.toList=some y):jc2 G (F.take (i+1))=jc2 G (F.take i)++[y]:=by
 unfold jc2;rw[List.take_add_one,hx,List.filterMap_append];simp[hy]
theorem jb1{G:List Nd5}{F:List ByteArray}{y:Nd5}(h:y∈jc2 G F):y∈G∧∃ x∈F,y.1=x.data.toList:=by
 obtain⟨x,hx,e⟩:=List.mem_filterMap.1 h
 exact⟨(jaD e).1,x,hx,(jaD e).2⟩
theorem jub{A B:List Nd5}{k:Key}(h:∀ x∈B,k≠x.1):atL (A++B) k=atL A k:=by
 unfold atL;rw[List.find?_append]
 have:B.find? (fun x=>decide (k=x.1))=none:=by rw[List.find?_eq_none];simpa using h
 rw[this];simp
theorem jcQ.notRow{W:World}{bm:Nat}{L:List Nd5}(h:jcQ W bm L):jgW W (fun z=>z=bm):=fun z cur fz e hz=>by
 obtain⟨es,ck,h1,_⟩:=h.mp
 have e:z=bm:=e;subst e
 have:=h1.uniq hz;cases this
structure Ad1(w4:World)(s bm bg:Nat)(room:Int)(S G:List Nd5)(F:List ByteArray)(v:Value)(i:Nat)(W:World):Prop where
 kp:jac (fun z=>z=bm) w4 W
 st:jas W s bm room (S++jc2 G (F.take i))
 gv:jcQ W bg G
 row:W.ownsRow 0 9 1 v F.length (F.map Value.string)
theorem Ad1.ext{w4:World}{s bm bg:Nat}{room:Int}{S G:List Nd5}{F:List ByteArray}{v:Value}{i:Nat}{W W':World}(h:Ad1 w4 s bm bg room S G F v i W)(e:Ext W W'):Ad1 w4 s bm bg room S G F v i W':=
 ⟨h.kp.trans (e.mono (fun _ _ g=>g.elim)),h.st.ext e,h.gv.ext e,jbd h.row e⟩
theorem Ad1.put{w4:World}{s bm bg:Nat}{room:Int}{S G:List Nd5}{F:List ByteArray}{v:Value}{i:Nat}{W:World}(h:Ad1 w4 s bm bg room S G F v i W)
  (hSG:∀ x∈S,∀ y∈G,x.2.1≠y.2.1) (hbg:bg≠bm) (hv:∀ z,v.ownBlock=some z→z≠bm) (hnd:F.Nodup) (hFS:∀ x∈F,atL S x.data.toList=none)
  {x:ByteArray} {y:Nd5} (hx:F[i]?=some x) (hy:atL G x.data.toList=some y) :
  ∃ o,(Instr.mapUpdate 109 (.map (some bm)) (.string x) (.pointer (some ⟨y.2.1,0,none⟩))).run Tryz.prog W=.ok () (W.putObj bm o)∧Ad1 w4 s bm bg room S G F v (i+1) (W.putObj bm o):=by
 have hk:∀ z∈jc2 G (F.take i),x.data.toList≠z.1:=fun z hz e=>by
  obtain⟨_,x',hx',e'⟩:=jb1 hz
  have:=jlp (e.trans e')
  subst this;exact jof hnd hx hx'
 have hn:atL (S++jc2 G (F.take i)) x.data.toList=none:=by rw[jub hk];exact hFS x (List.mem_of_getElem? hx)
 have hym:=(jaD hy).1;have hy1:=(jaD hy).2;have hblk:∀ z∈S++jc2 G (F.take i),z.2.1≠y.2.1:=fun z hz e=>by
  rcases List.mem_append.1 hz with hz | hz
  ·exact hSG z hz y hym e
  ·have:=ja4 h.gv.blks (jb1 hz).1 hym e
   subst this;exact hk z hz hy1.symm
 obtain⟨o,hmu,hA⟩:=h.st.mp.put x hn (h.gv.items y hym) hblk
 have hK:jac (fun z=>z=bm) W (W.putObj bm o):=jac.onePut W bm o;have hN:=h.st.mp.notRow;have hie:∀ {c:Nat} {it:It},jeD W c it→¬ c=bm:=fun hi e=>by
  obtain⟨_,hc,_⟩:=hi.cells
  obtain⟨es,ck,h1,_⟩:=h.st.mp.mp
  subst e
  have:=h1.uniq hc;cases this
 refine⟨o,hmu,h.kp.trans hK,⟨h.st.st.keeps hK (fun e=>?_),?_⟩,h.gv.keeps hK hbg (fun z hz=>hie (h.gv.items z hz)) hN,jaG h.row hK (fun z hz e=>hv z hz e)⟩
 ·have e:s=bm:=e
  obtain⟨es,ck,h1,_⟩:=h.st.mp.mp
  subst e
  have:=h1.uniq h.st.st;cases this
 ·rw[joh hx hy, ←List.append_assoc]
  have e:(x.data.toList,y.2.1,y.2.2)=y:=by rw[←hy1]
  rw[e]at hA;exact hA
theorem jv9(A B:List Nd5)(k:Key):(atL (A++B) k).isSome=((atL A k).isSome ||(atL B k).isSome):=by
 unfold atL;rw[List.find?_append,Option.isSome_or]
def AdR2(w5:World)(s bm bg:Nat)(room:Int)(S1 G:List Nd5)(F:List ByteArray)(v iv:Value)(W:World):Prop:=∃ i:Nat,i≤F.length∧iv=.int .i64 i∧Ad2 w5 s bm bg room S1 G F v ((F.take i).flatMap (jb4 G)) W
def AdR3(w5:World)(s bm bg:Nat)(room:Int)(S1 G:List Nd5)(F:List ByteArray)(v:Value)(T R:List ByteArray)(rv jv:Value)(W:World):Prop:=∃ j:Nat,j≤R.length∧jv=.int .i64 j∧Ad2 w5 s bm bg room S1 G F v (T++R.take j) W∧W.ownsRow 0 9 1 rv R.length (R.map Value.string)
def AdR1(w4:World)(s bm bg:Nat)(room:Int)(S G:List Nd5)(F:List ByteArray)(v iv:Value)(W:World):Prop:=∃ i:Nat,i≤F.length∧iv=.int .i64 i∧Ad1 w4 s bm bg room S G F v i W
end
section
open Go Go.RowKit
end
end Go.Proofs.YtpaacnhboilkkaaGreatDoor
