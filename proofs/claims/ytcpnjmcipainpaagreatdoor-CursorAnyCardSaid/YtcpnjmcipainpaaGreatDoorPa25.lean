/- Parts of the proof, one behind the other: StoreE, StoreF, HasM, CurXa. Each is under no condition but those that it states. -/
import Derived.Test.YtcpnjmcipainpaaGreatDoorPa24
import Derived.Test.YtcpnjmcipainpaaGreatDoorPa18
import Derived.Test.YtcpnjmcipainpaaGreatDoorPa19
import Derived.WalkMore
namespace Go.Proofs.YtcpnjmcipainpaaGreatDoor
set_option linter.unusedSimpArgs false
set_option linter.unusedVariables false
set_option maxRecDepth 100000
set_option maxHeartbeats 16000000
section
open Go Go.RowKit
attribute [local go_sem] Oper.semAt_some
def jbE(G:List Nd5)(x:ByteArray):List ByteArray:=match atL G x.data.toList with | some y=>y.2.2.refs | none=>[]
theorem jdJ{G:List Nd5}{x:ByteArray}{y:Nd5}(h:atL G x.data.toList=some y):jbE G x=y.2.2.refs:=by unfold jbE;rw[h]
theorem jhF(S:List Nd5)(M:List ByteArray):(frK S M).Nodup:=(jeH M).sublist List.filter_sublist
theorem jdY{S:List Nd5}{M:List ByteArray}{x:ByteArray}:x∈frK S M↔x∈M∧atL S x.data.toList=none:=by
 unfold frK;rw[List.mem_filter,jbi];simp
theorem jin{x y:ByteArray}(h:x.data.toList=y.data.toList):x=y:=ByteArray.ext (Array.ext' h)
theorem ji9(S:List Nd5)(M:List ByteArray):∀ T:List ByteArray,∃ X,frK S (M++T)=frK S M++X
 | []=>⟨[],by simp⟩
 | x :: T=>by
  obtain⟨X,hX⟩:=ji9 S (M++[x]) T
  have e:M++x :: T=M++[x]++T:=by simp
  rw[e,hX,jja];split
  ·exact⟨X,rfl⟩
  ·split
   ·exact⟨x :: X,by simp⟩
   ·exact⟨X,rfl⟩
theorem jlZ(w0:World)(s:Nat)(S:List Nd5)(bg:Nat):Meet w0 s S bg w0.heap.size [] (((((w0.alloc (.cells #[.pointer (some ⟨s,0,none⟩)] 24)).alloc (.cells #[.map (some bg)] 115)).alloc (.cells #[.slice none 0 0] 34)).alloc (.map #[] 0)).alloc (.cells #[.map (some (w0.heap.size+3))] 107)):=by
 obtain⟨W1,h1⟩:∃ W1,W1=w0.alloc (.cells #[.pointer (some ⟨s,0,none⟩)] 24):=⟨_,rfl⟩
 obtain⟨W2,h2⟩:∃ W2,W2=W1.alloc (.cells #[.map (some bg)] 115):=⟨_,rfl⟩
 obtain⟨W3,h3⟩:∃ W3,W3=W2.alloc (.cells #[.slice none 0 0] 34):=⟨_,rfl⟩
 obtain⟨W4,h4⟩:∃ W4,W4=W3.alloc (.map #[] 0):=⟨_,rfl⟩
 obtain⟨W5,h5⟩:∃ W5,W5=W4.alloc (.cells #[.map (some (w0.heap.size+3))] 107):=⟨_,rfl⟩
 rw[←h1, ←h2, ←h3, ←h4, ←h5];have z1:W1.heap.size=w0.heap.size+1:=by rw[h1,World.size_alloc]
 have z2:W2.heap.size=w0.heap.size+2:=by rw[h2,World.size_alloc,z1]
 have z3:W3.heap.size=w0.heap.size+3:=by rw[h3,World.size_alloc,z2]
 have z4:W4.heap.size=w0.heap.size+4:=by rw[h4,World.size_alloc,z3]
 have e1:Ext w0 W1:=by rw[h1];exact (ExtR w0).alloc _
 have e2:Ext W1 W2:=by rw[h2];exact (ExtR W1).alloc _
 have e3:Ext W2 W3:=by rw[h3];exact (ExtR W2).alloc _
 have e4:Ext W3 W4:=by rw[h4];exact (ExtR W3).alloc _
 have e5:Ext W4 W5:=by rw[h5];exact (ExtR W4).alloc _
 have b1:=by have:=Blk.new w0 (.cells #[.pointer (some ⟨s,0,none⟩)] 24);rw[←h1]at this;exact this
 have b2:=by have:=Blk.new W1 (.cells #[.map (some bg)] 115);rw[←h2,z1]at this;exact this
 have b3:=by have:=Blk.new W2 (.cells #[.slice none 0 0] 34);rw[←h3,z2]at this;exact this
 have b4:=by have:=Blk.new W3 (.map #[] 0);rw[←h4,z3]at this;exact this
 have b5:=by have:=Blk.new W4 (.cells #[.map (some (w0.heap.size+3))] 107);rw[←h5,z4]at this;exact this
 exact⟨(((e1.trans e2).trans e3).trans e4).trans e5,Nat.le_refl _,b1.keeps (((e2.trans e3).trans e4).trans e5) (fun g=>g),b2.keeps ((e3.trans e4).trans e5) (fun g=>g),b5,
  ⟨[],0,b4.keeps e5 (fun g=>g),fun y=>rfl⟩,.slice none 0 0,0,b3.keeps (e4.trans e5) (fun g=>g),World.ownsRow_nil _ _ _ _,Nat.le_refl _,fun z hz=>by cases hz⟩
theorem jgk{w:World}{v:Value}{n:Nat}{xs:List ByteArray}(h:w.ownsRow 0 9 1 v n (xs.map Value.string)):RdS w v xs:=by
 have hl:xs.length=n:=by have:=h.1;simpa using this
 obtain⟨_,⟨rfl,h2⟩ |⟨g,cap,cur,rfl,h3,h4,h5,h6,h7⟩⟩:=id h
 ·exact .inl ⟨none,0,rfl,List.eq_nil_of_length_eq_zero (by omega)⟩
 ·subst hl
  refine .inr ⟨g,0,cap,rfl,(Array.getElem?_eq_some_iff.1 h4).1,h5,fun j x hx=>?_⟩;have hj:=(List.getElem?_eq_some_iff.1 hx).1
  have:=h.cellAt j (by omega)
  rw[Nat.zero_add,this,List.getElem?_map,hx];rfl
theorem jku(L:List ByteArray)(t:ByteArray):readG (L++[t])=addG (readG L) t:=by unfold readG;rw[List.foldl_append];rfl
theorem jdx(L:List ByteArray):(∀ p∈readG L,∃ t∈L,p=(ky t,itOf t))∧(∀ t∈L,∃ p∈readG L,p.1=ky t)∧(readG L).length≤L.length:=by
 suffices h:∀ (R acc:List ByteArray),((∀ p∈readG acc,∃ t∈acc,p=(ky t,itOf t))∧(∀ t∈acc,∃ p∈readG acc,p.1=ky t)∧(readG acc).length≤acc.length)→(∀ p∈readG (acc++R),∃ t∈acc++R,p=(ky t,itOf t))∧(∀ t∈acc++R,∃ p∈readG (acc++R),p.1=ky t)∧(readG (acc++R)).length≤(acc++R).length from by
  have:=h L [] ⟨fun p hp=>(by cases hp),fun t ht=>(by cases ht),Nat.le_refl _⟩
  simpa using this
 intro R;induction R with
 | nil=>intro acc h;simpa using h
 | cons t R ih =>
  intro acc ⟨h1,h2,h3⟩
  have:=ih (acc++[t]) (by
   rw[jku];unfold addG;split
   ·rename_i hb
    obtain⟨p,hp,e⟩:=List.any_eq_true.1 hb
    refine⟨fun p hp=>by obtain⟨x,hx,e⟩:=h1 p hp;exact⟨x,List.mem_append.2 (.inl hx),e⟩,fun x hx=>?_,by rw[List.length_append];exact Nat.le_trans h3 (Nat.le_add_right _ _)⟩
    rcases List.mem_append.1 hx with hx | hx
    ·exact h2 x hx
    ·simp only[List.mem_singleton]at hx;subst hx;exact⟨p,hp,(of_decide_eq_true e).symm⟩
   ·refine⟨fun p hp=>?_,fun x hx=>?_,by rw[List.length_append,List.length_append];exact Nat.add_le_add_right h3 1⟩
    ·rcases List.mem_append.1 hp with hp | hp
     ·obtain⟨x,hx,e⟩:=h1 p hp;exact⟨x,List.mem_append.2 (.inl hx),e⟩
     ·simp only[List.mem_singleton]at hp;subst hp;exact⟨t,by simp,rfl⟩
    ·rcases List.mem_append.1 hx with hx | hx
     ·obtain⟨p,hp,e⟩:=h2 x hx;exact⟨p,List.mem_append.2 (.inl hp),e⟩
     ·simp only[List.mem_singleton]at hx;subst hx;exact⟨(ky x,itOf x),by simp,rfl⟩)
  simpa using this
structure jqd(L:List ByteArray):Prop where
 node:∀ t∈L,∃ n,jbq t n
 shut:∀ t∈L,∀ h∈jaI (nodeOf t),∃ t'∈L,h=shaB t'
 few:L.length≤1000
theorem jhH{L:List ByteArray}{G:List Nd5}(h:G.map kvI=readG L){t:ByteArray}(ht:t∈L):(atL G (shaB t).data.toList).isSome=true:=by
 obtain⟨p,hp,e⟩:=(jdx L).2.1 t ht
 rw[←h]at hp
 obtain⟨x,hx,rfl⟩:=List.mem_map.1 hp
 cases ha:atL G (shaB t).data.toList with
 | some y=>rfl
 | none=>exact absurd e.symm (jgx.1 ha x hx)
theorem jb0{L:List ByteArray}{G:List Nd5}(h:G.map kvI=readG L){x:Nd5}(hx:x∈G):∃ t∈L,x.1=ky t∧x.2.2=itOf t:=by
 obtain⟨t,ht,e⟩:=(jdx L).1 (kvI x) (by rw[←h];exact List.mem_map.2 ⟨x,hx,rfl⟩)
 exact⟨t,ht,congrArg Prod.fst e,congrArg Prod.snd e⟩
def putF(f:Nat)(v:Int)(it:It):It:=if f=2 then { it with used:=v }else { it with held:=v }
def setB(f c:Nat)(v:Int)(x:Nd5):Nd5:=if x.2.1=c then (x.1,x.2.1,putF f v x.2.2)else x
theorem joe(f c:Nat)(v:Int)(L:List Nd5):(L.map (setB f c v)).map kvN=L.map kvN:=by
 rw[List.map_map];refine List.map_congr_left (fun x _=>?_);simp only[Function.comp,setB];split <;> rfl
theorem jod(f c:Nat)(v:Int)(L:List Nd5):(L.map (setB f c v)).map (·.2.1)=L.map (·.2.1):=by
 rw[List.map_map];refine List.map_congr_left (fun x _=>?_);simp only[Function.comp,setB];split <;> rfl
theorem jcm.setF{W:World}{bm:Nat}{L:List Nd5}(h:jcm W bm L){c:Nat}{it:It}(hc:jdg W c it){f:Nat}(hf:f=2∨f=3)(v:Int):jcm (W.setCell ⟨c,f,none⟩ (.int .i64 v)) bm (L.map (setB f c v)):=by
 obtain⟨rv,hcb,hcr⟩:=hc.cells
 have hK:jae (fun z=>z=c) W (W.setCell ⟨c,f,none⟩ (.int .i64 v)):=jae.oneSet W ⟨c,f,none⟩ _;have hN:jfR W (fun z=>z=c):=fun z cur fz e hz=>by
  have e:z=c:=e;subst e
  have:=hcb.uniq hz;injection this with _ h2;exact absurd h2 (by decide)
 obtain⟨es,ck,h1,h2⟩:=h.mp
 have hne:bm≠c:=fun e=>by subst e;have:=h1.uniq hcb;cases this
 refine⟨⟨es,ck,h1.keeps hK hne,by rw[joe];exact h2⟩,by rw[jod];exact h.blks,fun x hx=>?_⟩
 obtain⟨y,hy,rfl⟩:=List.mem_map.1 hx
 have hi:=h.items y hy;unfold setB;split
 ·rename_i e
  obtain⟨rw',hb,hr⟩:=hi.cells
  rw[e]at hb
  refine⟨rw',?_,?_⟩
  ·show Blk _ y.2.1 _
   rw[e];rcases hf with rfl | rfl
   ·exact hb.set_same (i:=2) _
   ·exact hb.set_same (i:=3) _
  ·have:=jei hr hK hN
   rcases hf with rfl | rfl <;> exact this
 ·rename_i e
  exact hi.keeps hK e hN
end
section
open Go Go.RowKit
def HasS(S:List Nd5)(t:ByteArray):Prop:=∃ x,atL S (ky t)=some x∧x.2.2.text=t
structure HasM(S:List Nd5)(l:List Pair):Prop where
 ok:jbp l=0
 has:∀ x∈jaD (ja2 l),HasS S x
def AllN(S:List Nd5):Prop:=∀ x∈S,∃ n,jbq x.2.2.text n
def jfS(S:List Nd5)(r:ByteArray)(o:Option jac):Prop:=
 (∃ d m,InlD d r m∧o=some m)∨∃ h:ByteArray,h.size=32∧r=jaq h∧((atL S h.data.toList=none∧o=none)∨∃ y n,atL S h.data.toList=some y∧jbq y.2.2.text n∧o=some n)
theorem jfS.good{S:List Nd5}{r:ByteArray}{n:jac}(h:jfS S r (some n)):∃ d,jbl (InlD d) n:=by
 rcases h with⟨d,m,h1,h2⟩ |⟨h,_,_,⟨_,h2⟩ |⟨y,m,_,h1,h2⟩⟩
 ·cases d with
  | zero=>exact h1.elim
  | succ d=>cases h2;exact⟨d,h1.1⟩
 ·cases h2
 ·cases h2;exact h1.2
def jkS(r:ByteArray):Prop:=∃ d,MayP (InlD d) r
theorem jqQ{S:List Nd5}(hN:AllN S){r:ByteArray}(h:jkS r):∃ o,jfS S r o:=by
 obtain⟨d,⟨h,h1,h2⟩ |⟨m,h⟩⟩:=h
 ·cases hy:atL S h.data.toList with
  | none=>exact⟨none,.inr ⟨h,h1,h2,.inl ⟨hy,rfl⟩⟩⟩
  | some y =>
   obtain⟨n,hn⟩:=hN y (jaR hy).1
   exact⟨some n,.inr ⟨h,h1,h2,.inr ⟨y,n,hy,hn,rfl⟩⟩⟩
 ·exact⟨some m,.inl ⟨d,m,h,rfl⟩⟩
inductive jdk (S:List Nd5) (fr:ByteArray):Nat→List Pl5→List Pair→Prop
 | nil (k:Nat):jdk S fr k [] []
 | val (k:Nat) (t:Pl5) (r:List Pl5) (R:List Pair):t.value.size≠0→jck t.path=true→t.path.size≤13 * (k+1)→jdk S fr k r R→jdk S fr k (t :: r) ((t.path,t.value) :: R)
 | many (k:Nat) (t:Pl5) (r:List Pl5):t.value=⟨#[]⟩→400≤k→jdk S fr k (t :: r) []
 | no (k:Nat) (t:Pl5) (r:List Pl5):t.value=⟨#[]⟩→k < 400→jfS S t.ref none→jdk S fr k (t :: r) []
 | go (k:Nat) (t:Pl5) (r:List Pl5) (n:jac) (R:List Pair):t.value=⟨#[]⟩→k < 400→t.path.size≤13 * (k+1)→jfS S t.ref (some n)→jdk S fr (k+1) ((layP fr n t.path).reverse++r) R→jdk S fr k (t :: r) R
def PlOk(k:Nat)(t:Pl5):Prop:=t.path.size≤13 * (k+1)∧((t.value.size≠0∧jck t.path=true)∨(t.value=⟨#[]⟩∧jkS t.ref))
theorem PlOk.up{k:Nat}{t:Pl5}(h:PlOk k t):PlOk (k+1) t:=⟨by have:=h.1;omega,h.2⟩
theorem ji2{k:Nat}{fr p v:ByteArray}(hp:p.size≤13 * (k+1)):∀ t∈jbv fr p v,PlOk k t:=by
 intro t ht;unfold jbv at ht;split at ht
 ·cases ht
 ·rename_i h
  split at ht
  ·rename_i hk
   rw[List.mem_singleton.1 ht]
   exact⟨hp,.inl ⟨fun e=>h (.inl e),hk⟩⟩
  ·cases ht
theorem jiR{k:Nat}{fr p r:ByteArray}(hp:p.size≤13 * (k+1))(hr:r.size≠0→jkS r):∀ t∈jbs fr p r,PlOk k t:=by
 intro t ht;unfold jbs at ht;split at ht
 ·cases ht
 ·rename_i h
  rw[List.mem_singleton.1 ht]
  exact⟨hp,.inr ⟨rfl,hr fun e=>h (.inl e)⟩⟩
theorem jlT{d k:Nat}{fr p:ByteArray}{n:jac}(hg:jbl (InlD d) n)(hp:p.size≤13 * (k+1)):∀ t∈layP fr n p,PlOk (k+1) t:=by
 intro t ht;have hz:(⟨#[]⟩:ByteArray).size=0:=rfl;have hps:=(hg.one (inlP d)).path;have hpa:(p++n.path).size≤13 * (k+1+1):=by rw[ByteArray.size_append];omega
 unfold layP at ht;cases hg with
 | none=>cases ht
 | leaf q v h1 h2 h3=>exact ji2 hpa t ht
 | ext q r h1 h2 h3=>exact jiR hpa (fun _=>⟨d,h3.imp id fun ⟨m,h,_⟩=>⟨m,h⟩⟩) t ht
 | branch v rs h1 h2 h3 h4 =>
  rw[if_neg (show ¬(3:Nat)=1 by decide),if_neg (show ¬(3:Nat)=2 by decide),if_pos rfl]at ht;rcases List.mem_append.1 ht with ht | ht
  ·unfold jit at ht
   obtain⟨i,hi,ht⟩:=List.mem_flatMap.1 ht
   have hi16:i < 16:=by simpa using hi
   refine jiR (by rw[ByteArray.size_append];show _+1≤_;omega) (fun h0=>⟨d,h3 _ ?_ h0⟩) t ht;show rs.getD i ⟨#[]⟩∈rs;rw[List.getD_eq_getElem?_getD,List.getElem?_eq_getElem (by omega)];exact List.getElem_mem _
  ·exact ji2 (by omega) t ht
theorem jmG{S:List Nd5}(hN:AllN S)(fr:ByteArray):∀ (m k:Nat) (ts:List Pl5),400≤k+m→(∀ t∈ts,PlOk k t)→∃ R,jdk S fr k ts R:=by
 intro m;induction m with
 | zero =>
  intro k ts hk;induction ts with
  | nil=>exact fun _=>⟨_,.nil k⟩
  | cons t r ih =>
   intro h
   obtain⟨h1,⟨h2,h3⟩ |⟨h2,h3⟩⟩:=h t List.mem_cons_self
   ·obtain⟨R,hR⟩:=ih fun x hx=>h x (List.mem_cons_of_mem _ hx)
    exact⟨_,.val k t r R h2 h3 h1 hR⟩
   ·exact⟨_,.many k t r h2 (by omega)⟩
 | succ m ihm =>
  intro k ts hk;induction ts with
  | nil=>exact fun _=>⟨_,.nil k⟩
  | cons t r ih =>
   intro h
   obtain⟨h1,⟨h2,h3⟩ |⟨h2,h3⟩⟩:=h t List.mem_cons_self
   ·obtain⟨R,hR⟩:=ih fun x hx=>h x (List.mem_cons_of_mem _ hx)
    exact⟨_,.val k t r R h2 h3 h1 hR⟩
   ·by_cases h4:400≤k
    ·exact⟨_,.many k t r h2 h4⟩
    ·obtain⟨o,ho⟩:=jqQ hN h3
     cases o with
     | none=>exact⟨_,.no k t r h2 (by omega) ho⟩
     | some n =>
      obtain⟨d,hd⟩:=ho.good
      obtain⟨R,hR⟩:=ihm (k+1) ((layP fr n t.path).reverse++r) (by omega) fun x hx=>by
       rcases List.mem_append.1 hx with hx | hx
       ·exact jlT hd h1 x (List.mem_reverse.1 hx)
       ·exact (h x (List.mem_cons_of_mem _ hx)).up
      exact⟨R,.go k t r n R h2 (by omega) h1 ho hR⟩
theorem jjG{S:List Nd5}{fr:ByteArray}{k:Nat}{ts:List Pl5}{R:List Pair}(h:jdk S fr k ts R):R.length≤ts.length+17 * (400 - k):=by
 induction h with
 | nil=>simp
 | val k t r R _ _ _ _ ih=>simp only[List.length_cons];omega
 | many=>simp
 | no=>simp
 | go k t r n R _ hk _ _ _ ih =>
  have:=jfz fr n t.path
  simp only[List.length_append,List.length_reverse,List.length_cons]at ih ⊢;omega
theorem jpl{S:List Nd5}{f:Nat}{T:PT}{n:jac}(hSt:jdh f T n)(hH:32≤T.text.size→HasS S T.text):jfS S (refB T.text) (some n):=by
 by_cases hz:T.text.size < 32
 ·exact .inl ⟨f+1,n,hSt.may.2 hz,rfl⟩
 ·obtain⟨y,h1,h2⟩:=hH (by omega)
  refine .inr ⟨shaB T.text,jb7 _,jjr hz,.inr ⟨y,n,h1,?_,rfl⟩⟩;rw[h2]
  exact⟨hSt.text,f,hSt.good⟩
theorem jln(f:Nat)(l:List Pair):1≤cntT f l:=by cases f <;> simp[cntT]
theorem jnk{S:List Nd5}{fr:ByteArray}:∀ (M:Nat) (ts:List Pl5) (R:List Pair) (N k:Nat),N≤M→jcr (HasS S) fr ts R N→k+N≤400→jdk S fr k ts R:=by
 intro M;induction M with
 | zero =>
  intro ts;induction ts with
  | nil=>intro R N k _ h _;obtain⟨rfl,rfl⟩:=h;exact .nil k
  | cons t r ih =>
   intro R N k hM h hk
   obtain⟨R1,R2,N1,N2,rfl,rfl,h1,h2⟩:=h
   rcases h1 with⟨d1,d2,d3,d4,rfl,rfl⟩ |⟨d1,f,l,d2,d3,d4,d5⟩
   ·exact .val k t r R2 d1 d2 (by omega) (ih _ _ _ (by omega) h2 (by omega))
   ·have:=jln f l;omega
 | succ M ihM =>
  intro ts;induction ts with
  | nil=>intro R N k _ h _;obtain⟨rfl,rfl⟩:=h;exact .nil k
  | cons t r ih =>
   intro R N k hM h hk
   obtain⟨R1,R2,N1,N2,rfl,rfl,h1,h2⟩:=h
   rcases h1 with⟨d1,d2,d3,d4,rfl,rfl⟩ |⟨d1,f,l,d2,d3,rfl,rfl⟩
   ·exact .val k t r R2 d1 d2 (by omega) (ih _ _ _ (by omega) h2 (by omega))
   ·have hp:=jln f l
    have hst:=(good f l d2.rows).2.1 d2.ne
    obtain⟨Nl,hl1,hl2⟩:=jlS (Hs:=HasS S) fr d2
    have hr:=jpl (S:=S) hst (fun h32=>d2.has _ (jgY _) h32);rw[←d3]at hr;refine .go k t r _ _ d1 (by omega) ?_ hr (ihM _ _ _ _ (by omega) (hl2.app h2) (by omega))
    obtain⟨q,hq⟩:=List.exists_mem_of_ne_nil _ d2.ne
    have:=(d2.key q hq).2
    rw[ByteArray.size_append]at this;omega
end
end Go.Proofs.YtcpnjmcipainpaaGreatDoor
