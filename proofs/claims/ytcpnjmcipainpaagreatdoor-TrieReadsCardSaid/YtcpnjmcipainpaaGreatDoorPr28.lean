/- Lemmas; each is under no condition but those that it states. -/
import Derived.Test.YtcpnjmcipainpaaGreatDoorPr27
namespace Go.Proofs.YtcpnjmcipainpaaGreatDoor
set_option linter.unusedSimpArgs false
set_option linter.unusedVariables false
set_option maxRecDepth 100000
set_option maxHeartbeats 16000000
open Go Go.RowKit
section
attribute [local go_sem] Oper.semAt_some
def jb3(G:List Nd5)(x:vB):List vB:=match atL G x.data.toList with | some y=>y.2.2.refs | none=>[]
theorem jfk{G:List Nd5}{x:vB}{y:Nd5}(h:atL G x.data.toList=some y):jb3 G x=y.2.2.refs:=by unfold jb3;rw[h]
theorem jkQ(S:List Nd5)(M:List vB):(frK S M).Nodup:=(jgU M).sublist List.filter_sublist
theorem jfD{S:List Nd5}{M:List vB}{x:vB}:x∈frK S M↔x∈M/\atL S x.data.toList=none:=by
 unfold frK;rw[List.mem_filter,ja9];simp
theorem jl1{x y:vB}(h:x.data.toList=y.data.toList):x=y:=ByteArray.ext (Array.ext' h)
theorem jnf(S:List Nd5)(M:List vB):∀ T:List vB,∃ X,frK S (M++T)=frK S M++X
 | []=>⟨[],by simp⟩
 | x :: T=>by
  obtain⟨X,hX⟩:=jnf S (M++[x]) T
  have e:M++x :: T=M++[x]++T:=by simp
  rw[e,hX,jng];split
  ·exact⟨X,rfl⟩
  ·split
   ·exact⟨x :: X,by simp⟩
   ·exact⟨X,rfl⟩
theorem jqI(w0:World)(s:Nat)(S:List Nd5)(bg:Nat):Meet w0 s S bg w0.heap.size [] (((((w0.alloc (.cells #[.pointer (some ⟨s,0,none⟩)] 24)).alloc (.cells #[.map (some bg)] 115)).alloc (.cells #[.slice none 0 0] 34)).alloc (.map #[] 0)).alloc (.cells #[.map (some (w0.heap.size+3))] 107)):=by
 obtain⟨W1,h1⟩:=vE (w0.alloc (.cells #[.pointer (some ⟨s,0,none⟩)] 24))
 obtain⟨W2,h2⟩:=vE (W1.alloc (.cells #[.map (some bg)] 115))
 obtain⟨W3,h3⟩:=vE (W2.alloc (.cells #[.slice none 0 0] 34))
 obtain⟨W4,h4⟩:=vE (W3.alloc (.map #[] 0))
 obtain⟨W5,h5⟩:=vE (W4.alloc (.cells #[.map (some (w0.heap.size+3))] 107))
 rw[<-h1, <-h2, <-h3, <-h4, <-h5];have z1:W1.heap.size=w0.heap.size+1:=by rw[h1,World.size_alloc]
 have z2:W2.heap.size=w0.heap.size+2:=by rw[h2,World.size_alloc,z1]
 have z3:W3.heap.size=w0.heap.size+3:=by rw[h3,World.size_alloc,z2]
 have z4:W4.heap.size=w0.heap.size+4:=by rw[h4,World.size_alloc,z3]
 have e1:Ext w0 W1:=by rw[h1];exact (ExtR w0).alloc _
 have e2:Ext W1 W2:=by rw[h2];exact (ExtR W1).alloc _
 have e3:Ext W2 W3:=by rw[h3];exact (ExtR W2).alloc _
 have e4:Ext W3 W4:=by rw[h4];exact (ExtR W3).alloc _
 have e5:Ext W4 W5:=by rw[h5];exact (ExtR W4).alloc _
 have b1:=by have:=Blk.new w0 (.cells #[.pointer (some ⟨s,0,none⟩)] 24);rw[<-h1]at this;exact this
 have b2:=by have:=Blk.new W1 (.cells #[.map (some bg)] 115);rw[<-h2,z1]at this;exact this
 have b3:=by have:=Blk.new W2 (.cells #[.slice none 0 0] 34);rw[<-h3,z2]at this;exact this
 have b4:=by have:=Blk.new W3 (.map #[] 0);rw[<-h4,z3]at this;exact this
 have b5:=by have:=Blk.new W4 (.cells #[.map (some (w0.heap.size+3))] 107);rw[<-h5,z4]at this;exact this
 exact⟨(((e1.trans e2).trans e3).trans e4).trans e5,Nat.le_refl _,b1.keeps (((e2.trans e3).trans e4).trans e5) (fun g=>g),b2.keeps ((e3.trans e4).trans e5) (fun g=>g),b5,
  ⟨[],0,b4.keeps e5 (fun g=>g),fun y=>rfl⟩,.slice none 0 0,0,b3.keeps (e4.trans e5) (fun g=>g),World.ownsRow_nil _ _ _ _,Nat.le_refl _,fun z hz=>by cases hz⟩
theorem jiZ{w:World}{v:Value}{n:Nat}{xs:List vB}(h:w.ownsRow 0 9 1 v n (xs.map Value.string)):RdS w v xs:=by
 have hl:xs.length=n:=by have:=h.1;simpa using this
 obtain⟨_,⟨rfl,h2⟩ |⟨g,cap,cur,rfl,h3,h4,h5,h6,h7⟩⟩:=id h
 ·exact .inl ⟨none,0,rfl,List.eq_nil_of_length_eq_zero vO⟩
 ·subst hl
  refine .inr ⟨g,0,cap,rfl,(Array.getElem?_eq_some_iff.1 h4).1,h5,fun j x hx=>?_⟩;have hj:=(List.getElem?_eq_some_iff.1 hx).1
  have:=h.cellAt j vO
  rw[Nat.zero_add,this,List.getElem?_map,hx];rfl
theorem joQ(L:List vB)(t:vB):readG (L++[t])=addG (readG L) t:=by unfold readG;rw[List.foldl_append];rfl
theorem jeY(L:List vB):(∀ p∈readG L,∃ t∈L,p=(ky t,itOf t))/\(∀ t∈L,∃ p∈readG L,p.1=ky t)/\(readG L).length<=L.length:=by
 suffices h:∀ (R acc:List vB),((∀ p∈readG acc,∃ t∈acc,p=(ky t,itOf t))/\(∀ t∈acc,∃ p∈readG acc,p.1=ky t)/\(readG acc).length<=acc.length)->(∀ p∈readG (acc++R),∃ t∈acc++R,p=(ky t,itOf t))/\(∀ t∈acc++R,∃ p∈readG (acc++R),p.1=ky t)/\(readG (acc++R)).length<=(acc++R).length from by
  have:=h L [] ⟨fun p hp=>(by cases hp),fun t ht=>(by cases ht),Nat.le_refl _⟩
  simpa using this
 intro R;induction R with
 | nil=>intro acc h;simpa using h
 | cons t R ih =>
  intro acc ⟨h1,h2,h3⟩
  have:=ih (acc++[t]) (by
   rw[joQ];unfold addG;split
   ·rename_i hb
    obtain⟨p,hp,e⟩:=List.any_eq_true.1 hb
    refine⟨fun p hp=>by obtain⟨x,hx,e⟩:=h1 p hp;exact⟨x,List.mem_append.2 (.inl hx),e⟩,fun x hx=>?_,by rw[List.length_append];exact Nat.le_trans h3 (Nat.le_add_right _ _)⟩
    rcases List.mem_append.1 hx with hx | hx
    ·exact h2 x hx
    ·simp only[List.mem_singleton]at hx;subst hx;exact⟨p,hp,(of_decide_eq_true e).symm⟩
   ·refine⟨fun p hp=>?_,fun x hx=>?_,by rw[List.length_append,List.length_append];exact Nat.add_le_add_right h3 1⟩
    ·rcases List.mem_append.1 hp with hp | hp
     ·obtain⟨x,hx,e⟩:=h1 p hp;exact⟨x,List.mem_append.2 (.inl hx),e⟩
     ·simp only[List.mem_singleton]at hp;subst hp;exact⟨t,by simp,rfl⟩
    ·rcases List.mem_append.1 hx with hx | hx
     ·obtain⟨p,hp,e⟩:=h2 x hx;exact⟨p,List.mem_append.2 (.inl hp),e⟩
     ·simp only[List.mem_singleton]at hx;subst hx;exact⟨(ky x,itOf x),by simp,rfl⟩)
  simpa using this
structure jwM(L:List vB):Prop where
 node:∀ t∈L,∃ n,jbK t n
 shut:∀ t∈L,∀ h∈jaU (nodeOf t),∃ t'∈L,h=shaB t'
 few:L.length<=1000
theorem jkU{L:List vB}{G:List Nd5}(h:G.map kvI=readG L){t:vB}(ht:t∈L):(atL G (shaB t).data.toList).isSome=true:=by
 obtain⟨p,hp,e⟩:=(jeY L).2.1 t ht
 rw[<-h]at hp
 obtain⟨x,hx,rfl⟩:=List.mem_map.1 hp
 cases ha:atL G (shaB t).data.toList with
 | some y=>rfl
 | none=>exact absurd e.symm (jjh.1 ha x hx)
theorem jcV{L:List vB}{G:List Nd5}(h:G.map kvI=readG L){x:Nd5}(hx:x∈G):∃ t∈L,x.1=ky t/\x.2.2=itOf t:=by
 obtain⟨t,ht,e⟩:=(jeY L).1 (kvI x) (by rw[<-h];exact List.mem_map.2 ⟨x,hx,rfl⟩)
 exact⟨t,ht,congrArg Prod.fst e,congrArg Prod.snd e⟩
def putF(f:Nat)(v:Int)(it:It):It:=if f=2 then { it with used:=v }else { it with held:=v }
def setB(f c:Nat)(v:Int)(x:Nd5):Nd5:=if x.2.1=c then (x.1,x.2.1,putF f v x.2.2)else x
theorem jtS(f c:Nat)(v:Int)(L:List Nd5):(L.map (setB f c v)).map kvN=L.map kvN:=by
 rw[List.map_map];refine List.map_congr_left (fun x _=>?_);simp only[Function.comp,setB];split <;> rfl
theorem jtR(f c:Nat)(v:Int)(L:List Nd5):(L.map (setB f c v)).map (·.2.1)=L.map (·.2.1):=by
 rw[List.map_map];refine List.map_congr_left (fun x _=>?_);simp only[Function.comp,setB];split <;> rfl
theorem jc9.setF{W:World}{bm:Nat}{L:List Nd5}(h:jc9 W bm L){c:Nat}{it:It}(hc:jeA W c it){f:Nat}(hf:f=2\/f=3)(v:Int):jc9 (W.setCell ⟨c,f,none⟩ (.int .i64 v)) bm (L.map (setB f c v)):=by
 obtain⟨rv,hcb,hcr⟩:=hc.cells
 have hK:jae (fun z=>z=c) W (W.setCell ⟨c,f,none⟩ (.int .i64 v)):=jae.oneSet W ⟨c,f,none⟩ _;have hN:jis W (fun z=>z=c):=fun z cur fz e hz=>by
  have e:z=c:=e;subst e
  have:=hcb.uniq hz;injection this with _ h2;exact absurd h2 vI
 obtain⟨es,ck,h1,h2⟩:=h.mp
 have hne:bm≠c:=fun e=>by subst e;have:=h1.uniq hcb;cases this
 refine⟨⟨es,ck,h1.keeps hK hne,by rw[jtS];exact h2⟩,by rw[jtR];exact h.blks,fun x hx=>?_⟩
 obtain⟨y,hy,rfl⟩:=List.mem_map.1 hx
 have hi:=h.items y hy;unfold setB;split
 ·rename_i e
  obtain⟨rw',hb,hr⟩:=hi.cells
  rw[e]at hb
  refine⟨rw',?_,?_⟩
  ·show Blk _ y.2.1 _
   rw[e];rcases hf with rfl | rfl
   ·exact hb.set_same (i:=2) _
   ·exact hb.set_same (i:=3) _
  ·have:=jgb hr hK hN
   rcases hf with rfl | rfl <;> exact this
 ·rename_i e
  exact hi.keeps hK e hN
end
def HasS(S:List Nd5)(t:vB):Prop:=∃ x,atL S (ky t)=some x/\x.2.2.text=t
structure HasM(S:List Nd5)(l:List Pair):Prop where
 ok:jaG l=0
 has:∀ x∈jaF (jaL l),HasS S x
section
attribute [local go_sem] Oper.semAt_some
theorem jty(k:vB):jd3 (ja5 k)=true:=by
 unfold jd3;rw[jch,jdz];simp
theorem jh1:∀ l:List UInt8,jck (jcp l)=l
 | []=>rfl
 | b :: l=>by
  have h:(b >>> 4) <<< 4 |||(b &&& 15)=b:=by
   have h:∀ b:Fin 256,((UInt8.ofNat b.1) >>> 4) <<< 4 |||((UInt8.ofNat b.1) &&& 15)=UInt8.ofNat b.1:=by decide +kernel
   have:=h ⟨b.toNat,b.toNat_lt⟩
   simpa only[UInt8.ofNat_toNat]using this
  show ((b >>> 4) <<< 4 |||(b &&& 15)) :: jck (jcp l)=_;rw[h,jh1 l]
theorem jgK(k:vB):jbr (ja5 k)=k:=by
 unfold jbr ja5;show (⟨(jck (jcp k.data.toList)).toArray⟩:vB)=k;rw[jh1]
end
end Go.Proofs.YtcpnjmcipainpaaGreatDoor
