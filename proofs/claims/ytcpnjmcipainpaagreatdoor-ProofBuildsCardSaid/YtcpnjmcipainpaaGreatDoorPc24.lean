/- Parts of the proof, one behind the other: StoreE, StoreF, HasM, SmallA, GrowA, StoreFb, StoreG, StoreH, StoreL, StoreM, StorePl, HoldA, HoldB, RefPl, PreB, Rises, OnlyA. Each is under no condition but those that it states. -/
import Derived.Test.YtcpnjmcipainpaaGreatDoorPc23
import Derived.Test.YtcpnjmcipainpaaGreatDoorPc18
import Derived.Test.YtcpnjmcipainpaaGreatDoorPc20
import Derived.Test.YtcpnjmcipainpaaGreatDoorPc9
import Derived.Test.YtcpnjmcipainpaaGreatDoorPc4
import Derived.WalkMore
namespace Go.Proofs.YtcpnjmcipainpaaGreatDoor
set_option linter.unusedSimpArgs false
set_option linter.unusedVariables false
set_option maxRecDepth 100000
set_option maxHeartbeats 16000000
section
open Go Go.RowKit
attribute [local go_sem] Oper.semAt_some
structure Shut(G:List Nd5):Prop where
 few:G.length≤1000
 refs:∀ y∈G,y.2.2.refs.length≤16
 shut:∀ y∈G,∀ r∈y.2.2.refs,(atL G r.data.toList).isSome=true
def jci(G:List Nd5)(x:ByteArray):List ByteArray:=match atL G x.data.toList with | some y=>y.2.2.refs | none=>[]
theorem jd7{G:List Nd5}{x:ByteArray}{y:Nd5}(h:atL G x.data.toList=some y):jci G x=y.2.2.refs:=by unfold jci;rw[h]
structure Path(S G:List Nd5)(root:ByteArray)(M:List ByteArray)(i:Nat):Prop where
 is:M=root ::((frK S M).take i).flatMap (jci G)
 le:i≤(frK S M).length
 inG:∀ x∈M,(atL G x.data.toList).isSome=true
theorem jeI{G:List Nd5}(h:Shut G):∀ l:List ByteArray,(l.flatMap (jci G)).length≤16 * l.length
 | []=>by simp
 | x :: r=>by
  have ih:=jeI h r
  have:(jci G x).length≤16:=by
   unfold jci;split
   ·rename_i y hy;exact h.refs y (ja8 hy).1
   ·simp
  rw[List.flatMap_cons,List.length_append,List.length_cons];omega
theorem Path.len{S G:List Nd5}{root:ByteArray}{M:List ByteArray}{i:Nat}(h:Path S G root M i)(hs:Shut G):M.length≤1+16 * i:=by
 have:=jeI hs ((frK S M).take i)
 rw[List.length_take]at this;have h2:=congrArg List.length h.is;rw[List.length_cons]at h2;omega
theorem jiv(S:List Nd5)(M:List ByteArray):(frK S M).Nodup:=(jfs M).sublist List.filter_sublist
theorem jeq{S:List Nd5}{M:List ByteArray}{x:ByteArray}:x∈frK S M↔x∈M∧atL S x.data.toList=none:=by
 unfold frK;rw[List.mem_filter,jbC];simp
theorem jjk{x y:ByteArray}(h:x.data.toList=y.data.toList):x=y:=ByteArray.ext (Array.ext' h)
theorem jjz{S G:List Nd5}{M:List ByteArray}(h:∀ x∈M,(atL G x.data.toList).isSome=true):(frK S M).length≤G.length:=by
 have h1:((frK S M).map fun x=>x.data.toList).Nodup:=by
  have:=jiv S M
  generalize frK S M=l at this;induction l with
  | nil=>simp
  | cons z r ih =>
   rw[List.nodup_cons]at this;rw[List.map_cons,List.nodup_cons]
   exact⟨fun hm=>by obtain⟨y,hy,e⟩:=List.mem_map.1 hm;exact this.1 (jjk e ▸ hy),ih this.2⟩
 have:=List.Nodup.length_le_of_subset h1 (l₂:=G.map (·.1)) (fun k hk=>by
  obtain⟨x,hx,e⟩:=List.mem_map.1 hk
  obtain⟨y,hy⟩:=Option.isSome_iff_exists.1 (h x (jeq.1 hx).1)
  exact List.mem_map.2 ⟨y,(ja8 hy).1,by rw[(ja8 hy).2,e]⟩)
 simpa using this
theorem jke(S:List Nd5)(M:List ByteArray):∀ T:List ByteArray,∃ X,frK S (M++T)=frK S M++X
 | []=>⟨[],by simp⟩
 | x :: T=>by
  obtain⟨X,hX⟩:=jke S (M++[x]) T
  have e:M++x :: T=M++[x]++T:=by simp
  rw[e,hX,jkf];split
  ·exact⟨X,rfl⟩
  ·split
   ·exact⟨x :: X,by simp⟩
   ·exact⟨X,rfl⟩
theorem Path.step{S G:List Nd5}{root:ByteArray}{M:List ByteArray}{i:Nat}(h:Path S G root M i)(hs:Shut G){x:ByteArray}(hx:(frK S M)[i]?=some x):Path S G root (M++jci G x) (i+1):=by
 obtain⟨X,hX⟩:=jke S M (jci G x)
 have hlt:i < (frK S M).length:=(List.getElem?_eq_some_iff.1 hx).1
 refine⟨?_,?_,?_⟩
 ·have e:(frK S (M++jci G x)).take (i+1)=(frK S M).take i++[x]:=by
   rw[hX,List.take_append_of_le_length (by omega),List.take_add_one,hx];rfl
  rw[e,List.flatMap_append]
  have:=h.is
  generalize frK S M=l at this;rw[this]
  simp
 ·rw[hX,List.length_append];omega
 ·intro y hy
  rcases List.mem_append.1 hy with hy | hy
  ·exact h.inG y hy
  ·unfold jci at hy
   split at hy
   ·rename_i z hz;exact hs.shut z (ja8 hz).1 y hy
   ·cases hy
theorem jmR(w0:World)(s:Nat)(S:List Nd5)(bg:Nat):Meet w0 s S bg w0.heap.size [] (((((w0.alloc (.cells #[.pointer (some ⟨s,0,none⟩)] 24)).alloc (.cells #[.map (some bg)] 115)).alloc (.cells #[.slice none 0 0] 34)).alloc (.map #[] 0)).alloc (.cells #[.map (some (w0.heap.size+3))] 107)):=by
 obtain⟨W1,h1⟩:∃ W1,W1=w0.alloc (.cells #[.pointer (some ⟨s,0,none⟩)] 24):=⟨_,rfl⟩
 obtain⟨W2,h2⟩:∃ W2,W2=W1.alloc (.cells #[.map (some bg)] 115):=⟨_,rfl⟩
 obtain⟨W3,h3⟩:∃ W3,W3=W2.alloc (.cells #[.slice none 0 0] 34):=⟨_,rfl⟩
 obtain⟨W4,h4⟩:∃ W4,W4=W3.alloc (.map #[] 0):=⟨_,rfl⟩
 obtain⟨W5,h5⟩:∃ W5,W5=W4.alloc (.cells #[.map (some (w0.heap.size+3))] 107):=⟨_,rfl⟩
 rw[←h1, ←h2, ←h3, ←h4, ←h5];have z1:W1.heap.size=w0.heap.size+1:=by rw[h1,World.size_alloc]
 have z2:W2.heap.size=w0.heap.size+2:=by rw[h2,World.size_alloc,z1]
 have z3:W3.heap.size=w0.heap.size+3:=by rw[h3,World.size_alloc,z2]
 have z4:W4.heap.size=w0.heap.size+4:=by rw[h4,World.size_alloc,z3]
 have e1:Ext w0 W1:=by rw[h1];exact (ExtR w0).alloc _
 have e2:Ext W1 W2:=by rw[h2];exact (ExtR W1).alloc _
 have e3:Ext W2 W3:=by rw[h3];exact (ExtR W2).alloc _
 have e4:Ext W3 W4:=by rw[h4];exact (ExtR W3).alloc _
 have e5:Ext W4 W5:=by rw[h5];exact (ExtR W4).alloc _
 have b1:=by have:=Blk.new w0 (.cells #[.pointer (some ⟨s,0,none⟩)] 24);rw[←h1]at this;exact this
 have b2:=by have:=Blk.new W1 (.cells #[.map (some bg)] 115);rw[←h2,z1]at this;exact this
 have b3:=by have:=Blk.new W2 (.cells #[.slice none 0 0] 34);rw[←h3,z2]at this;exact this
 have b4:=by have:=Blk.new W3 (.map #[] 0);rw[←h4,z3]at this;exact this
 have b5:=by have:=Blk.new W4 (.cells #[.map (some (w0.heap.size+3))] 107);rw[←h5,z4]at this;exact this
 exact⟨(((e1.trans e2).trans e3).trans e4).trans e5,Nat.le_refl _,b1.keeps (((e2.trans e3).trans e4).trans e5) (fun g=>g),b2.keeps ((e3.trans e4).trans e5) (fun g=>g),b5,
  ⟨[],0,b4.keeps e5 (fun g=>g),fun y=>rfl⟩,.slice none 0 0,0,b3.keeps (e4.trans e5) (fun g=>g),World.ownsRow_nil _ _ _ _,Nat.le_refl _,fun z hz=>by cases hz⟩
theorem jhb{w:World}{v:Value}{n:Nat}{xs:List ByteArray}(h:w.ownsRow 0 9 1 v n (xs.map Value.string)):RdS w v xs:=by
 have hl:xs.length=n:=by have:=h.1;simpa using this
 obtain⟨_,⟨rfl,h2⟩ |⟨g,cap,cur,rfl,h3,h4,h5,h6,h7⟩⟩:=id h
 ·exact .inl ⟨none,0,rfl,List.eq_nil_of_length_eq_zero (by omega)⟩
 ·subst hl
  refine .inr ⟨g,0,cap,rfl,(Array.getElem?_eq_some_iff.1 h4).1,h5,fun j x hx=>?_⟩;have hj:=(List.getElem?_eq_some_iff.1 hx).1
  have:=h.cellAt j (by omega)
  rw[Nat.zero_add,this,List.getElem?_map,hx];rfl
def jsl(w0:World)(s:Nat)(S G:List Nd5)(bg b:Nat)(root:ByteArray)(wv iv:Value)(W:World):Prop:=wv=.bool true∧∃ (i:Nat) (M:List ByteArray),iv=.int .i64 i∧Path S G root M i∧Meet w0 s S bg b M W
def jq6(w0:World)(s:Nat)(S G:List Nd5)(bg b:Nat)(M R:List ByteArray)(wv jv:Value)(W:World):Prop:=wv=.bool true∧∃ j:Nat,jv=.int .i64 j∧j≤R.length∧Meet w0 s S bg b (M++R.take j) W
theorem jne(w0:World)(s bm:Nat)(room:Int)(S G:List Nd5)(bg:Nat)(h:jbo w0 s bm room S)(hG:jct w0 bg G)(hs:Shut G)(root:ByteArray)(hr:(atL G root.data.toList).isSome=true) :
  Calls Tryz.prog 83 #[.pointer (some ⟨s,0,none⟩),.string root,.map (some bg)] w0 fun e w'=>∃ v n M,e=.returned (.tuple #[v,.int .i64 0])∧Path S G root M (frK S M).length∧SRow w0 w' v n (frK S M):=by
 have HS:=Hd h;have HG:=Hd hG;have HSH:=Hd hs;have HR:=Hd hr;have hmm:=Tryz.makeMapSI;clear h hG hs hr;go_enter Tryz.func83,Tryz.ntmps83;go_wp2_with fail
 go_step3;go_wp2_with fail
 refine (jpj w0 s bm room S G bg w0.heap.size HS.o HG.o _ [] (jmR w0 s S bg) root HR.o (by simp)).mono ?_;rintro e w5 ⟨rfl,hM⟩;have HM:=Hd hM;clear hM hmm
 obtain⟨b,hb⟩:∃ b,b=w0.heap.size:=⟨_,rfl⟩
 rw[show w0.heap.size+1+1+1+1=w0.heap.size+4 from rfl,show w0.heap.size+1+1+1=w0.heap.size+3 from rfl,show w0.heap.size+1+1=w0.heap.size+2 from rfl];rw[←hb]at HM ⊢;clear hb;go_wp2_with fail
 go_step3;go_wp2_with fail
 go_loopw [11,12] (fun wv iv wr=>jsl w0 s S G bg b root wv iv wr) (fun _ iv _=>1001 - (intOf iv).toNat)
 case atStart =>
  refine⟨rfl,0,[root],rfl,⟨by simp,Nat.zero_le _,fun x hx=>by simp at hx;subst hx;exact HR.o⟩,HM.o⟩
 case round =>
  obtain⟨rfl,i,M,rfl,hP,hM⟩:=hrel
  obtain⟨v,n,h1,h2,h3,h4⟩:=hM.var
  obtain⟨ad,cp,rfl⟩:=ja1 h2
  have hn:(frK S M).length=n:=by have:=h2.1;simpa using this
  have hfl:=jjz (S:=S) hP.inG;have hfew:=HSH.o.few;have q8:=h1.cell (i:=0) (v:=.slice ad n cp) (by rfl);have hile:=hP.le
  by_cases hlt:i < n
  ·have b1:(i:Int) < (n:Int):=by omega
   obtain⟨x,hx⟩:∃ x,(frK S M)[i]?=some x:=⟨_,List.getElem?_eq_getElem (by omega)⟩
   obtain⟨ax,cx,hh,hcell⟩:=(jhb h2).slice
   obtain⟨ba,oa,hao,hqa⟩:=hcell i x hx
   subst hao;cases hh
   obtain⟨y,hy⟩:=Option.isSome_iff_exists.1 (hP.inG x (jeq.1 (List.mem_of_getElem? hx)).1)
   have hI:=HG.o.items y (ja8 hy).1;have hro:=jd7 hy;have h16:=HSH.o.refs y (ja8 hy).1;have HXG:=Hd (HSH.o.shut y (ja8 hy).1)
   obtain⟨rv,hIb,hIr⟩:=hI.cells
   obtain⟨ar,cr,rfl⟩:=ja1 hIr
   obtain⟨R,hR⟩:∃ R,R=y.2.2.refs:=⟨_,rfl⟩
   have Q5:=Hd (hM.c5.cell (i:=0) (v:=.map (some bg)) (by rfl));have Q8:=Hd q8;have QA:=Hd hqa;have QR:=Hd ((hIb.keeps hM.ext (fun g=>g)).cell (i:=1) (v:=.slice ar y.2.2.refs.length cr) (by rfl));have HMG:=Hd (HG.o.ext hM.ext);have HY:=Hd hy;have HPS:=Hd (hP.step HSH.o hx);have HPL:=Hd (hP.len HSH.o);have HRR:=Hd (jhb hIr);have HM2:=Hd hM;rw[hro, ←hR]at HPS;rw[←hR]at QR HRR HXG h16;have hi1000:i≤1000:=by omega
   obtain⟨yb,hyb⟩:∃ yb,yb=y.2.1:=⟨_,rfl⟩
   rw[←hyb]at QR;have HYB:=Hd hyb;clear hro hR hyb hIr hIb hI hy hx hcell hqa h1 h2 hP hM hn hfl hile;go_wp2_with fail
   refine jan [0,1,2,3,4,5,6,7,8,9,10] Ext ExtR ExtT (by kernel_rfl) (by kernel_rfl) (by kernel_rfl) ?_;refine jak ⟨b+1,0,none⟩ _ rfl (by kernel_rfl) rfl rfl (fun w1 h1=>jaa Tryz.underlying115 rfl (jab Q5.o ((jas _).trans h1))) ?_;simp only[Act.put,sA,sB,sC];refine jak ⟨b+2,0,none⟩ _ rfl (by kernel_rfl) rfl rfl (fun w1 h1=>jaa Tryz.underlying34 rfl (jab Q8.o ((jas _).trans h1))) ?_;simp only[Act.put,sA,sB,sC];iterate 2 (refine jae _ rfl (by kernel_rfl) rfl rfl (fun K hK=>?_);go_big_quiet_op;refine hK _ ?_;clear hK K)
   refine jak ⟨ba,oa+i,none⟩ _ rfl (by kernel_rfl) rfl rfl (fun w1 h1=>jaa Tryz.underlying9 rfl (jab QA.o ((jas _).trans h1))) ?_;simp only[Act.put,sA,sB,sC];refine jbA _ (.pointer (some ⟨yb,0,none⟩)) rfl (by kernel_rfl) rfl (fun w1 h1=>by
    have hx:=(HMG.o.ext ((jas _).trans h1)).look x false;rw[HY.o]at hx;unfold ptrO at hx;simp only[Bool.false_eq_true,if_false]at hx;rw[←HYB.o]at hx;simp[execOp,Act.eval,hx,Sem.run_bind,Result.andThen,Sem.run_pure]) ?_
   simp only[Act.put,sA,sB,sC];refine jbA _ (.pointer (some ⟨yb,0,none⟩)) rfl (by kernel_rfl) rfl (fun w1 _=>by kernel_rfl) ?_;simp only[Act.put,sA,sB,sC]
   (refine jae _ rfl (by kernel_rfl) rfl rfl (fun K hK=>?_);go_big_quiet_op;refine hK _ ?_;clear hK K)
   refine jak ⟨yb,1,none⟩ _ rfl (by kernel_rfl) rfl rfl (fun w1 h1=>jaa Tryz.underlying34 rfl (jab QR.o ((jas _).trans h1))) ?_;simp only[Act.put,sA,sB,sC];iterate 2 (refine jae _ rfl (by kernel_rfl) rfl rfl (fun K hK=>?_);go_big_quiet_op;refine hK _ ?_;clear hK K)
   refine jaJ (by kernel_rfl) (fun w3 he=>?_);have HM3:=Hd (HM2.o.keeps ((jas _).trans he));clear he HM2 Q5 Q8 QA QR HMG HY q8;go_wp2_with fail
   go_loopw [11,36] (fun wv jv wr2=>jq6 w0 s S G bg b M R wv jv wr2) (fun _ jv _=>R.length - (intOf jv).toNat)
   case atStart=>exact⟨rfl,0,rfl,Nat.zero_le _,by rw[List.take_zero,List.append_nil];exact HM3.o⟩
   case round =>
    obtain⟨rfl,j,rfl,hj,hM'⟩:=hrel
    by_cases hlt2:j < R.length
    ·have b2:(j:Int) < (R.length:Int):=by omega
     obtain⟨z,hz⟩:∃ z,R[j]?=some z:=⟨_,List.getElem?_eq_getElem hlt2⟩
     obtain⟨ax2,cx2,hh2,hcell2⟩:=HRR.o.slice
     obtain⟨ba2,oa2,hao2,hqa2⟩:=hcell2 j z hz
     subst hao2;cases hh2;have q2:=jab hqa2 hM'.ext;have HZ:=Hd (HXG.o z (List.mem_of_getElem? hz));have HT:=Hd (show M++R.take (j+1)=M++R.take j++[z] by rw[List.take_add_one,hz, ←List.append_assoc];rfl);have HL:=Hd (show (M++R.take j).length≤1000000 by have:=HPL.o;rw[List.length_append,List.length_take];omega);have HMJ:=Hd hM';clear hcell2 hqa2 hM' hz;go_wp2_with fail
     refine (jpj w0 s bm room S G bg b HS.o HG.o _ _ HMJ.o z HZ.o HL.o).mono ?_;rintro e w9 ⟨rfl,hM9⟩;rw[←HT.o]at hM9;have HM9:=Hd hM9;clear hM9 HMJ q2;go_wp2_with fail
     go_roundw
     case rel=>exact⟨rfl,j+1,by go_num,by omega,HM9.o⟩
     case measure=>simp[intOf];omega
    ·have hje:j=R.length:=by omega
     subst hje;rw[List.take_length]at hM';have HM9:=Hd hM';clear hM';go_wp2_with fail
     go_roundw
     case rel=>exact⟨rfl,i+1,M++R,by go_num,HPS.o,HM9.o⟩
     case measure=>simp[intOf];omega
  ·have hie:i=(frK S M).length:=by omega
   have HP:=Hd (show Path S G root M (frK S M).length by rw[←hie];exact hP);have HRW:=Hd (show SRow w0 wr (.slice ad n cp) n (frK S M)from⟨⟨_,_,rfl⟩,h2,hM.ext,fun z hz=>by have:=h4 z hz;have:=hM.lo;omega⟩);have b1:¬(i:Int) < (n:Int):=by omega
   clear hie hP hM h1 h2 h4 hn hfl hile;go_wp2_with fail
   go_ret2
   exact⟨.slice ad n cp,n,M,rfl,HP.o,HRW.o⟩
theorem jlr(L:List ByteArray)(t:ByteArray):readG (L++[t])=addG (readG L) t:=by unfold readG;rw[List.foldl_append];rfl
theorem jeU(L:List ByteArray):(∀ p∈readG L,∃ t∈L,p=(ky t,itOf t))∧(∀ t∈L,∃ p∈readG L,p.1=ky t)∧(readG L).length≤L.length:=by
 suffices h:∀ (R acc:List ByteArray),((∀ p∈readG acc,∃ t∈acc,p=(ky t,itOf t))∧(∀ t∈acc,∃ p∈readG acc,p.1=ky t)∧(readG acc).length≤acc.length)→(∀ p∈readG (acc++R),∃ t∈acc++R,p=(ky t,itOf t))∧(∀ t∈acc++R,∃ p∈readG (acc++R),p.1=ky t)∧(readG (acc++R)).length≤(acc++R).length from by
  have:=h L [] ⟨fun p hp=>(by cases hp),fun t ht=>(by cases ht),Nat.le_refl _⟩
  simpa using this
 intro R;induction R with
 | nil=>intro acc h;simpa using h
 | cons t R ih =>
  intro acc ⟨h1,h2,h3⟩
  have:=ih (acc++[t]) (by
   rw[jlr];unfold addG;split
   ·rename_i hb
    obtain⟨p,hp,e⟩:=List.any_eq_true.1 hb
    refine⟨fun p hp=>by obtain⟨x,hx,e⟩:=h1 p hp;exact⟨x,List.mem_append.2 (.inl hx),e⟩,fun x hx=>?_,by rw[List.length_append];exact Nat.le_trans h3 (Nat.le_add_right _ _)⟩
    rcases List.mem_append.1 hx with hx | hx
    ·exact h2 x hx
    ·simp only[List.mem_singleton]at hx;subst hx;exact⟨p,hp,(of_decide_eq_true e).symm⟩
   ·refine⟨fun p hp=>?_,fun x hx=>?_,by rw[List.length_append,List.length_append];exact Nat.add_le_add_right h3 1⟩
    ·rcases List.mem_append.1 hp with hp | hp
     ·obtain⟨x,hx,e⟩:=h1 p hp;exact⟨x,List.mem_append.2 (.inl hx),e⟩
     ·simp only[List.mem_singleton]at hp;subst hp;exact⟨t,by simp,rfl⟩
    ·rcases List.mem_append.1 hx with hx | hx
     ·obtain⟨p,hp,e⟩:=h2 x hx;exact⟨p,List.mem_append.2 (.inl hp),e⟩
     ·simp only[List.mem_singleton]at hx;subst hx;exact⟨(ky x,itOf x),by simp,rfl⟩)
  simpa using this
structure jnS(L:List ByteArray):Prop where
 node:∀ t∈L,∃ n,jbN t n
 shut:∀ t∈L,∀ h∈jaY (nodeOf t),∃ t'∈L,h=shaB t'
 few:L.length≤1000
theorem jix{L:List ByteArray}{G:List Nd5}(h:G.map kvI=readG L){t:ByteArray}(ht:t∈L):(atL G (shaB t).data.toList).isSome=true:=by
 obtain⟨p,hp,e⟩:=(jeU L).2.1 t ht
 rw[←h]at hp
 obtain⟨x,hx,rfl⟩:=List.mem_map.1 hp
 cases ha:atL G (shaB t).data.toList with
 | some y=>rfl
 | none=>exact absurd e.symm (jhp.1 ha x hx)
theorem jd5{L:List ByteArray}{G:List Nd5}(h:G.map kvI=readG L){x:Nd5}(hx:x∈G):∃ t∈L,x.1=ky t∧x.2.2=itOf t:=by
 obtain⟨t,ht,e⟩:=(jeU L).1 (kvI x) (by rw[←h];exact List.mem_map.2 ⟨x,hx,rfl⟩)
 exact⟨t,ht,congrArg Prod.fst e,congrArg Prod.snd e⟩
theorem jg5{L:List ByteArray}{G:List Nd5}(h:G.map kvI=readG L)(hL:jnS L):Shut G:=by
 refine⟨?_,fun y hy=>?_,fun y hy r hr=>?_⟩
 ·have:=(jeU L).2.2
  rw[←h,List.length_map]at this;exact Nat.le_trans this hL.few
 ·obtain⟨t,ht,_,e⟩:=jd5 h hy
  rw[e]
  obtain⟨n,hn⟩:=hL.node t ht
  exact jgd (jcc hn)
 ·obtain⟨t,ht,_,e⟩:=jd5 h hy
  rw[e]at hr
  obtain⟨t',ht',rfl⟩:=hL.shut t ht r hr
  exact jix h ht'
def putF(f:Nat)(v:Int)(it:It):It:=if f=2 then { it with used:=v }else { it with held:=v }
def setB(f c:Nat)(v:Int)(x:Nd5):Nd5:=if x.2.1=c then (x.1,x.2.1,putF f v x.2.2)else x
theorem joU(f c:Nat)(v:Int)(L:List Nd5):(L.map (setB f c v)).map kvN=L.map kvN:=by
 rw[List.map_map];refine List.map_congr_left (fun x _=>?_);simp only[Function.comp,setB];split <;> rfl
theorem joT(f c:Nat)(v:Int)(L:List Nd5):(L.map (setB f c v)).map (·.2.1)=L.map (·.2.1):=by
 rw[List.map_map];refine List.map_congr_left (fun x _=>?_);simp only[Function.comp,setB];split <;> rfl
theorem jct.setF{W:World}{bm:Nat}{L:List Nd5}(h:jct W bm L){c:Nat}{it:It}(hc:jdy W c it){f:Nat}(hf:f=2∨f=3)(v:Int):jct (W.setCell ⟨c,f,none⟩ (.int .i64 v)) bm (L.map (setB f c v)):=by
 obtain⟨rv,hcb,hcr⟩:=hc.cells
 have hK:jag (fun z=>z=c) W (W.setCell ⟨c,f,none⟩ (.int .i64 v)):=jag.oneSet W ⟨c,f,none⟩ _;have hN:jgH W (fun z=>z=c):=fun z cur fz e hz=>by
  have e:z=c:=e;subst e
  have:=hcb.uniq hz;injection this with _ h2;exact absurd h2 (by decide)
 obtain⟨es,ck,h1,h2⟩:=h.mp
 have hne:bm≠c:=fun e=>by subst e;have:=h1.uniq hcb;cases this
 refine⟨⟨es,ck,h1.keeps hK hne,by rw[joU];exact h2⟩,by rw[joT];exact h.blks,fun x hx=>?_⟩
 obtain⟨y,hy,rfl⟩:=List.mem_map.1 hx
 have hi:=h.items y hy;unfold setB;split
 ·rename_i e
  obtain⟨rw',hb,hr⟩:=hi.cells
  rw[e]at hb
  refine⟨rw',?_,?_⟩
  ·show Blk _ y.2.1 _
   rw[e];rcases hf with rfl | rfl
   ·exact hb.set_same (i:=2) _
   ·exact hb.set_same (i:=3) _
  ·have:=jeV hr hK hN
   rcases hf with rfl | rfl <;> exact this
 ·rename_i e
  exact hi.keeps hK e hN
end
section
open Go Go.RowKit
def HasS(S:List Nd5)(t:ByteArray):Prop:=∃ x,atL S (ky t)=some x∧x.2.2.text=t
structure HasM(S:List Nd5)(l:List Pair):Prop where
 ok:ja6 l=0
 has:∀ x∈jaF (ja5 l),HasS S x
def jjT(l:List Pair):Prop:=∀ p∈l,p.1.size≤9223372036854775807∧p.2.size≤9223372036854775807
abbrev Pair.k(p:Pair):List UInt8:=p.1.data.toList
def look(m:List Pair)(k:List UInt8):Option ByteArray:=(m.find? (fun p=>decide (k=p.k))).map (·.2)
theorem joy(k:List UInt8):look [] k=none:=rfl
theorem jdQ(q:Pair)(r:List Pair)(k:List UInt8):look (q :: r) k=if k=q.k then some q.2 else look r k:=by
 unfold look
 by_cases h:k=q.k <;> simp[List.find?_cons,h]
theorem jqc(a b:ByteArray):(a.toList == b.toList)=decide (b.data.toList=a.data.toList):=by
 rw[ByteArray.toList_eq,ByteArray.toList_eq]
 by_cases h:b.data.toList=a.data.toList
 ·rw[h];simp
 ·rw[decide_eq_false h,Bool.eq_false_iff];intro e;exact h (eq_of_beq e).symm
def Inf(v t:ByteArray):Prop:=v.data.toList <:+: t.data.toList
theorem Inf.trans{a b c:ByteArray}(h:Inf a b)(k:Inf b c):Inf a c:=List.IsInfix.trans h k
theorem Inf.rfl'(a:ByteArray):Inf a a:=List.infix_refl _
theorem jdB(a b:ByteArray):Inf b (a++b):=⟨a.data.toList,[],by rw[ByteArray.data_append,Array.toList_append,List.append_nil]⟩
theorem jkk(v:ByteArray):Inf v (jam v):=by
 unfold jam;split
 ·exact Inf.rfl' v
 ·exact jdB _ _
theorem jmH{x:ByteArray}:∀ {l:List ByteArray},x∈l→Inf x (catB l)
 | y :: l,h=>by
  rcases List.mem_cons.1 h with rfl | h
  ·refine⟨[],(l.map (·.data.toList)).flatten,?_⟩
   show _=x.data.toList++(l.map (·.data.toList)).flatten
   simp
  ·obtain⟨s,t,e⟩:=jmH h
   have e:s++x.data.toList++t=(l.map (·.data.toList)).flatten:=e
   refine⟨y.data.toList++s,t,?_⟩
   show _=y.data.toList++(l.map (·.data.toList)).flatten;rw[←e];simp
theorem jfG{x:ByteArray}{l:List ByteArray}(h:x∈l):Inf x (jaU l):=(jmH h).trans (jdB _ _)
theorem jdI.inf{f:Nat}{T:PT}{n:jac}(h:jdI f T n){v t:ByteArray}(ht:t∈jaF T)(hv:Inf v t):(∃ t∈jaM (jbW T),Inf v t)∨Inf v (refB T.text):=by
 by_cases hs:T.text.size < 32
 ·have hk:=h.small hs
  obtain⟨x,ks⟩:=T
  have hk:ks=[]:=hk;subst hk;unfold jaF jaM at ht;rw[List.mem_singleton]at ht;right;unfold refB;rw[if_pos hs, ←(show t=(PT.mk x []).text from ht)];exact hv
 ·left
  refine⟨t,?_,hv⟩
  unfold jbW;rw[if_neg hs,jbL]
  exact⟨T,List.mem_singleton.2 rfl,ht⟩
def jdC(l:List Pair):Nat→Nat
 | 0=>0
 | n+1=>jdC l n+(if (cutL n l).length=0 then 0 else 1)
theorem jfg(l:List Pair)(n:Nat):∀ d,jdC l n≤jdC l (n+d)
 | 0=>Nat.le_refl _
 | d+1=>by have:=jfg l n d;rw[show n+(d+1)=(n+d)+1 from rfl,jdC];omega
theorem jiM{l:List Pair}{i n:Nat}(h:(cutL i l).length≠0)(hi:i < n):1≤jdC l n:=by
 have:=jfg l (i+1) (n - (i+1))
 rw[show i+1+(n - (i+1))=n by omega,jdC,if_neg h]at this;omega
theorem jiN{l:List Pair}{i j n:Nat}(h:(cutL i l).length≠0)(hj:(cutL j l).length≠0)(hij:i < j)(hn:j < n):2≤jdC l n:=by
 have h1:=jiM h hij
 have:=jfg l (j+1) (n - (j+1))
 rw[show j+1+(n - (j+1))=n by omega,jdC,if_neg hj]at this;omega
theorem jmK(B:List Pair→PT)(l:List Pair)(hB:∀ i,(cutL i l).length≠0→(jaF (B (jax 1 (cutL i l)))).length+2≤3 * (cutL i l).length):∀ n,(jaM (ksK B l n)).length+2 * jdC l n≤3 * jcQ l n
 | 0=>by simp[ksK,jaM,jcQ,jdC]
 | n+1=>by
  rw[jfJ,jdq,List.length_append,jcQ,jdC]
  have:=jmK B l hB n
  by_cases h0:(cutL n l).length=0
  ·rw[if_pos h0,if_pos h0];simp[jaM];omega
  ·rw[if_neg h0,if_neg h0]
   have h1:=hB n h0;have h2:=jgg (B (jax 1 (cutL n l)));omega
theorem jmo{l:List Pair}(h:∃ p∈l,p.l=[])(n:Nat):jcQ l n+1≤l.length:=by
 obtain⟨p,hp,e⟩:=h
 induction l with
 | nil=>cases hp
 | cons q r ih =>
  rw[jep,List.length_cons];rcases List.mem_cons.1 hp with rfl | hp
  ·have:=jeE r n
   rw[e]
   have:hN [] n=0:=rfl
   omega
  ·have:=ih hp
   have:=jrt q.l n
   omega
theorem jpd{l:List Pair}{p:Pair}{x:UInt8}{r:List UInt8}(hp:p∈l)(hpx:p.l=x :: r):p∈cutL x.toNat l:=List.mem_filter.2 ⟨hp,by unfold jdR;rw[show p.1.data.toList=x :: r from hpx];simp⟩
theorem jjt{l:List Pair}{p:Pair}{x:UInt8}{r:List UInt8}(hp:p∈l)(hpx:p.l=x :: r):(cutL x.toNat l).length≠0:=fun h0=>by
 have:=jpd hp hpx
 rw[List.eq_nil_of_length_eq_zero h0]at this;cases this
theorem jj6{k:Nat}{l:List Pair}{p:Pair}(h:p∈l):∃ q∈jax k l,q.2=p.2:=⟨_,List.mem_map_of_mem h,rfl⟩
structure jpx(T:PT)(l:List Pair):Prop where
 all:(jaF T).length+2≤3 * l.length
 two:2≤l.length→comK l=0→(jaF T).length+3≤3 * l.length
 inf:∀ p∈l,∃ t∈jaF T,Inf p.2 t
theorem jki(f:Nat){l:List Pair}(h:l.length=1):jpx (jad (f+1) l) l:=by
 obtain⟨p,rfl⟩:=List.length_eq_one_iff.1 h
 have e:jaF (jad (f+1) [p])=[jiD ⟨1,p.1,p.2,jat 16⟩]:=by
  show jaF (.mk (jaH (jay (jad f) [p])) (jaE (jad f) [p]))=_;have h1:jay (jad f) [p]=⟨1,p.1,p.2,jat 16⟩:=rfl;have h2:jaE (jad f) [p]=[]:=rfl;rw[h1,h2];rfl
 refine⟨by rw[e];simp,fun h2=>by simp at h2,fun q hq=>?_⟩
 rw[List.mem_singleton]at hq;subst hq;rw[e]
 refine⟨_,List.mem_singleton.2 rfl,(jkk q.2).trans ?_⟩
 unfold jiD;exact jfG (by simp)
theorem grow:∀ (f:Nat) (l:List Pair),jaG f l→l≠[]→jpx (jad (f+1) l) l:=by
 intro f;induction f with
 | zero =>
  intro l h hn;have h0:l.length≠0:=fun e=>hn (List.eq_nil_of_length_eq_zero e);have hl:l.length≤1:=by
   rcases Nat.lt_or_ge l.length 2 with h2 | h2
   ·omega
   ·obtain⟨a,ha⟩:∃ a,l[0]?=some a:=⟨_,List.getElem?_eq_getElem (by omega)⟩
    obtain⟨b,hb⟩:∃ b,l[1]?=some b:=⟨_,List.getElem?_eq_getElem (by omega)⟩
    have hlt:=jb3 h.rise (by omega) ha hb
    have:=(h.size b (List.mem_of_getElem? hb)).1
    rw[show b.l=[]from List.eq_nil_of_length_eq_zero (by show b.1.size=0;omega)]at hlt;exact absurd hlt (jbc _)
  exact jki 0 (by omega)
 | succ f ih =>
  intro l h hn;have h0:l.length≠0:=fun e=>hn (List.eq_nil_of_length_eq_zero e)
  by_cases h1:l.length=1
  ·exact jki (f+1) h1
  have h2:2≤l.length:=by omega
  have hcom:=jbF h h2;have eT:jaF (jad (f+1+1) l)=jaH (jay (jad (f+1)) l) :: jaM (jaE (jad (f+1)) l):=by
   show jaF (.mk (jaH (jay (jad (f+1)) l)) (jaE (jad (f+1)) l))=_;rw[jaF]
  by_cases hk:0 < comK l
  ·have hok:jaG f (jax (comK l) l):=(jcA (comK l) h (fun p hp q hq=>(hcom p hp).1.trans (hcom q hq).1.symm) (fun p hp=>(hcom p hp).2)).mono (by omega)
   have hne:jax (comK l) l≠[]:=fun e=>by have:=jaP (comK l) l;rw[e]at this;simp at this;omega
   have hg:=ih _ hok hne
   obtain⟨_,i2,_⟩:=good f _ hok
   have hst:=i2 hne;have eB:jaE (jad (f+1)) l=jbW (jad (f+1) (jax (comK l) l)):=by
    unfold jaE;rw[if_neg (by omega),if_pos hk]
   have eN:jay (jad (f+1)) l=⟨2,(l.getD 0 pd).1.extract 0 (comK l),⟨#[]⟩,refB (jad (f+1) (jax (comK l) l)).text :: jat 15⟩:=by unfold jay;rw[if_neg h0,if_neg h1,if_pos hk]
   have hlen:=hg.two (by rw[jaP];omega) (jip (by omega));rw[jaP]at hlen;have hh:=jgg (jad (f+1) (jax (comK l) l))
   refine⟨by rw[eT,eB,List.length_cons];omega,fun _ hz=>by omega,fun p hp=>?_⟩
   obtain⟨q,hq,e2⟩:=jj6 (k:=comK l) hp
   obtain⟨t,ht,hv⟩:=hg.inf q hq
   rw[e2]at hv;rw[eT,eB];rcases hst.inf ht hv with⟨t',ht',hv'⟩ | hv'
   ·exact⟨t',List.mem_cons_of_mem _ ht',hv'⟩
   ·refine⟨_,List.mem_cons_self,hv'.trans ?_⟩
    have:jaH (jay (jad (f+1)) l)=extB (jay (jad (f+1)) l):=by rw[eN];rfl
    rw[this,eN];unfold extB;exact jfG (by simp)
  ·have hkid:∀ i,(cutL i l).length≠0→jax 1 (cutL i l)≠[]:=fun i hi e=>by have:=jaP 1 (cutL i l);rw[e]at this;simp at this;omega
   have hg:∀ i,(cutL i l).length≠0→jpx (jad (f+1) (jax 1 (cutL i l))) (jax 1 (cutL i l)):=fun i hi=>ih _ (jei i h) (hkid i hi);have hst:∀ i,(cutL i l).length≠0→jdI f (jad (f+1) (jax 1 (cutL i l))) (jay (jad f) (jax 1 (cutL i l))):=fun i hi=>(good f _ (jei i h)).2.1 (hkid i hi);have eB:jaE (jad (f+1)) l=ksK (jad (f+1)) l 16:=by
    unfold jaE;rw[if_neg (by omega),if_neg hk];rfl
   obtain⟨a,ha⟩:∃ a,l[0]?=some a:=⟨_,List.getElem?_eq_getElem (by omega)⟩
   obtain⟨b,hb⟩:∃ b,l[l.length - 1]?=some b:=⟨_,List.getElem?_eq_getElem (by omega)⟩
   have ga:l.getD 0 pd=a:=by rw[List.getD_eq_getElem?_getD,ha];rfl
   have gb:l.getD (l.length - 1) pd=b:=by rw[List.getD_eq_getElem?_getD,hb];rfl
   have ham:=List.mem_of_getElem? ha;have hbm:=List.mem_of_getElem? hb;have hlt:=jb3 h.rise (by omega) ha hb
   obtain⟨rs,hrs⟩:∃ rs,rs=(List.range 16).map fun i=>if (cutL i l).length=0 then (⟨#[]⟩:ByteArray)else refB (jad (f+1) (jax 1 (cutL i l))).text:=⟨_,rfl⟩
   have eN:jay (jad (f+1)) l=⟨3,⟨#[]⟩,if a.1.size=0 then a.2 else ⟨#[]⟩,rs⟩:=by unfold jay;rw[if_neg h0,if_neg h1,if_neg hk,ga,hrs]
   have hlen:(jaM (jaE (jad (f+1)) l)).length+4≤3 * l.length:=by
    rw[eB];have hks:=jmK (jad (f+1)) l (fun i hi=>by have:=(hg i hi).all;rwa [jaP]at this) 16;have hkc:ja4 a.l b.l=0:=by have:comK l=ja4 a.l b.l:=(by unfold comK jaX;rw[ga,gb]);omega
    cases hbl:b.l with
    | nil=>rw[hbl]at hlt;exact absurd hlt (jbc _)
    | cons y t =>
     have hy:=jde (h.size b hbm).2.2.1 hbl;have cb:=jjt hbm hbl;cases hal:a.l with
     | nil =>
      have:=jmo ⟨a,ham,hal⟩ 16
      have:=jiM cb hy
      omega
     | cons x r =>
      have hx:=jde (h.size a ham).2.2.1 hal;have ca:=jjt ham hal;have hxy:x≠y:=by
       intro e;rw[hal,hbl,e]at hkc;simp[ja4]at hkc
      have hne:x.toNat≠y.toNat:=fun e=>hxy (UInt8.toNat_inj.1 e)
      have:=jeE l 16
      have:2≤jdC l 16:=by
       rcases Nat.lt_or_ge x.toNat y.toNat with e | e
       ·exact jiN ca cb e hy
       ·exact jiN cb ca (by omega) hx
      omega
   refine⟨by rw[eT,List.length_cons];omega,fun _ _=>by rw[eT,List.length_cons];omega,fun p hp=>?_⟩
   have hnb:jaH (jay (jad (f+1)) l)=jcY (jay (jad (f+1)) l):=by rw[eN];rfl
   have hbx:jbv (jay (jad (f+1)) l)=jaR rs (if a.1.size=0 then a.2 else ⟨#[]⟩):=by
    rw[jcB _ (by rw[eN,hrs];simp),eN]
   cases hpl:p.l with
   | nil =>
    have hpa:p=a:=by
     obtain⟨i,hi⟩:=List.getElem?_of_mem hp
     by_cases h00:i=0
     ·subst h00;rw[ha]at hi;exact (Option.some.inj hi).symm
     ·have:=jb3 h.rise (by omega) ha hi
      rw[hpl]at this;exact absurd this (jbc _)
    subst hpa;have hz:p.1.size=0:=by show p.1.data.toList.length=0;rw[show p.1.data.toList=[]from hpl];rfl
    rw[eT]
    refine⟨_,List.mem_cons_self,(jkk p.2).trans ?_⟩
    rw[hnb];unfold jcY;rw[hbx,if_pos hz];refine jfG ?_;unfold jaR;simp
   | cons x r =>
    have hx:=jde (h.size p hp).2.2.1 hpl;have hc:=jjt hp hpl
    obtain⟨q,hq,e2⟩:=jj6 (k:=1) (jpd hp hpl)
    obtain⟨t,ht,hv⟩:=(hg _ hc).inf q hq
    rw[e2]at hv;rw[eT,eB];rcases (hst _ hc).inf ht hv with⟨t',ht',hv'⟩ | hv'
    ·refine⟨t',List.mem_cons_of_mem _ ?_,hv'⟩
     obtain⟨T',hT',hm'⟩:=jbL.1 ht'
     refine jbL.2 ⟨T',?_,hm'⟩;unfold ksK;refine List.mem_flatMap.2 ⟨x.toNat,List.mem_range.2 hx,?_⟩;rw[if_neg hc];exact hT'
    ·refine⟨_,List.mem_cons_self,hv'.trans ?_⟩
     rw[hnb];unfold jcY;rw[hbx];refine jfG ?_;unfold jaR;refine List.mem_append.2 (.inl ?_);have hrm:refB (jad (f+1) (jax 1 (cutL x.toNat l))).text∈rs:=by
      rw[hrs];refine List.mem_map.2 ⟨x.toNat,List.mem_range.2 hx,?_⟩;rw[if_neg hc]
     refine List.mem_map.2 ⟨_,hrm,?_⟩;rw[if_neg (hst _ hc).may.1.pos]
theorem jlC{l:List Pair}(h:ja6 l=0):(ja9 (jaF (ja5 l))).length≤1+3 * l.length∧∀ p∈l,∃ t∈ja9 (jaF (ja5 l)),Inf p.2 t:=by
 by_cases h0:l=[]
 ·subst h0
  refine⟨?_,by simp⟩
  have:=jg1 (jaF (ja5 []))
  have h1:=jkN (jbS h);simp at h1 ⊢;omega
 ·have hr:=jdu (jbS h)
  have hne:ja3 l≠[]:=fun e=>h0 (by unfold ja3 at e;simpa using e);have hg:=grow 12 (ja3 l) hr hne;have h2:(ja3 l).length=l.length:=by unfold ja3;rw[List.length_map]
  have h3:=hg.all;rw[h2]at h3;have h4:=jg1 (jaF (ja5 l));have h5:ja5 l=jad (12+1) (ja3 l):=rfl;rw[←h5]at h3
  refine⟨by omega,fun p hp=>?_⟩
  obtain⟨t,ht,hv⟩:=hg.inf _ (List.mem_map_of_mem hp)
  exact⟨t,(jbC _ _).2 ht,hv⟩
end
section
open Go Go.RowKit
attribute [local go_sem] Oper.semAt_some
def jeA(k:Key)(L:List Nd5):List Nd5:=L.map fun x=>if x.1=k then (x.1,x.2.1,putF 2 (x.2.2.used+1) x.2.2)else x
def jdF(T:List ByteArray)(L:List Nd5):List Nd5:=T.foldl (fun L r=>jeA r.data.toList L) L
theorem jk4(T:List ByteArray)(r:ByteArray)(L:List Nd5):jdF (T++[r]) L=jeA r.data.toList (jdF T L):=by unfold jdF;rw[List.foldl_append];rfl
theorem jk3(k:Key)(L:List Nd5):(jeA k L).map (·.1)=L.map (·.1):=by
 unfold jeA;rw[List.map_map];refine List.map_congr_left (fun x _=>?_);simp only[Function.comp];split <;> rfl
theorem jk2(k:Key)(L:List Nd5):(jeA k L).map (·.2.1)=L.map (·.2.1):=by
 unfold jeA;rw[List.map_map];refine List.map_congr_left (fun x _=>?_);simp only[Function.comp];split <;> rfl
theorem je8:∀ (T:List ByteArray) (L:List Nd5),(jdF T L).map (·.1)=L.map (·.1)
 | [],_=>rfl
 | r :: T,L=>by
  show (jdF T (jeA r.data.toList L)).map (·.1)=_;rw[je8 T,jk3]
theorem je7:∀ (T:List ByteArray) (L:List Nd5),(jdF T L).map (·.2.1)=L.map (·.2.1)
 | [],_=>rfl
 | r :: T,L=>by
  show (jdF T (jeA r.data.toList L)).map (·.2.1)=_;rw[je7 T,jk2]
theorem jho{A B:List Nd5}(h:A.map (·.1)=B.map (·.1))(k:Key):(atL A k).isSome=(atL B k).isSome:=by
 have e:∀ L:List Nd5,(atL L k).isSome=(L.map (·.1)).any (fun y=>decide (k=y)):=fun L=>by
  unfold atL;rw[List.isSome_find?,List.any_map];rfl
 rw[e,e,h]
theorem jgQ:∀ (T:List ByteArray) (L:List Nd5) (lo hi:Int),(∀ x∈L,lo≤x.2.2.used∧x.2.2.used≤hi)→∀ x∈jdF T L,lo≤x.2.2.used∧x.2.2.used≤hi+T.length
 | [],L,lo,hi,h=>fun x hx=>by have:=h x hx;simp;exact this
 | r :: T,L,lo,hi,h=>fun x hx=>by
  have:=jgQ T (jeA r.data.toList L) lo (hi+1) (fun y hy=>by
   obtain⟨z,hz,rfl⟩:=List.mem_map.1 hy
   have:=h z hz
   split
   ·simp only[putF,if_true];omega
   ·omega) x hx
  rw[List.length_cons];omega
def kvR(x:Nd5):Nat × ByteArray × List ByteArray:=(x.2.1,x.2.2.text,x.2.2.refs)
def Like(W:World)(bg:Nat)(G:List Nd5):Prop:=∃ G',jct W bg G'∧∀ k,(atL G' k).map kvR=(atL G k).map kvR
theorem jnW(f c:Nat)(v:Int)(L:List Nd5)(k:Key):atL (L.map (setB f c v)) k=(atL L k).map (setB f c v):=by
 unfold atL;rw[List.find?_map]
 congr 1
 refine congrFun (congrArg _ (funext fun x=>?_)) L;simp only[Function.comp,setB];split <;> rfl
theorem jov(f c:Nat)(v:Int)(x:Nd5):kvR (setB f c v x)=kvR x:=by
 unfold setB kvR putF
 by_cases e:x.2.1=c
 ·rw[if_pos e]
  by_cases e2:f=2
  ·rw[if_pos e2]
  ·rw[if_neg e2]
 ·rw[if_neg e]
theorem Like.setF{W:World}{bg:Nat}{G:List Nd5}(h:Like W bg G){c:Nat}{it:It}(hc:jdy W c it){f:Nat}(hf:f=2∨f=3)(v:Int):Like (W.setCell ⟨c,f,none⟩ (.int .i64 v)) bg G:=by
 obtain⟨G',h1,h2⟩:=h
 refine⟨_,h1.setF hc hf v,fun k=>?_⟩
 rw[jnW,Option.map_map, ←h2 k]
 congr 1
 funext x
 exact jov f c v x
theorem jns{W:World}{bm:Nat}{L:List Nd5}(h:jct W bm L){k:Key}{y:Nd5}(hy:atL L k=some y):L.map (setB 2 y.2.1 (y.2.2.used+1))=jeA k L:=by
 obtain⟨es,ck,_,h2⟩:=h.mp
 have hk:=h2.keys;rw[List.map_map]at hk;have hk:(L.map (·.1)).Nodup:=hk;unfold jeA;refine List.map_congr_left (fun x hx=>?_);unfold setB
 by_cases e:x.2.1=y.2.1
 ·have:x=y:=jbU h.blks hx (ja8 hy).1 e
  subst this;rw[if_pos rfl,if_pos (ja8 hy).2]
 ·rw[if_neg e,if_neg]
  intro e2
  have:x=y:=jbU hk hx (ja8 hy).1 (e2.trans (ja8 hy).2.symm)
  subst this;exact e rfl
structure Ad2(w5:World)(s bm bg:Nat)(room:Int)(S1 G:List Nd5)(F:List ByteArray)(v:Value)(T:List ByteArray)(W:World):Prop where
 kp:jag (fun z=>z∈S1.map (·.2.1)) w5 W
 st:jbo W s bm room (jdF T S1)
 gv:Like W bg G
 row:W.ownsRow 0 9 1 v F.length (F.map Value.string)
theorem Ad2.bump{w5:World}{s bm bg:Nat}{room:Int}{S1 G:List Nd5}{F:List ByteArray}{v:Value}{T:List ByteArray}{W:World}(h:Ad2 w5 s bm bg room S1 G F v T W)
  (hu:∀ x∈S1,0≤x.2.2.used∧x.2.2.used≤1000000000) (hT:T.length≤1000000) (r:ByteArray) (hr:(atL S1 r.data.toList).isSome=true) :
  ∃ (zb:Nat) (u:Int),(Instr.lookup 115 (.map (some bm)) (.string r) false).run Tryz.prog W=.ok (.pointer (some ⟨zb,0,none⟩)) W∧W.cell? ⟨zb,2,none⟩=some (.int .i64 u)∧W.frozen? ⟨zb,2,none⟩=false∧0≤u∧u≤2000000000 ∧
   Ad2 w5 s bm bg room S1 G F v (T++[r]) (W.setCell ⟨zb,2,none⟩ (.int .i64 (u+1)))∧∀ rv n xs,W.ownsRow 0 9 1 rv n xs→(W.setCell ⟨zb,2,none⟩ (.int .i64 (u+1))).ownsRow 0 9 1 rv n xs:=by
 have hs:(atL (jdF T S1) r.data.toList).isSome=true:=by rw[jho (je8 T S1)];exact hr
 obtain⟨y,hy⟩:=Option.isSome_iff_exists.1 hs
 have hym:=(ja8 hy).1;have hi:=h.st.mp.items y hym
 obtain⟨rv,hb,hrw⟩:=hi.cells
 have hlk:=h.st.mp.look r false;rw[hy]at hlk;simp only[Bool.false_eq_true,if_false]at hlk;have hK:jag (fun z=>z=y.2.1) W (W.setCell ⟨y.2.1,2,none⟩ (.int .i64 (y.2.2.used+1))):=jag.oneSet W ⟨y.2.1,2,none⟩ _;have hN:jgH W (fun z=>z=y.2.1):=fun z cur fz e hz=>by
  have e:z=y.2.1:=e;subst e
  have:=hb.uniq hz;injection this with _ h2;exact absurd h2 (by decide)
 have hyb:y.2.1∈S1.map (·.2.1):=by rw[←je7 T S1];exact List.mem_map.2 ⟨y,hym,rfl⟩
 have hub:=jgQ T S1 0 1000000000 hu y hym
 refine⟨y.2.1,y.2.2.used,hlk,hb.cell (i:=2) (by rfl),hb.frozen,hub.1,by omega,⟨h.kp.trans (hK.mono (fun z _ e=>by have e:z=_:=e;rw[e];exact hyb)),⟨h.st.st.keeps hK (fun e=>?_),?_⟩,h.gv.setF hi (.inl rfl) _,jeV h.row hK hN⟩,fun rv n xs hx=>jeV hx hK hN⟩
 ·have e:s=y.2.1:=e
  rw[e]at h
  have:=hb.uniq h.st.st;injection this with _ h2;exact absurd h2 (by decide)
 ·rw[jk4, ←jns h.st.mp hy]
  exact h.st.mp.setF hi (.inl rfl) _
def jim(k:Key)(L:List Nd5):List Nd5:=L.map fun x=>if x.1=k then (x.1,x.2.1,putF 3 (x.2.2.held+1) x.2.2)else x
theorem jlz{W:World}{bm:Nat}{L:List Nd5}(h:jct W bm L){k:Key}{y:Nd5}(hy:atL L k=some y):L.map (setB 3 y.2.1 (y.2.2.held+1))=jim k L:=by
 obtain⟨es,ck,_,h2⟩:=h.mp
 have hk:=h2.keys;rw[List.map_map]at hk;have hk:(L.map (·.1)).Nodup:=hk;unfold jim;refine List.map_congr_left (fun x hx=>?_);unfold setB
 by_cases e:x.2.1=y.2.1
 ·have:x=y:=jbU h.blks hx (ja8 hy).1 e
  subst this;rw[if_pos rfl,if_pos (ja8 hy).2]
 ·rw[if_neg e,if_neg]
  intro e2
  have:x=y:=jbU hk hx (ja8 hy).1 (e2.trans (ja8 hy).2.symm)
  subst this;exact e rfl
theorem jgP:∀ (T:List ByteArray) (L:List Nd5) (lo hi:Int),(∀ x∈L,lo≤x.2.2.held∧x.2.2.held≤hi)→∀ x∈jdF T L,lo≤x.2.2.held∧x.2.2.held≤hi
 | [],L,lo,hi,h=>fun x hx=>h x hx
 | r :: T,L,lo,hi,h=>fun x hx=>by
  refine jgP T (jeA r.data.toList L) lo hi (fun y hy=>?_) x hx
  obtain⟨z,hz,rfl⟩:=List.mem_map.1 hy
  have:=h z hz
  split
  ·simp only[putF,if_true];exact this
  ·exact this
theorem Ad2.hold{w5:World}{s bm bg:Nat}{room:Int}{S1 G:List Nd5}{F:List ByteArray}{v:Value}{T:List ByteArray}{W:World}(h:Ad2 w5 s bm bg room S1 G F v T W)
  (hu:∀ x∈S1,0≤x.2.2.held∧x.2.2.held≤1000000000) (r:ByteArray) (hr:(atL S1 r.data.toList).isSome=true) :
  ∃ (zb:Nat) (u:Int),(Instr.lookup 115 (.map (some bm)) (.string r) false).run Tryz.prog W=.ok (.pointer (some ⟨zb,0,none⟩)) W∧W.cell? ⟨zb,3,none⟩=some (.int .i64 u)∧W.frozen? ⟨zb,3,none⟩=false∧0≤u∧u≤1000000000 ∧
   jbo (W.setCell ⟨zb,3,none⟩ (.int .i64 (u+1))) s bm room (jim r.data.toList (jdF T S1))∧jag (fun z=>z∈S1.map (·.2.1)) w5 (W.setCell ⟨zb,3,none⟩ (.int .i64 (u+1))):=by
 have hs:(atL (jdF T S1) r.data.toList).isSome=true:=by rw[jho (je8 T S1)];exact hr
 obtain⟨y,hy⟩:=Option.isSome_iff_exists.1 hs
 have hym:=(ja8 hy).1;have hi:=h.st.mp.items y hym
 obtain⟨rv,hb,hrw⟩:=hi.cells
 have hlk:=h.st.mp.look r false;rw[hy]at hlk;simp only[Bool.false_eq_true,if_false]at hlk;have hK:jag (fun z=>z=y.2.1) W (W.setCell ⟨y.2.1,3,none⟩ (.int .i64 (y.2.2.held+1))):=jag.oneSet W ⟨y.2.1,3,none⟩ _;have hyb:y.2.1∈S1.map (·.2.1):=by rw[←je7 T S1];exact List.mem_map.2 ⟨y,hym,rfl⟩
 have hub:=jgP T S1 0 1000000000 hu y hym
 refine⟨y.2.1,y.2.2.held,hlk,hb.cell (i:=3) (by rfl),hb.frozen,hub.1,hub.2,⟨h.st.st.keeps hK (fun e=>?_),?_⟩,h.kp.trans (hK.mono (fun z _ e=>by have e:z=_:=e;rw[e];exact hyb))⟩
 ·have e:s=y.2.1:=e
  rw[e]at h
  have:=hb.uniq h.st.st;injection this with _ h2;exact absurd h2 (by decide)
 ·rw[←jlz h.st.mp hy]
  exact h.st.mp.setF hi (.inr rfl) _
def jb7(G:List Nd5)(F:List ByteArray):List Nd5:=F.filterMap fun x=>atL G x.data.toList
theorem jln{G:List Nd5}{F:List ByteArray}{i:Nat}{x:ByteArray}{y:Nd5}(hx:F[i]?=some x)(hy:atL G x.data.toList=some y):jb7 G (F.take (i+1))=jb7 G (F.take i)++[y]:=by
 unfold jb7;rw[List.take_add_one,hx,List.filterMap_append];simp[hy]
theorem jcs{G:List Nd5}{F:List ByteArray}{y:Nd5}(h:y∈jb7 G F):y∈G∧∃ x∈F,y.1=x.data.toList:=by
 obtain⟨x,hx,e⟩:=List.mem_filterMap.1 h
 exact⟨(ja8 e).1,x,hx,(ja8 e).2⟩
theorem jpM{A B:List Nd5}{k:Key}(h:∀ x∈B,k≠x.1):atL (A++B) k=atL A k:=by
 unfold atL;rw[List.find?_append]
 have:B.find? (fun x=>decide (k=x.1))=none:=by rw[List.find?_eq_none];simpa using h
 rw[this];simp
theorem jct.notRow{W:World}{bm:Nat}{L:List Nd5}(h:jct W bm L):jgH W (fun z=>z=bm):=fun z cur fz e hz=>by
 obtain⟨es,ck,h1,_⟩:=h.mp
 have e:z=bm:=e;subst e
 have:=h1.uniq hz;cases this
structure Ad1(w4:World)(s bm bg:Nat)(room:Int)(S G:List Nd5)(F:List ByteArray)(v:Value)(i:Nat)(W:World):Prop where
 kp:jag (fun z=>z=bm) w4 W
 st:jbo W s bm room (S++jb7 G (F.take i))
 gv:jct W bg G
 row:W.ownsRow 0 9 1 v F.length (F.map Value.string)
theorem Ad1.ext{w4:World}{s bm bg:Nat}{room:Int}{S G:List Nd5}{F:List ByteArray}{v:Value}{i:Nat}{W W':World}(h:Ad1 w4 s bm bg room S G F v i W)(e:Ext W W'):Ad1 w4 s bm bg room S G F v i W':=
 ⟨h.kp.trans (e.mono (fun _ _ g=>g.elim)),h.st.ext e,h.gv.ext e,jbx h.row e⟩
theorem Ad1.put{w4:World}{s bm bg:Nat}{room:Int}{S G:List Nd5}{F:List ByteArray}{v:Value}{i:Nat}{W:World}(h:Ad1 w4 s bm bg room S G F v i W)
  (hSG:∀ x∈S,∀ y∈G,x.2.1≠y.2.1) (hbg:bg≠bm) (hv:∀ z,v.ownBlock=some z→z≠bm) (hnd:F.Nodup) (hFS:∀ x∈F,atL S x.data.toList=none)
  {x:ByteArray} {y:Nd5} (hx:F[i]?=some x) (hy:atL G x.data.toList=some y) :
  ∃ o,(Instr.mapUpdate 115 (.map (some bm)) (.string x) (.pointer (some ⟨y.2.1,0,none⟩))).run Tryz.prog W=.ok () (W.putObj bm o)∧Ad1 w4 s bm bg room S G F v (i+1) (W.putObj bm o):=by
 have hk:∀ z∈jb7 G (F.take i),x.data.toList≠z.1:=fun z hz e=>by
  obtain⟨_,x',hx',e'⟩:=jcs hz
  have:=jjk (e.trans e')
  subst this;exact jll hnd hx hx'
 have hn:atL (S++jb7 G (F.take i)) x.data.toList=none:=by rw[jpM hk];exact hFS x (List.mem_of_getElem? hx)
 have hym:=(ja8 hy).1;have hy1:=(ja8 hy).2;have hblk:∀ z∈S++jb7 G (F.take i),z.2.1≠y.2.1:=fun z hz e=>by
  rcases List.mem_append.1 hz with hz | hz
  ·exact hSG z hz y hym e
  ·have:=jbU h.gv.blks (jcs hz).1 hym e
   subst this;exact hk z hz hy1.symm
 obtain⟨o,hmu,hA⟩:=h.st.mp.put x hn (h.gv.items y hym) hblk
 have hK:jag (fun z=>z=bm) W (W.putObj bm o):=jag.onePut W bm o;have hN:=h.st.mp.notRow;have hie:∀ {c:Nat} {it:It},jdy W c it→¬ c=bm:=fun hi e=>by
  obtain⟨_,hc,_⟩:=hi.cells
  obtain⟨es,ck,h1,_⟩:=h.st.mp.mp
  subst e
  have:=h1.uniq hc;cases this
 refine⟨o,hmu,h.kp.trans hK,⟨h.st.st.keeps hK (fun e=>?_),?_⟩,h.gv.keeps hK hbg (fun z hz=>hie (h.gv.items z hz)) hN,ja7 h.row hK (fun z hz e=>hv z hz e)⟩
 ·have e:s=bm:=e
  obtain⟨es,ck,h1,_⟩:=h.st.mp.mp
  subst e
  have:=h1.uniq h.st.st;cases this
 ·rw[jln hx hy, ←List.append_assoc]
  have e:(x.data.toList,y.2.1,y.2.2)=y:=by rw[←hy1]
  rw[e]at hA;exact hA
theorem jlW(A B:List Nd5)(k:Key):(atL (A++B) k).isSome=((atL A k).isSome ||(atL B k).isSome):=by
 unfold atL;rw[List.find?_append,Option.isSome_or]
theorem jnq{S G:List Nd5}{root:ByteArray}{M:List ByteArray}{i:Nat}(h:Path S G root M i){r:ByteArray}(hr:r∈M):(atL (S++jb7 G (frK S M)) r.data.toList).isSome=true:=by
 rw[jlW];cases hs:atL S r.data.toList with
 | some y=>rfl
 | none =>
  obtain⟨y,hy⟩:=Option.isSome_iff_exists.1 (h.inG r hr)
  have hm:y∈jb7 G (frK S M):=List.mem_filterMap.2 ⟨r,jeq.2 ⟨hr,hs⟩,hy⟩;cases hp:atL (jb7 G (frK S M)) r.data.toList with
  | some z=>rfl
  | none=>exact absurd (ja8 hy).2.symm (jhp.1 hp y hm)
def AdR2(w5:World)(s bm bg:Nat)(room:Int)(S1 G:List Nd5)(F:List ByteArray)(v iv:Value)(W:World):Prop:=∃ i:Nat,i≤F.length∧iv=.int .i64 i∧Ad2 w5 s bm bg room S1 G F v ((F.take i).flatMap (jci G)) W
def AdR3(w5:World)(s bm bg:Nat)(room:Int)(S1 G:List Nd5)(F:List ByteArray)(v:Value)(T R:List ByteArray)(rv jv:Value)(W:World):Prop:=∃ j:Nat,j≤R.length∧jv=.int .i64 j∧Ad2 w5 s bm bg room S1 G F v (T++R.take j) W∧W.ownsRow 0 9 1 rv R.length (R.map Value.string)
def AdR1(w4:World)(s bm bg:Nat)(room:Int)(S G:List Nd5)(F:List ByteArray)(v iv:Value)(W:World):Prop:=∃ i:Nat,i≤F.length∧iv=.int .i64 i∧Ad1 w4 s bm bg room S G F v i W
def jlF(w:World)(s bm:Nat)(room:Int)(S:List Nd5)(L:List ByteArray)(top:ByteArray)(e:Ending)(w':World):Prop:=
 ∃ (G:List Nd5) (M:List ByteArray),G.map kvI=readG L∧(∀ y∈G,w.heap.size≤y.2.1)∧Path S G (shaB top) M (frK S M).length ∧
  ((room - S.length < (frK S M).length∧e=.returned (.tuple #[.string ⟨#[]⟩,.int .i64 3])∧Ext w w') ∨
   (¬ room - S.length < (frK S M).length∧e=.returned (.tuple #[.string (shaB top),.int .i64 0]) ∧
   jbo w' s bm room (jim (shaB top).data.toList (jdF ((frK S M).flatMap (jci G)) (S++jb7 G (frK S M))))∧jag (fun z=>z=bm∨z∈S.map (·.2.1)) w w'))
theorem jss(w:World)(hc:jbO w)(s bm:Nat)(room:Int)(S:List Nd5)(h:jbo w s bm room S)(v:Value)(L:List ByteArray)(hv:RdS w v L)(hL:jnS L)(top:ByteArray)(htop:L[0]?=some top)(hr0:0≤room)(hr1:room≤9223372036854775807)(hS:S.length≤100000)(hSu:∀ x∈S,0≤x.2.2.used∧x.2.2.used≤1000000000)(hSh:∀ x∈S,0≤x.2.2.held∧x.2.2.held≤1000000000) :
  Calls Tryz.prog 27 #[.pointer (some ⟨s,0,none⟩),v] w (jlF w s bm room S L top):=by
 have h0:L≠[]:=fun e=>by subst e;cases htop
 have hpos:0 < L.length:=List.length_pos_iff.2 h0
 obtain⟨a,c,rfl,_⟩:=hv.slice
 have HR:=Hd (jqG w hc _ L hv hL.few h0 hL.node);have HC:=Hd hc;have HV:=Hd hv;have HL:=Hd hL;have HS:=Hd h;have HTOP:=Hd htop;have HSU:=Hd hSu;have HSHD:=Hd hSh;clear hc h hv hL htop h0 hSu hSh;go_enter Tryz.func27,Tryz.ntmps27;go_wp2_with fail
 refine HR.o.mono ?_;rintro e w1 ⟨bg,G,rfl,hG⟩
 obtain⟨ax,cx,hh,hcell⟩:=HV.o.slice
 obtain⟨ba,oa,hao,hqa⟩:=hcell 0 top HTOP.o
 subst hao;cases hh;have q1:=jab hqa hG.ext;have HG:=Hd hG;rw[Nat.add_zero]at q1;clear hcell hqa hG HR;go_wp2_with fail
 refine (of_t _ _ [top] (by simp) (jcL w1 [top] 9) (HC.o.ext (HG.o.ext.alloc _))).mono ?_;rintro e w2 ⟨rfl,hE⟩;rw[jcl];have hx2:=((ExtR w1).alloc (.cells #[.string top] 9)).trans hE;have HG2:=Hd (HG.o.keeps hx2)
 obtain⟨rt,hrt⟩:∃ rt,rt=shaB top:=⟨_,rfl⟩
 have HRT:=Hd hrt;have HTG:=Hd (show (atL G rt.data.toList).isSome=true by rw[hrt];exact jix HG.o.is (List.mem_of_getElem? HTOP.o));rw[←hrt];clear hE hx2 hrt q1;go_wp2_with fail
 have HSH:=Hd (jg5 HG2.o.is HL.o);have HS2:=Hd (HS.o.ext HG2.o.ext);refine (jne w2 s bm room S G bg HS2.o HG2.o.at' HSH.o rt HTG.o).mono ?_;rintro e w3 ⟨v3,n,M,rfl,hP,hF⟩;have hlen:=jjz (S:=S) hP.inG;have hfew:=HSH.o.few;have hn:(frK S M).length=n:=by have:=hF.len;simpa using this
 obtain⟨ad,cp,rfl⟩:=hF.sl
 have HP:=Hd hP;have HF:=Hd hF
 obtain⟨F,hFe⟩:∃ F,F=frK S M:=⟨_,rfl⟩
 rw[←hFe]at HF hn hlen;have HFE:=Hd hFe;have HGX:=Hd (HG2.o.keeps hF.ext);have HSX:=Hd (HS2.o.ext hF.ext);clear hP hF hFe;go_wp2_with fail
 refine (jqH w3 s bm room S HSX.o hr0 hr1 (by omega)).mono ?_;rintro e w4 ⟨rfl,hE⟩
 obtain⟨m,hm⟩:∃ m,m=room - (S.length:Int):=⟨_,rfl⟩
 rw[←hm];have HM:=Hd hm;have HE4:=Hd hE;clear hE hm
 by_cases hfull:m < (n:Int)
 ·go_wp2_with fail
  go_ret2
  refine⟨G,M,HG2.o.is,HG2.o.news,by rw[←HRT.o];exact HP.o,.inl ⟨by rw[←HFE.o,hn, ←HM.o];exact hfull,rfl,(HG2.o.ext.trans HF.o.ext).trans HE4.o⟩⟩
 ·have hA0:Ad1 w4 s bm bg room S G F (.slice ad n cp) 0 w4:=⟨jag.refl _ _,by rw[List.take_zero];show jbo w4 s bm room (S++[]);rw[List.append_nil];exact HSX.o.ext HE4.o,HGX.o.at'.ext HE4.o,by rw[hn];exact jbx HF.o.own HE4.o⟩
  have HA0:=Hd hA0;have hbm:=HS.o.mp.mp
  obtain⟨_,_,hbm,_⟩:=hbm
  have hbmlt:=hbm.lt;have HNE:=Hd (show ∀ z,(Value.slice ad n cp).ownBlock=some z→z≠bm from fun z hz e=>by have:=HF.o.new z hz;have:=HG2.o.ext.size;omega);have HBG:=Hd (show bg≠bm from fun e=>by have:=HG2.o.new;omega);have HSG:=Hd (show ∀ x∈S,∀ y∈G,x.2.1≠y.2.1 from fun x hx y hy e=>by have:=(HS.o.mp.items x hx).lt;have:=HG2.o.news y hy;omega);have HND:=Hd (show F.Nodup by rw[HFE.o];exact jiv S M);have HFS:=Hd (show ∀ x∈F,atL S x.data.toList=none from fun x hx=>by rw[HFE.o]at hx;exact (jeq.1 hx).2);have HFG:=Hd (show ∀ x∈F,(atL G x.data.toList).isSome=true from fun x hx=>by rw[HFE.o]at hx;exact HP.o.inG x (jeq.1 hx).1);have HST:=Hd (HS.o.st);subst hn;clear hA0 hbm;go_wp2_with fail
  rw[show decide (m < (F.length:Int))=false from decide_eq_false (Int.not_lt.2 hfull)];go_loopw [46] (fun iv wr=>AdR1 w4 s bm bg room S G F (.slice ad F.length cp) iv wr) (fun iv _=>F.length - (intOf iv).toNat)
  case atStart=>exact⟨0,Nat.zero_le _,rfl,HA0.o⟩
  case round =>
   obtain⟨i,hi,rfl,hA⟩:=hrel
   have HA:=Hd hA
   by_cases hlt:i < F.length
   ·have b1:(i:Int) < (F.length:Int):=by omega
    obtain⟨x,hx⟩:∃ x,F[i]?=some x:=⟨_,List.getElem?_eq_getElem hlt⟩
    obtain⟨ax,cx,hh,hcell⟩:=(jhb hA.row).slice
    obtain⟨ba2,oa2,hao,hqa⟩:=hcell i x hx
    subst hao;cases hh
    obtain⟨y,hy⟩:=Option.isSome_iff_exists.1 (HFG.o x (List.mem_of_getElem? hx))
    have Q1:=Hd (hA.st.st.cell (i:=1) (v:=.map (some bm)) (by rfl));have HGV:=Hd hA.gv;have HX:=Hd hx;have HY:=Hd hy
    obtain⟨yb,hyb⟩:∃ yb,yb=y.2.1:=⟨_,rfl⟩
    have HYB:=Hd hyb;clear hcell hx hy hA hyb;go_wp2_with fail
    refine jaw [0,1,2,3,4,5,6,7,8] [8] Ext ExtR ExtT (by kernel_rfl) (by kernel_rfl) (by kernel_rfl) ?_
    (refine jal _ rfl (by kernel_rfl) rfl rfl (fun K hK=>?_);go_big_quiet_op;refine hK _ ?_;clear hK K)
    refine jc1 _ (.pointer (some ⟨s,0,none⟩)) rfl (by kernel_rfl) rfl (fun w1=>by kernel_rfl) ?_;simp only[Act.put,sA,sB,sC]
    (refine jal _ rfl (by kernel_rfl) rfl rfl (fun K hK=>?_);go_big_quiet_op;refine hK _ ?_;clear hK K)
    refine jaI ⟨s,1,none⟩ _ rfl (by kernel_rfl) rfl rfl (fun w1 h1=>jaa Tryz.underlying115 rfl (jab Q1.o ((jas _).trans h1))) ?_;simp only[Act.put,sA,sB,sC];iterate 3 (refine jal _ rfl (by kernel_rfl) rfl rfl (fun K hK=>?_);go_big_quiet_op;refine hK _ ?_;clear hK K)
    refine jmS _ (.pointer (some ⟨yb,0,none⟩)) rfl (by kernel_rfl) rfl (fun w1 h1=>by
     have hx:=(HGV.o.ext ((jas _).trans h1)).look x false;rw[HY.o]at hx;unfold ptrO at hx;simp only[Bool.false_eq_true,if_false]at hx;rw[←HYB.o]at hx;simp[execOp,Act.eval,hx,Sem.run_bind,Result.andThen,Sem.run_pure]) ?_
    simp only[Act.put,sA,sB,sC];refine jbl _ rfl (by kernel_rfl) rfl (fun w5 he K hK=>?_);have hA5:=HA.o.ext ((jas _).trans he)
    obtain⟨ob,hmu,hA6⟩:=hA5.put HSG.o HBG.o HNE.o HND.o HFS.o HX.o HY.o
    rw[←HYB.o]at hmu;have HA6:=Hd hA6;clear hA5 hA6 he HA Q1 HGV hqa;go_simp;refine hK _ _ ?_;clear hK K;refine jbi (by kernel_rfl) (fun w7 he=>?_);have HA7:=Hd (HA6.o.ext he);clear he HA6 hmu;go_wp2_with fail
    go_roundw
    case rel=>exact⟨i+1,by omega,by go_num,HA7.o⟩
    case measure=>simp[intOf];omega
   ·have hie:i=F.length:=by omega
    subst hie
    obtain⟨S1,hS1⟩:∃ S1,S1=S++jb7 G F:=⟨_,rfl⟩
    have HS1:=Hd hS1;have HB0:=Hd (show Ad2 wr s bm bg room S1 G F (.slice ad F.length cp) [] wr from⟨jag.refl _ _,by have:=hA.st;rw[List.take_length]at this;rw[hS1];exact this,⟨G,hA.gv,fun k=>rfl⟩,hA.row⟩);have HU:=Hd (show ∀ x∈S1,0≤x.2.2.used∧x.2.2.used≤1000000000 from fun x hx=>by
     rw[hS1]at hx;rcases List.mem_append.1 hx with hx | hx
     ·exact HSU.o x hx
     ·obtain⟨t,ht,_,e⟩:=jd5 HG2.o.is (jcs hx).1
      rw[e];exact⟨Int.le_refl _,by show (0:Int)≤1000000000;decide⟩)
    have HR1:=Hd (show ∀ r∈F.flatMap (jci G),(atL S1 r.data.toList).isSome=true from fun r hr=>by
     rw[hS1,HFE.o];refine jnq HP.o ?_
     have:=HP.o.is
     rw[List.take_length, ←HFE.o]at this;rw[this];exact List.mem_cons_of_mem _ hr)
    obtain⟨w5,hw5⟩:∃ w5,w5=wr:=⟨_,rfl⟩
    rw[←hw5]at HB0;have HB0:=Hd (show Ad2 w5 s bm bg room S1 G F (.slice ad F.length cp) [] wr by rw[←hw5];exact HB0.o);have HA1:=Hd (show jag (fun z=>z=bm) w4 w5 by rw[hw5];exact hA.kp);clear HA0 hA HA hS1 hw5;go_wp2_with fail
    go_loopw [61] (fun iv wr=>AdR2 w5 s bm bg room S1 G F (.slice ad F.length cp) iv wr) (fun iv _=>F.length - (intOf iv).toNat)
    case atStart=>exact⟨0,Nat.zero_le _,rfl,HB0.o⟩
    case round =>
     obtain⟨i,hi2,rfl,hA⟩:=hrel
     by_cases hlt2:i < F.length
     ·have b1:(i:Int) < (F.length:Int):=by omega
      obtain⟨x,hx⟩:∃ x,F[i]?=some x:=⟨_,List.getElem?_eq_getElem hlt2⟩
      obtain⟨ax,cx,hh,hcell⟩:=(jhb hA.row).slice
      obtain⟨ba2,oa2,hao,hqa⟩:=hcell i x hx
      subst hao;cases hh
      obtain⟨y,hy⟩:=Option.isSome_iff_exists.1 (HFG.o x (List.mem_of_getElem? hx))
      obtain⟨G',hG1,hG2⟩:=hA.gv
      have hk:=hG2 x.data.toList;rw[hy]at hk
      obtain⟨y',hy',hk⟩:=Option.map_eq_some_iff.1 hk
      have hlk:=hG1.look x false;rw[hy']at hlk;unfold ptrO at hlk;simp only[Bool.false_eq_true,if_false]at hlk
      obtain⟨rv,hIb,hIr⟩:=(hG1.items y' (ja8 hy').1).cells
      have hyr:y'.2.2.refs=jci G x:=by rw[jd7 hy];exact congrArg (fun z=>z.2.2) hk
      obtain⟨R,hR⟩:∃ R,R=jci G x:=⟨_,rfl⟩
      rw[hyr, ←hR]at hIr
      obtain⟨ar,cr,rfl⟩:=ja1 hIr
      have qr:=hIb.cell (i:=1) (v:=.slice ar R.length cr) (by rfl)
      obtain⟨T,hT⟩:∃ T,T=(F.take i).flatMap (jci G):=⟨_,rfl⟩
      have HT1:=Hd (show (F.take (i+1)).flatMap (jci G)=T++R by rw[List.take_add_one,hx,List.flatMap_append,hT,hR];simp);have HTL:=Hd (show T.length≤16000 by
       have:=jeI HSH.o (F.take i)
       rw[hT];rw[List.length_take]at this;omega)
      have HRL:=Hd (show R.length≤16 by rw[hR,jd7 hy];exact HSH.o.refs y (ja8 hy).1);have HRR:=Hd (show ∀ r∈R,(atL S1 r.data.toList).isSome=true from fun r hr=>HR1.o r (List.mem_flatMap.2 ⟨x,List.mem_of_getElem? hx,by rw[←hR];exact hr⟩));rw[←hT]at hA;have HA3:=Hd (show AdR3 w5 s bm bg room S1 G F (.slice (some ⟨ba2,oa2,none⟩) F.length cp) T R (.slice ar R.length cr) (.int .i64 0) wr from⟨0,Nat.zero_le _,rfl,by rw[List.take_zero,List.append_nil];exact hA,hIr⟩)
      obtain⟨yb,hyb⟩:∃ yb,yb=y'.2.1:=⟨_,rfl⟩
      rw[←hyb]at hlk qr;clear hcell hx hy hG1 hG2 hk hy' hIb hIr hyr hR hT hA hyb;go_wp2_with fail
      go_loopw [72] (fun jv wr2=>AdR3 w5 s bm bg room S1 G F (.slice (some ⟨ba2,oa2,none⟩) F.length cp) T R (.slice ar R.length cr) jv wr2) (fun jv _=>R.length - (intOf jv).toNat)
      case atStart=>exact HA3.o
      case round =>
       obtain⟨j,hj,rfl,hB,hrw⟩:=hrel
       by_cases hlt3:j < R.length
       ·have b2:(j:Int) < (R.length:Int):=by omega
        obtain⟨z,hz⟩:∃ z,R[j]?=some z:=⟨_,List.getElem?_eq_getElem hlt3⟩
        obtain⟨ax3,cx3,hh3,hcell3⟩:=(jhb hrw).slice
        obtain⟨ba3,oa3,hao3,hqa3⟩:=hcell3 j z hz
        subst hao3;cases hh3;have qs:=hB.st.st.cell (i:=1) (v:=.map (some bm)) (by rfl)
        obtain⟨zb,u,hlk3,qu,fu,hu0,hu1,hB2,hrow2⟩:=hB.bump HU.o (by have:=HTL.o;have:=HRL.o;rw[List.length_append,List.length_take];omega) z (HRR.o z (List.mem_of_getElem? hz))
        have hrl:=HRL.o;have hw1 : -9223372036854775808≤u+1:=by omega
        have hw2:u+1≤9223372036854775807:=by omega
        have HB2:=Hd (And.intro (show Ad2 w5 s bm bg room S1 G F (.slice (some ⟨ba2,oa2,none⟩) F.length cp) (T++R.take (j+1)) _ by rw[List.take_add_one,hz, ←List.append_assoc];exact hB2) (hrow2 _ _ _ hrw));clear hcell3 hz hB hrw hB2 hrow2 hlk qr;go_wp2_with fail
        go_roundw
        case rel=>exact⟨j+1,by omega,by go_num,HB2.o.1,HB2.o.2⟩
        case measure=>simp[intOf];omega
       ·have hje:j=R.length:=by omega
        subst hje;rw[List.take_length, ←HT1.o]at hB;have HB4:=Hd hB;clear hB hrw HA3 hlk qr;go_wp2_with fail
        go_roundw
        case rel=>exact⟨i+1,by omega,by go_num,HB4.o⟩
        case measure=>simp[intOf];omega
     ·have hie2:i=F.length:=by omega
      subst hie2;rw[List.take_length]at hA;have HB5:=Hd hA;have hroot:(atL S1 rt.data.toList).isSome=true:=by
       rw[HS1.o,HFE.o];exact jnq HP.o (by rw[HP.o.is];exact List.mem_cons_self)
      have HHD:=Hd (show ∀ x∈S1,0≤x.2.2.held∧x.2.2.held≤1000000000 from fun x hx=>by
       rw[HS1.o]at hx;rcases List.mem_append.1 hx with hx | hx
       ·exact HSHD.o x hx
       ·obtain⟨t,ht,_,e⟩:=jd5 HG2.o.is (jcs hx).1
        rw[e];exact⟨Int.le_refl _,by show (0:Int)≤1000000000;decide⟩)
      have qs:=hA.st.st.cell (i:=1) (v:=.map (some bm)) (by rfl)
      obtain⟨zb,u,hlk3,qu,fu,hu0,hu1,hSE,hKE⟩:=hA.hold HHD.o rt hroot
      have hw1 : -9223372036854775808≤u+1:=by omega
      have hw2:u+1≤9223372036854775807:=by omega
      have HSE:=Hd hSE;have HKE:=Hd (((HG2.o.ext.trans HF.o.ext).trans HE4.o).mono (G:=fun z=>z=bm∨z∈S.map (·.2.1)) (fun _ _ g=>g.elim));have HK5:=Hd hKE;have HKA:=Hd HA1.o;clear hA HB0 HA1 hSE hKE hroot;go_wp2_with fail
      go_ret2
      refine⟨G,M,HG2.o.is,HG2.o.news,by rw[←HRT.o];exact HP.o,.inr ⟨by rw[←HFE.o, ←HM.o];exact Int.not_lt.2 hfull,by rw[HRT.o];rfl,?_,?_⟩⟩
      ·rw[←HFE.o, ←HS1.o, ←HRT.o];exact HSE.o
      ·refine (jag.trans' (F:=fun z=>z=bm∨z∈S.map (·.2.1)) HKE.o HKA.o (fun z hz e=>.inl e)).trans' HK5.o (fun z hz e=>?_)
       rw[HS1.o,List.map_append]at e;rcases List.mem_append.1 e with e | e
       ·exact .inr e
       ·obtain⟨y,hy,rfl⟩:=List.mem_map.1 e
        have:=HG2.o.news y (jcs hy).1
        omega
def InjL(l:List ByteArray):Prop:=∀ x∈l,∀ y∈l,shaB x=shaB y→x=y
theorem InjL.step{L:List ByteArray}{i:Nat}{t:ByteArray}(h:InjL (L.take i))(ht:L[i]?=some t)(hs:∀ x∈L.take i,shaB x=shaB t→x=t):InjL (L.take (i+1)):=by
 intro x hx y hy e;rw[List.take_add_one,ht]at hx hy;rcases List.mem_append.1 hx with h1 | h1 <;> rcases List.mem_append.1 hy with h2 | h2
 ·exact h x h1 y h2 e
 ·simp at h2;subst h2;exact hs x h1 e
 ·simp at h1;subst h1;exact (hs y h2 e.symm).symm
 ·simp at h1 h2;rw[h1,h2]
def ApR1(w:World)(L:List ByteArray)(hv iv:Value)(W:World):Prop:=∃ i:Nat,i≤L.length∧iv=.int .i64 i∧SRow w W hv i ((L.take i).map shaB)∧InjL (L.take i)
def ApR2(w4:World)(L:List ByteArray)(t:ByteArray)(i:Nat)(kv:Value)(W:World):Prop:=∃ k:Nat,k≤i∧kv=.int .i64 k∧Ext w4 W∧∀ x∈L.take k,shaB x=shaB t→x=t
def ApP(L:List ByteArray)(w:World)(e:Ending)(w':World):Prop:=∃ b,e=.returned (.bool b)∧(b=true↔InjL L)∧Ext w w'
theorem jlU(w:World)(hc:jbO w)(v:Value)(L:List ByteArray)(hv:RdS w v L)(hl:L.length≤1000000):Calls Tryz.prog 31 #[v] w (ApP L w):=by
 obtain⟨a,c,rfl,_⟩:=hv.slice
 have HV:=Hd hv;have HC:=Hd hc;clear hv hc;go_enter Tryz.func31,Tryz.ntmps31;go_wp2_with fail
 go_loopw [3,4] (fun hv iv wr=>ApR1 w L hv iv wr) (fun _ iv _=>L.length - (intOf iv).toNat)
 case atStart=>exact⟨0,Nat.zero_le _,rfl,ORow.nil _ _ (ExtR w),fun x hx=>by cases hx⟩
 case round =>
  obtain⟨i,hi,rfl,hR,hI⟩:=hrel
  obtain⟨ah,ch,rfl⟩:=hR.sl
  have HR:=Hd hR;have HI:=Hd hI;clear hR hI
  by_cases hlt:i < L.length
  ·have b1:(i:Int) < (L.length:Int):=by omega
   obtain⟨t,ht⟩:∃ t,L[i]?=some t:=⟨_,List.getElem?_eq_getElem hlt⟩
   obtain⟨ax,cx,hh,hcell⟩:=HV.o.slice
   obtain⟨ba,oa,hao,hqa⟩:=hcell i t ht
   subst hao;cases hh;have q1:=jab hqa HR.o.ext;have HT:=Hd ht;have HQT:=Hd hqa;have HCL:=Hd (show ∀ (j:Nat) x,L[j]?=some x→w.cell? ⟨ba,oa+j,none⟩=some (.string x)from fun j x hx=>by
    obtain⟨b',o',e,h⟩:=hcell j x hx
    cases e;exact h)
   clear hcell hqa ht;go_wp2_with fail
   refine (of_t _ _ [t] (by simp) (jcL wr [t] 9) (HC.o.ext (HR.o.ext.alloc _))).mono ?_;rintro e w4 ⟨rfl,hE⟩;rw[jcl];have hx4:=((ExtR wr).alloc (.cells #[.string t] 9)).trans hE;have HR4:=Hd (HR.o.mono hx4);have HX4:=Hd (HR.o.ext.trans hx4)
   obtain⟨sh,hsh⟩:∃ sh,sh=shaB t:=⟨_,rfl⟩
   have HSH:=Hd hsh;rw[←hsh];clear hE hx4 hsh q1 HR;go_wp2_with fail
   go_loopw [6] (fun kv wr2=>ApR2 w4 L t i kv wr2) (fun kv _=>i - (intOf kv).toNat)
   case atStart=>exact⟨0,Nat.zero_le _,rfl,ExtR w4,fun x hx=>by cases hx⟩
   case round =>
    obtain⟨k,hk,rfl,hE,hs⟩:=hrel
    have HE:=Hd hE;have HS:=Hd hs;clear hE hs
    by_cases hlt2:k < i
    ·have b2:(k:Int) < (i:Int):=by omega
     have b3:(k:Int) < (L.length:Int):=by omega
     obtain⟨x,hx⟩:∃ x,L[k]?=some x:=⟨_,List.getElem?_eq_getElem (by omega)⟩
     have hxm:((L.take i).map shaB)[k]?=some (shaB x):=by rw[List.getElem?_map,List.getElem?_take,if_pos hlt2,hx];rfl
     have hrd:=jhb HR4.o.own;have hq2:∃ bh oh,ah=some ⟨bh,oh,none⟩∧w4.cell? ⟨bh,oh+k,none⟩=some (.string (shaB x)):=by
      rcases hrd with⟨_,_,_,h0⟩ |⟨bq,oq,cq,hh,_,_,hcell⟩
      ·rw[h0]at hxm;cases hxm
      ·exact⟨bq,oq,(Value.slice.inj hh).1,hcell k _ hxm⟩
     obtain⟨bh,oh,rfl,hq2⟩:=hq2
     obtain⟨sx,hsx⟩:∃ sx,sx=shaB x:=⟨_,rfl⟩
     rw[←hsx]at hq2;have HSX:=Hd hsx;have Q1:=Hd (jab hq2 HE.o);have Q2:=Hd (jab (HCL.o k x hx) (HX4.o.trans HE.o));have Q3:=Hd (jab HQT.o (HX4.o.trans HE.o));have HX:=Hd hx;clear hx hxm hrd hq2 hsx;go_wp2_with fail
     refine jan [0,1,2,3,4,5,6,7,8,9,10,11,12,13,14,15,16] Ext ExtR ExtT (by kernel_rfl) (by kernel_rfl) (by kernel_rfl) ?_;iterate 3 (refine jae _ rfl (by kernel_rfl) rfl rfl (fun K hK=>?_);go_big_quiet_op;refine hK _ ?_;clear hK K)
     refine jak ⟨bh,oh+k,none⟩ _ rfl (by kernel_rfl) rfl rfl (fun w1 h1=>jaa Tryz.underlying9 rfl (jab Q1.o ((jas _).trans h1))) ?_;simp only[Act.put,sA,sB,sC];iterate 3 (refine jae _ rfl (by kernel_rfl) rfl rfl (fun K hK=>?_);go_big_quiet_op;refine hK _ ?_;clear hK K)
     cases hq:(sx.toList == sh.toList)with
     | false =>
      have HN:=Hd (show shaB x=shaB t→x=t from fun e=>by
       rw[←HSX.o, ←HSH.o]at e;rw[e]at hq;simp at hq)
      clear hq;iterate 9 (refine jbu _ rfl (by kernel_rfl) rfl ?_;simp only[Act.put,sA,sB,sC])
      (refine jae _ rfl (by kernel_rfl) rfl rfl (fun K hK=>?_);go_big_quiet_op;refine hK _ ?_;clear hK K)
      refine jaJ (by kernel_rfl) (fun w5 he=>?_);have HE5:=Hd (HE.o.trans ((jas _).trans he));have HS5:=Hd (show ∀ z∈L.take (k+1),shaB z=shaB t→z=t from fun z hz e=>by
       rw[List.take_add_one,HX.o]at hz;rcases List.mem_append.1 hz with h1 | h1
       ·exact HS.o z h1 e
       ·simp at h1;subst h1;exact HN.o e)
      clear he Q1 Q2 Q3 HE HS;go_wp2_with fail
      go_roundw
      case rel=>exact⟨k+1,by omega,by go_num,HE5.o,HS5.o⟩
      case measure=>simp[intOf];omega
     | true =>
      have HSQ:=Hd (show shaB x=shaB t by rw[←HSX.o, ←HSH.o];exact jcj (by simpa using hq));clear hq;iterate 3 (refine jae _ rfl (by kernel_rfl) rfl rfl (fun K hK=>?_);go_big_quiet_op;refine hK _ ?_;clear hK K)
      refine jak ⟨ba,oa+k,none⟩ _ rfl (by kernel_rfl) rfl rfl (fun w1 h1=>jaa Tryz.underlying9 rfl (jab Q2.o ((jas _).trans h1))) ?_;simp only[Act.put,sA,sB,sC];iterate 3 (refine jae _ rfl (by kernel_rfl) rfl rfl (fun K hK=>?_);go_big_quiet_op;refine hK _ ?_;clear hK K)
      refine jak ⟨ba,oa+i,none⟩ _ rfl (by kernel_rfl) rfl rfl (fun w1 h1=>jaa Tryz.underlying9 rfl (jab Q3.o ((jas _).trans h1))) ?_;simp only[Act.put,sA,sB,sC]
      (refine jae _ rfl (by kernel_rfl) rfl rfl (fun K hK=>?_);go_big_quiet_op;refine hK _ ?_;clear hK K)
      cases hq2:(x.toList == t.toList)with
      | true =>
       have HN:=Hd (show x=t from jcj (by simpa using hq2));have hb:(!true)=false:=rfl;clear hq2;rw[hb]
       (refine jae _ rfl (by kernel_rfl) rfl rfl (fun K hK=>?_);go_big_quiet_op;refine hK _ ?_;clear hK K)
       refine jaJ (by kernel_rfl) (fun w5 he=>?_);have HE5:=Hd (HE.o.trans ((jas _).trans he));have HS5:=Hd (show ∀ z∈L.take (k+1),shaB z=shaB t→z=t from fun z hz e=>by
        rw[List.take_add_one,HX.o]at hz;rcases List.mem_append.1 hz with h1 | h1
        ·exact HS.o z h1 e
        ·simp at h1;subst h1;exact HN.o)
       clear he Q1 Q2 Q3 HE HS hb;go_wp2_with fail
       go_roundw
       case rel=>exact⟨k+1,by omega,by go_num,HE5.o,HS5.o⟩
       case measure=>simp[intOf];omega
      | false =>
       have hb:(!false)=true:=rfl;have HNE:=Hd (show ¬ InjL L from fun h=>by
        have:=h x (List.mem_of_getElem? HX.o) t (List.mem_of_getElem? HT.o) HSQ.o
        rw[this]at hq2;simp at hq2)
       clear hq2;rw[hb]
       (refine jae _ rfl (by kernel_rfl) rfl rfl (fun K hK=>?_);go_big_quiet_op;refine hK _ ?_;clear hK K)
       refine jaJ (by kernel_rfl) (fun w5 he=>?_);have HE5:=Hd (HE.o.trans ((jas _).trans he));clear he Q1 Q2 Q3 HE HS hb;go_wp2_with fail
       go_ret
       exact⟨false,rfl,⟨fun e=>(by cases e),fun h=>absurd h HNE.o⟩,HX4.o.trans HE5.o⟩
    ·have hki:k=i:=by omega
     subst hki;have HIS:=Hd (HI.o.step HT.o HS.o);have HRR:=Hd (HR4.o.mono HE.o);have HMS:=Hd (show (L.take (k+1)).map shaB=(L.take k).map shaB++[sh] by rw[List.take_add_one,HT.o,List.map_append,HSH.o];rfl);have hm1:k+1≤maxLen:=by unfold maxLen;omega
     have hm2:(k+1) * 16≤140737488355328:=by omega
     clear HS HI HE HR4;go_wp2_with (at_builtin;refine jbr Tryz.sStrs (HRR.o.mono ((ExtR wr).alloc _)) (.tmp 41) (.tmp 43) rfl rfl rfl (jbg (Blk.new wr _)) (news:=[.string sh]) (by intro u hu;simp at hu;rcases hu with rfl;rfl) rfl rfl hm1 hm2 ?_;intro v' w' r1 r2 r3)
     have r1':SRow w w' v' (k+1) ((L.take (k+1)).map shaB):=by unfold SRow;rw[HMS.o,List.map_append];exact r1
     obtain⟨ah',ch',rfl⟩:=r1'.sl
     have HR9:=Hd r1';clear r1 r2 r3 r1';go_wp2_with fail
     go_roundw
     case rel=>exact⟨k+1,by omega,by go_num,HR9.o,HIS.o⟩
     case measure=>simp[intOf];omega
  ·have hie:i=L.length:=by omega
   have HIL:=Hd (show InjL L by have:=HI.o;rwa [hie,List.take_length]at this);clear HI;go_wp2_with fail
   go_ret
   exact⟨true,rfl,⟨fun _=>HIL.o,fun _=>rfl⟩,HR.o.ext⟩
end
section
open Go Go.RowKit
def cK(T:List ByteArray)(k:Key):Nat:=(T.map (·.data.toList)).count k
theorem jpc(A B:List ByteArray)(k:Key):cK (A++B) k=cK A k+cK B k:=by unfold cK;rw[List.map_append,List.count_append]
theorem jl9(r:ByteArray)(B:List ByteArray)(k:Key):cK (r :: B) k=cK B k+(if k=r.data.toList then 1 else 0):=by
 unfold cK;rw[List.map_cons,List.count_cons]
 by_cases h:k=r.data.toList
 ·rw[if_pos h,h];simp
 ·rw[if_neg h,if_neg];simpa using fun e=>h e.symm
theorem jma{T:List ByteArray}{k:Key}(h:∀ r∈T,r.data.toList≠k):cK T k=0:=by
 unfold cK;rw[List.count_eq_zero];intro hm
 obtain⟨r,hr,e⟩:=List.mem_map.1 hm
 exact h r hr e
def addU(n:Nat)(x:Nd5):Nd5:=(x.1,x.2.1,⟨x.2.2.text,x.2.2.refs,x.2.2.used+n,x.2.2.held⟩)
def addH(n:Nat)(x:Nd5):Nd5:=(x.1,x.2.1,⟨x.2.2.text,x.2.2.refs,x.2.2.used,x.2.2.held+n⟩)
theorem jj0:∀ (T:List ByteArray) (L:List Nd5),jdF T L=L.map fun x=>addU (cK T x.1) x
 | [],L=>by
  show L=_
  have:(fun x:Nd5=>addU (cK [] x.1) x)=id:=by
   funext x
   obtain⟨a,b,⟨t,r,u,h⟩⟩:=x
   unfold addU cK;simp
  rw[this,List.map_id]
 | r :: T,L=>by
  show jdF T (jeA r.data.toList L)=_;rw[jj0 T,jeA,List.map_map];refine List.map_congr_left fun x _=>?_;show addU (cK T (if x.1=r.data.toList then (x.1,x.2.1,putF 2 (x.2.2.used+1) x.2.2)else x).1) (if x.1=r.data.toList then (x.1,x.2.1,putF 2 (x.2.2.used+1) x.2.2)else x)=_;rw[jl9]
  by_cases h:x.1=r.data.toList
  ·simp only[if_pos h]
   unfold addU putF;simp only[if_true];rw[show x.2.2.used+1+((cK T x.1:Nat):Int)=x.2.2.used+((cK T x.1+1:Nat):Int) by omega]
  ·simp only[if_neg h,Nat.add_zero]
theorem jn6(r:ByteArray)(L:List Nd5):jim r.data.toList L=L.map fun x=>addH (cK [r] x.1) x:=by
 unfold jim;refine List.map_congr_left fun x _=>?_;rw[jl9]
 by_cases h:x.1=r.data.toList
 ·rw[if_pos h,if_pos h];rfl
 ·rw[if_neg h,if_neg h]
  obtain⟨a,b,⟨t,r,u,h⟩⟩:=x
  unfold addH cK;simp
def jl0(T:List ByteArray)(r:ByteArray)(x:Nd5):Nd5:=addH (cK [r] x.1) (addU (cK T x.1) x)
theorem jpN(T:List ByteArray)(r:ByteArray)(L:List Nd5):jim r.data.toList (jdF T L)=L.map (jl0 T r):=by
 rw[jn6,jj0,List.map_map];rfl
theorem jl1(T:List ByteArray)(r:ByteArray)(L:List Nd5):(L.map (jl0 T r)).map (·.1)=L.map (·.1):=by
 rw[List.map_map];rfl
theorem jl2(T:List ByteArray)(r:ByteArray)(L:List Nd5):(L.map (jl0 T r)).flatMap (fun y=>y.2.2.refs)=L.flatMap (fun y=>y.2.2.refs):=by
 rw[List.flatMap_map];rfl
theorem jhd(G:List Nd5):∀ F:List ByteArray,F.flatMap (jci G)=(jb7 G F).flatMap (fun y=>y.2.2.refs)
 | []=>rfl
 | x :: F=>by
  have ih:=jhd G F;unfold jb7 at *;rw[List.flatMap_cons,List.filterMap_cons];cases h:atL G x.data.toList with
  | none=>rw[ih];unfold jci;rw[h];rfl
  | some y=>rw[ih,jd7 h,List.flatMap_cons]
theorem jjB{S:List Nd5}{k:Key}:(atL S k).isSome=true↔k∈S.map (·.1):=by
 constructor
 ·intro h
  obtain⟨y,hy⟩:=Option.isSome_iff_exists.1 h
  exact List.mem_map.2 ⟨y,(ja8 hy).1,(ja8 hy).2⟩
 ·intro h
  obtain⟨y,hy,e⟩:=List.mem_map.1 h
  cases ha:atL S k with
  | some z=>rfl
  | none=>exact absurd e.symm (jhp.1 ha y hy)
structure SInv(U H:List ByteArray)(S:List Nd5):Prop where
 is:∀ x∈S,∃ t∈U,x.1=ky t∧x.2.2.text=t∧x.2.2.refs=jaY (nodeOf t)
 shut:∀ x∈S,∀ r∈x.2.2.refs,(atL S r.data.toList).isSome=true
 used:∀ x∈S,x.2.2.used=(cK (S.flatMap fun y=>y.2.2.refs) x.1:Nat)
 held:∀ x∈S,x.2.2.held=(cK H x.1:Nat)
 hin:∀ h∈H,(atL S h.data.toList).isSome=true
theorem SInv.none(U:List ByteArray):SInv U [] []:=⟨by simp,by simp,by simp,by simp,by simp⟩
def jq7(L:List ByteArray)(top:ByteArray):Prop:=∀ P:ByteArray→Prop,(∀ t∈L,P (shaB t)→∀ h∈jaY (nodeOf t),P h)→P (shaB top)→∀ t∈L,P (shaB t)
theorem jph{U:List ByteArray}(hU:InjL U){s t:ByteArray}(hs:s∈U)(ht:t∈U)(h:ky s=ky t):s=t:=hU s hs t ht (jjk h)
def addS(S G:List Nd5)(M:List ByteArray)(top:ByteArray):List Nd5:=jim (shaB top).data.toList (jdF ((frK S M).flatMap (jci G)) (S++jb7 G (frK S M)))
theorem je4(S G:List Nd5)(M:List ByteArray)(top:ByteArray):addS S G M top=(S++jb7 G (frK S M)).map (jl0 ((frK S M).flatMap (jci G)) (shaB top)):=jpN _ _ _
theorem jjU(S G:List Nd5)(M:List ByteArray)(top:ByteArray)(L:List ByteArray)(hG:G.map kvI=readG L)(hin:∀ x∈M,(atL G x.data.toList).isSome=true) :
  (addS S G M top).length=S.length+(frK S M).length∧(frK S M).length≤L.length:=by
 have h1:=jjz (S:=S) hin;have h2:G.length≤L.length:=by
  have:=(jeU L).2.2
  rw[←hG,List.length_map]at this;exact this
 refine⟨?_,Nat.le_trans h1 h2⟩
 rw[je4,List.length_map,List.length_append]
 have:∀ F:List ByteArray,(∀ x∈F,(atL G x.data.toList).isSome=true)→(jb7 G F).length=F.length:=fun F=>by
  induction F with
  | nil=>intro _;rfl
  | cons x F ih =>
   intro h
   obtain⟨y,hy⟩:=Option.isSome_iff_exists.1 (h x List.mem_cons_self)
   have:=ih fun z hz=>h z (List.mem_cons_of_mem _ hz)
   unfold jb7 at *;rw[List.filterMap_cons,hy,List.length_cons,List.length_cons,this]
 rw[this _ fun x hx=>hin x (jeq.1 hx).1]
theorem jpJ{U H:List ByteArray}{S G:List Nd5}{L M:List ByteArray}{top:ByteArray}(hU:InjL U)(hS:SInv U H S)(hLU:∀ t∈L,t∈U)(hG:G.map kvI=readG L)
  (hP:Path S G (shaB top) M (frK S M).length) (hR:jq7 L top) (htop:top∈L) :
  SInv U (H++[shaB top]) (addS S G M top)∧∀ k,k∈(addS S G M top).map (·.1)↔k∈S.map (·.1)∨∃ t∈L,k=ky t:=by
 obtain⟨F,hF⟩:∃ F,F=frK S M:=⟨_,rfl⟩
 obtain⟨T,hT⟩:∃ T,T=F.flatMap (jci G):=⟨_,rfl⟩
 have hM:M=shaB top :: T:=by
  have:=hP.is
  rw[List.take_length, ←hF, ←hT]at this;exact this
 have hTp:T=(jb7 G F).flatMap (fun y=>y.2.2.refs):=by rw[hT,jhd]
 have h1:∀ r∈M,(atL (S++jb7 G F) r.data.toList).isSome=true:=fun r hr=>by rw[hF];exact jnq hP hr
 have hpick:∀ x∈jb7 G F,x∈G∧(∃ t∈L,x.1=ky t∧x.2.2=itOf t)∧atL S x.1=none:=fun x hx=>by
  obtain⟨h1,z,hz,e⟩:=jcs hx
  refine⟨h1,jd5 hG h1,?_⟩
  rw[hF]at hz;rw[e];exact (jeq.1 hz).2
 have hnot:∀ x∈jb7 G F,∀ r:ByteArray,(atL S r.data.toList).isSome=true→r.data.toList≠x.1:=fun x hx r hr e=>by
  rw[e,(hpick x hx).2.2]at hr;cases hr
 have hkeys:(addS S G M top).map (·.1)=(S++jb7 G F).map (·.1):=by rw[je4, ←hF,jl1]
 have hrefs:(addS S G M top).flatMap (fun y=>y.2.2.refs)=S.flatMap (fun y=>y.2.2.refs)++T:=by
  rw[je4, ←hF,jl2,List.flatMap_append, ←hTp]
 have hat:∀ k,(atL (addS S G M top) k).isSome=(atL (S++jb7 G F) k).isSome:=fun k=>jho hkeys k;have hsh:∀ x∈S++jb7 G F,∀ r∈x.2.2.refs,(atL (S++jb7 G F) r.data.toList).isSome=true:=fun x hx r hr=>by
  rcases List.mem_append.1 hx with hx | hx
  ·rw[jlW,hS.shut x hx r hr];rfl
  ·refine h1 r ?_
   rw[hM,hTp];exact List.mem_cons_of_mem _ (List.mem_flatMap.2 ⟨x,hx,hr⟩)
 have hmem:∀ x'∈addS S G M top,∃ x∈S++jb7 G F,x'=jl0 T (shaB top) x:=fun x' hx=>by
  rw[je4, ←hF, ←hT]at hx
  obtain⟨x,hx,e⟩:=List.mem_map.1 hx
  exact⟨x,hx,e.symm⟩
 have his:∀ x∈S++jb7 G F,∃ t∈U,x.1=ky t∧x.2.2.text=t∧x.2.2.refs=jaY (nodeOf t):=fun x hx=>by
  rcases List.mem_append.1 hx with hx | hx
  ·exact hS.is x hx
  ·obtain⟨t,ht,e1,e2⟩:=(hpick x hx).2.1
   exact⟨t,hLU t ht,e1,by rw[e2];rfl,by rw[e2];rfl⟩
 refine⟨⟨fun x' hx'=>?_,fun x' hx' r hr=>?_,fun x' hx'=>?_,fun x' hx'=>?_,fun h hh=>?_⟩,fun k=>?_⟩
 ·obtain⟨x,hx,rfl⟩:=hmem x' hx'
  exact his x hx
 ·obtain⟨x,hx,rfl⟩:=hmem x' hx'
  rw[hat];exact hsh x hx r hr
 ·obtain⟨x,hx,rfl⟩:=hmem x' hx'
  rw[hrefs,jpc];show x.2.2.used+((cK T x.1:Nat):Int)=((cK _ x.1+cK T x.1:Nat):Int);rcases List.mem_append.1 hx with hx | hx
  ·rw[hS.used x hx];omega
  ·obtain⟨t,ht,e1,e2⟩:=(hpick x hx).2.1
   rw[e2,jma (T:=S.flatMap fun y=>y.2.2.refs) fun r hr=>?_]
   ·show (0:Int)+_=_;omega
   ·obtain⟨y,hy,hr⟩:=List.mem_flatMap.1 hr
    exact hnot x hx r (hS.shut y hy r hr)
 ·obtain⟨x,hx,rfl⟩:=hmem x' hx'
  rw[jpc];show x.2.2.held+((cK [shaB top] x.1:Nat):Int)=((cK H x.1+cK [shaB top] x.1:Nat):Int);rcases List.mem_append.1 hx with hx | hx
  ·rw[hS.held x hx];omega
  ·obtain⟨t,ht,e1,e2⟩:=(hpick x hx).2.1
   rw[e2,jma (T:=H) fun r hr=>hnot x hx r (hS.hin r hr)];show (0:Int)+_=_;omega
 ·rw[hat]
  rcases List.mem_append.1 hh with hh | hh
  ·rw[jlW,hS.hin h hh];rfl
  ·rw[List.mem_singleton]at hh
   subst hh;exact h1 _ (by rw[hM];exact List.mem_cons_self)
 ·rw[hkeys,List.map_append,List.mem_append]
  constructor
  ·rintro (h | h)
   ·exact .inl h
   ·obtain⟨x,hx,e⟩:=List.mem_map.1 h
    obtain⟨t,ht,e1,_⟩:=(hpick x hx).2.1
    exact .inr ⟨t,ht,e.symm.trans e1⟩
  ·rintro (h |⟨t,ht,rfl⟩)
   ·exact .inl h
   ·rw[←List.mem_append, ←List.map_append, ←jjB]
    refine hR (fun h=>(atL (S++jb7 G F) h.data.toList).isSome=true) (fun t ht h r hr=>?_) (h1 _ (by rw[hM];exact List.mem_cons_self)) t ht
    obtain⟨x,hx⟩:=Option.isSome_iff_exists.1 h
    obtain⟨m1,m2⟩:=ja8 hx
    obtain⟨t',ht',e1,_,e3⟩:=his x m1
    have:t'=t:=jph hU ht' (hLU t ht) (e1.symm.trans m2)
    subst this;exact hsh x m1 r (by rw[e3];exact hr)
theorem SInv.text{U H:List ByteArray}{S:List Nd5}(hU:InjL U)(h:SInv U H S){t:ByteArray}(ht:t∈U)(hk:ky t∈S.map (·.1)):∃ x,atL S (ky t)=some x∧x∈S∧x.2.2.text=t∧x.2.2.refs=jaY (nodeOf t):=by
 obtain⟨x,hx⟩:=Option.isSome_iff_exists.1 (jjB.2 hk)
 obtain⟨x1,x2⟩:=ja8 hx
 obtain⟨t',ht',e1,e2,e3⟩:=h.is x x1
 have:t'=t:=jph hU ht' ht (e1.symm.trans x2)
 subst this
 exact⟨x,hx,x1,e2,e3⟩
theorem jsJ(w:World)(P:ByteArray→Prop):∀ (f:Nat) (l:List Pair),jaG f l→(∀ t∈jaF (jad (f+1) l),P (shaB t)→∀ h∈jaY (nodeOf t),P h)→P (shaB (jaH (jay (jad f) l)))→∀ t∈jaF (jad (f+1) l),P (shaB t):=by
 intro f;induction f with
 | zero =>
  intro l h _ h0 t ht;have e2:jaE (jad 0) l=[]:=by have:=jeW h;unfold jaE;rw[if_pos (by omega)]
  have eT:jaF (jad (0+1) l)=[jaH (jay (jad 0) l)]:=by
   show jaF (.mk (jaH (jay (jad 0) l)) (jaE (jad 0) l))=_;rw[jaF,e2];simp[jaM]
  rw[eT,List.mem_singleton]at ht;subst ht;exact h0
 | succ f ih =>
  intro l h hcl h0 t ht;have eT:jaF (jad (f+1+1) l)=jaH (jay (jad (f+1)) l) :: jaM (jaE (jad (f+1)) l):=by
   show jaF (.mk (jaH (jay (jad (f+1)) l)) (jaE (jad (f+1)) l))=_;rw[jaF]
  have hh:=jdN (f+1) l h;have hroot:jbN (jaH (jay (jad (f+1)) l)) (jay (jad (f+1)) l):=⟨rfl,f+1,(good (f+1) l h).1⟩;rw[eT]at ht;rcases List.mem_cons.1 ht with rfl | ht
  ·exact h0
  obtain⟨K,hK,ht⟩:=jbL.1 ht
  obtain⟨g,m,eg,e,h1,h32⟩:=jig h hK
  obtain rfl:f=g:=by omega
  subst e;have hsub:∀ t∈jaF (jad (f+1) m),t∈jaF (jad (f+1+1) l):=fun t ht=>by
   rw[eT];exact List.mem_cons_of_mem _ (jbL.2 ⟨_,hK,ht⟩)
  refine ih m h1 (fun t ht=>hcl t (hsub t ht)) ?_ t ht;refine hcl _ (by rw[eT];exact List.mem_cons_self) h0 _ ?_;rw[jdd w (jcc hroot) hroot,hh];exact List.mem_map.2 ⟨_,hK,rfl⟩
theorem joO(w:World){l:List Pair}(h:ja6 l=0):jq7 (ja9 (jaF (ja5 l))) (ja5 l).text:=fun P h1 h2 t ht =>
 jsJ w P 12 (ja3 l) (jdu (jbS h)) (fun t ht=>h1 t ((jbC _ _).2 ht)) h2 t ((jbC _ _).1 ht)
theorem jhj(w:World){l:List Pair}(h:ja6 l=0)(hl:(ja9 (jaF (ja5 l))).length≤1000):jnS (ja9 (jaF (ja5 l))):=
 ⟨fun t ht=>by obtain⟨n,h1,_⟩:=(jo4 h).node t ht;exact⟨n,h1⟩,
  fun t ht x hx=>by
  obtain⟨n,h1,h2⟩:=(jo4 h).node t ht
  rw[jdd w (jcc h1) h1]at hx;exact h2 x hx,hl⟩
theorem jjj{S G:List Nd5}{M:List ByteArray}{top:ByteArray}{n:Int}(hS:∀ x∈S,0≤x.2.2.used∧x.2.2.used≤n∧0≤x.2.2.held∧x.2.2.held≤n)(hn:0≤n){L:List ByteArray}(hG:G.map kvI=readG L)(hsh:Shut G)(hin:∀ x∈M,(atL G x.data.toList).isSome=true) :
  ∀ x∈addS S G M top,0≤x.2.2.used∧x.2.2.used≤n+16 * L.length+1∧0≤x.2.2.held∧x.2.2.held≤n+16 * L.length+1:=by
 intro x' hx';rw[je4]at hx'
 obtain⟨x,hx,rfl⟩:=List.mem_map.1 hx'
 have hT:cK ((frK S M).flatMap (jci G)) x.1≤16 * L.length:=by
  have h1:=jeI hsh (frK S M);have h2:=(jjU S G M top L hG hin).2;have h3:cK ((frK S M).flatMap (jci G)) x.1≤((frK S M).flatMap (jci G)).length:=by
   unfold cK
   have:=List.count_le_length (l:=((frK S M).flatMap (jci G)).map (·.data.toList)) (a:=x.1)
   rwa [List.length_map]at this
  omega
 have hH:cK [shaB top] x.1≤1:=by
  unfold cK;exact List.count_le_length (l:=[shaB top].map (·.data.toList)) (a:=x.1)
 have hb:0≤x.2.2.used∧x.2.2.used≤n∧0≤x.2.2.held∧x.2.2.held≤n:=by
  rcases List.mem_append.1 hx with hx | hx
  ·exact hS x hx
  ·obtain⟨t,_,_,e⟩:=jd5 hG (jcs hx).1
   rw[e];exact⟨Int.le_refl _,hn,Int.le_refl _,hn⟩
 refine⟨?_,?_,?_,?_⟩
 ·show (0:Int)≤x.2.2.used+((cK _ x.1:Nat):Int);omega
 ·show x.2.2.used+((cK ((frK S M).flatMap (jci G)) x.1:Nat):Int)≤_;omega
 ·show (0:Int)≤x.2.2.held+((cK _ x.1:Nat):Int);omega
 ·show x.2.2.held+((cK [shaB top] x.1:Nat):Int)≤_;omega
end
section
open Go Go.RowKit
attribute [local go_sem] Oper.semAt_some
def jcf(l:List Pair):List ByteArray:=ja9 (jaF (ja5 l))
theorem jd9{l:List Pair}(h:ja6 l=0):(jcf l).length≤121:=by
 have h1:=(jlC h).1;have h2:=(jbS h).len;show (ja9 (jaF (ja5 l))).length≤_;omega
def jqX(l:List Pair)(w:World)(e:Ending)(w':World):Prop:=e=.returned (.tuple #[.pointer none,.string ⟨#[]⟩])∧Ext w w'∧¬(fewB l=true∧ja6 l=0∧InjL (jcf l))
structure jqW(z:Nat)(room:Int)(l:List Pair)(s bm:Nat)(S:List Nd5)(w':World):Prop where
 st:jbo w' s bm room S
 hasM:HasM S l
 key:∀ k,k∈S.map (·.1)↔∃ t∈jcf l,k=ky t
 bnew:z≤bm
 snew:z≤s
 new:∀ x∈S,z≤x.2.1
 bd:∀ x∈S,0≤x.2.2.used∧x.2.2.used≤3201∧0≤x.2.2.held∧x.2.2.held≤3201
 len:S.length≤121
 inv:∀ U,InjL U→(∀ t∈jcf l,t∈U)→SInv U [shaB (ja5 l).text] S
def jnR(l:List Pair)(w:World)(e:Ending)(w':World):Prop:=∃ s bm S,e=.returned (.tuple #[.pointer (some ⟨s,0,none⟩),.string (shaB (ja5 l).text)])∧Ext w w'∧jqW w.heap.size 2000 l s bm S w'∧fewB l=true∧InjL (jcf l)
def jqY(l:List Pair)(w:World)(e:Ending)(w':World):Prop:=jqX l w e w'∨jnR l w e w'
theorem jkW{w2 w':World}{s bm z:Nat}{room:Int}{l:List Pair}(W0:World)(hi:InjL (jcf l))(h:ja6 l=0)(hroom:200≤room)(hz:z≤w2.heap.size)(hb:z≤bm)(hsz:z≤s){e:Ending}(hp:jlF w2 s bm room [] (jcf l) (ja5 l).text e w') :
  ∃ S,e=.returned (.tuple #[.string (shaB (ja5 l).text),.int .i64 0])∧jag (fun z=>z=bm) w2 w'∧jqW z room l s bm S w':=by
 obtain⟨G,M,hG,hnew,hP,hc⟩:=hp
 obtain⟨l1,l2⟩:=jjU [] G M (ja5 l).text (jcf l) hG hP.inG
 have h3:=jd9 h;rcases hc with⟨h1,_⟩ |⟨_,he,hS,hK⟩
 ·simp at h1;omega
 ·have hin:=(jo4 h).head
  have hmem:(ja5 l).text∈jcf l:=List.mem_of_getElem? hin;have key:=fun(U:List ByteArray) (hU:InjL U) (hLU:∀ t∈jcf l,t∈U)=>jpJ (U:=U) (H:=[]) (S:=[]) hU (SInv.none _) hLU hG hP (joO W0 h) hmem
  obtain⟨hI,hk⟩:=key _ hi (fun t ht=>ht)
  have hbd:=jjj (S:=[]) (M:=M) (top:=(ja5 l).text) (n:=0) (by simp) (Int.le_refl 0) hG (jg5 hG (jhj W0 h (by have:=h3;exact Nat.le_trans this (by decide)))) hP.inG;have hS:jbo w' s bm room (addS [] G M (ja5 l).text):=hS
  refine⟨addS [] G M (ja5 l).text,he,hK.mono (fun z _ e=>e.elim id (fun e=>by simp at e)),⟨hS,⟨h,fun x hx=>?_⟩,fun k=>?_,hb,hsz,fun x hx=>?_,fun x hx=>?_,?_,fun U hU hLU=>(key U hU hLU).1⟩⟩
  ·have hx':x∈jcf l:=(jbC _ _).2 hx
   obtain⟨y,y1,_,y3,_⟩:=hI.text hi hx' ((hk _).2 (.inr ⟨x,hx',rfl⟩))
   exact⟨y,y1,y3⟩
  ·rw[hk k];simp
  ·rw[je4]at hx
   obtain⟨y,hy,rfl⟩:=List.mem_map.1 hx
   show z≤y.2.1;rw[List.nil_append]at hy;exact Nat.le_trans hz (hnew y (jcs hy).1)
  ·have:=hbd x hx;omega
  ·rw[l1];simp;omega
theorem jiC(w:World)(hc:jbO w)(v:Value)(l:List Pair)(hv:RdP w v l)(hn:l.length≤9223372036854775807)(hs:jjT l) :
  Calls Tryz.prog 16 #[v] w (jqY l w):=by
 have HC:=Hd hc;have HV:=Hd hv;have HS:=Hd hs;have HN:=Hd hn
 obtain⟨a,c,hsl⟩:=hv.sl
 subst hsl;clear hc hv hs hn;go_enter Tryz.func16,Tryz.ntmps16;go_wp2_with fail
 refine (jrp w _ l HV.o HN.o HS.o).mono ?_;rintro e w2 ⟨rfl,hE⟩;have HE2:=Hd hE;clear hE
 obtain⟨fw,hfw⟩:∃ fw,fw=fewB l:=⟨_,rfl⟩
 have HFW:=Hd hfw;rw[←hfw];clear hfw
 by_cases hcl:ja6 l=0
 case neg =>
  go_wp2_with fail
  refine (jmZ w2 _ l (HV.o.ext HE2.o) HN.o HS.o hcl).mono ?_;rintro e w3 ⟨rfl,hE⟩;have HE3:=Hd (HE2.o.trans hE);have HNO:=Hd hcl
  obtain⟨x,hx⟩:∃ x,x=ja6 l:=⟨_,rfl⟩
  rw[←hx]at hcl ⊢;have hne:(x == 0)=false:=by simpa using hcl
  have hne2:(x != 0)=true:=by simpa using hcl
  clear hcl hx hE HE2;go_wp2_with fail
  refine (jpp w3 2000).mono ?_;rintro e w4 ⟨s,bm,rfl,hE,_,_,_,_⟩;have HE4:=Hd (HE3.o.trans hE);clear hE HE3;go_wp2_with fail
  refine (jlU w4 (HC.o.ext HE4.o) _ [] (.inl ⟨none,0,rfl,rfl⟩) (by simp)).mono ?_;rintro e w5 ⟨b,rfl,_,hE⟩;have HE5:=Hd (HE4.o.trans hE);clear hE HE4;cases fw with
  | false =>
   go_wp2_with fail
   go_ret2;exact .inl ⟨rfl,HE5.o,fun h=>HNO.o h.2.1⟩
  | true =>
   go_wp2_with fail
   go_ret2;exact .inl ⟨rfl,HE5.o,fun h=>HNO.o h.2.1⟩
 have HCL:=Hd hcl;clear hcl;go_wp2_with fail
 refine (jkq w2 _ l (HC.o.ext HE2.o) (HV.o.ext HE2.o) HCL.o).mono ?_;rintro e w3 ⟨u3,n3,rfl,hR⟩;have hR:SRow w2 w3 u3 n3 (jcf l):=hR
 obtain⟨L,hL⟩:∃ L,L=jcf l:=⟨_,rfl⟩
 have hlen:=jd9 HCL.o;have HTL:=Hd hL;rw[←hL]at hR hlen;have hln:L.length=n3:=by have:=hR.len;simpa using this
 have hrd:=hR.rd
 obtain⟨a3,c3,e3⟩:=hR.sl
 have HE3:=Hd (HE2.o.trans hR.ext);subst e3;have HL3:=Hd hrd;subst hln;clear hR hrd HE2 hL;go_wp2_with fail
 refine (jpp w3 2000).mono ?_;rintro e w4 ⟨s,bm,rfl,hE,hS,hb1,hb2,hb3⟩;have HE4:=Hd (HE3.o.trans hE);have HZ:=Hd (And.intro HE3.o.size (And.intro hb1 hb2));have HS4:=Hd (show jbo w4 s bm 2000 []from hS);have HL4:=Hd (HL3.o.ext hE);clear hE hS HE3 HL3 hb1 hb2 hb3;go_wp2_with fail
 refine (jlU w4 (HC.o.ext HE4.o) _ L HL4.o (by omega)).mono ?_;rintro e w5 ⟨b,rfl,hb,hE⟩;have HE5:=Hd (HE4.o.trans hE);have HS5:=Hd (HS4.o.ext hE);have HL5:=Hd (HL4.o.ext hE);have HB:=Hd hb;clear hE HE4 HS4 HL4 hb;cases fw with
 | false =>
  go_wp2_with fail
  go_ret2;exact .inl ⟨rfl,HE5.o,fun h=>by have:=HFW.o;rw[h.1]at this;cases this⟩
 | true =>
  cases b with
  | false =>
   go_wp2_with fail
   go_ret2;refine .inl ⟨rfl,HE5.o,fun h=>?_⟩
   have:=HB.o.2 (by rw[HTL.o];exact h.2.2)
   cases this
  | true =>
   have HI:=Hd (show InjL (jcf l) by rw[←HTL.o];exact HB.o.1 rfl);have HSH:=Hd (show jnS L by rw[HTL.o];exact jhj w HCL.o (by have:=jd9 HCL.o;exact Nat.le_trans this (by decide)));have HTP:=Hd (show L[0]?=some (ja5 l).text by rw[HTL.o];exact (jo4 HCL.o).head)
   obtain⟨tp,htp⟩:∃ tp,tp=(ja5 l).text:=⟨_,rfl⟩
   rw[←htp]at HTP;have HTX:=Hd htp;clear htp;go_wp2_with fail
   refine (jss w5 (HC.o.ext HE5.o) s bm 2000 [] HS5.o _ L HL5.o HSH.o tp HTP.o (by decide) (by decide) (by simp) (fun x hx=>by cases hx) (fun x hx=>by cases hx)).mono ?_;rintro e w6 hP;rw[HTX.o,HTL.o]at hP
   obtain⟨S,rfl,hK6,hH1⟩:=jkW w HI.o HCL.o (by decide) (z:=w.heap.size) HE5.o.size (by have:=HZ.o;omega) (by have:=HZ.o;omega) hP
   have HF:=Hd hH1;have HE6:=Hd (HE5.o.trans' hK6 (fun z hz e=>by have e:z=bm:=e;have:=HZ.o;omega));clear hP hK6 hH1;rw[←HTX.o];go_wp2_with fail
   go_ret2;exact .inr ⟨s,bm,S,by rw[HTX.o];rfl,HE6.o,HF.o,HFW.o.symm,HI.o⟩
end
section
open Go Go.RowKit
theorem jjJ{f:Nat}{l:List Pair}(h:jaG f l)(hn:l≠[]):(refB (jad (f+1) l).text).size≠0:=((good f l h).2.1 hn).may.1.pos
theorem jg3(g:Nat→ByteArray){i n:Nat}(h:i < n):((List.range n).map g).getD i ⟨#[]⟩=g i:=by
 rw[List.getD_eq_getElem?_getD,List.getElem?_map,List.getElem?_range h];rfl
theorem jka{f:Nat}{l m:List Pair}(hm:m≠[])(ho:jaG f m)(hk:jbW (jad (f+1) m) ⊆ jaE (jad (f+1)) l):∀ x∈jaF (jad (f+1) m),32≤x.size→x∈jaF (jad (f+1+1) l):=fun x hx h32=>by
 have eT:jaF (jad (f+1+1) l)=jaH (jay (jad (f+1)) l) :: jaM (jaE (jad (f+1)) l):=by
  show jaF (.mk (jaH (jay (jad (f+1)) l)) (jaE (jad (f+1)) l))=_;rw[jaF]
 rw[eT];have hst:=(good f m ho).2.1 hm
 by_cases hs:(jad (f+1) m).text.size < 32
 ·rw[jld hst hs,List.mem_singleton]at hx
  subst hx;omega
 ·refine List.mem_cons_of_mem _ (jbL.2 ⟨jad (f+1) m,hk ?_,hx⟩)
  unfold jbW;rw[if_neg hs];exact List.mem_singleton.2 rfl
end
section
open Go Go.RowKit
attribute [local go_sem] Oper.semAt_some
def preB(p s:ByteArray):Bool:=p.data.toList.isPrefixOf s.data.toList
theorem jkL:∀ (p s:List UInt8),p.isPrefixOf s=(decide (p.length≤s.length) && (s.take p.length == p))
 | [],s=>by simp
 | x :: p,[]=>by simp
 | x :: p,y :: s=>by
  have ih:=jkL p s;simp only[List.isPrefixOf,List.length_cons,List.take_succ_cons,ih,Nat.add_le_add_iff_right]
  by_cases h:x=y
  ·subst h;simp
  ·have:(y == x)=false:=by simpa using fun e=>h e.symm
   simp[h,this]
theorem jo3(s:ByteArray)(n:Nat):(s.extract 0 n).toList=s.data.toList.take n:=by
 rw[ByteArray.toList_eq,ByteArray.data_extract,Array.toList_extract,List.extract_eq_take_drop];simp
theorem jhN(w:World)(s p:ByteArray)(hs:s.size≤1000000)(hp:p.size≤1000000):Calls Tryz.prog 163 #[.string s,.string p] w fun e w'=>e=.returned (.bool (preB p s))∧w'=w:=by
 have ht:=jkL p.data.toList s.data.toList;have e1:p.data.toList.length=p.size:=rfl;have e2:s.data.toList.length=s.size:=rfl;rw[e1,e2, ←jo3]at ht;have ht:preB p s=_:=ht
 by_cases hl:p.size≤s.size
 ·have b1:(p.size:Int)≤(s.size:Int):=by omega
  have b2:¬(s.size:Int) < (p.size:Int):=by omega
  have b3:((p.size:Int)).toNat=p.size:=by omega
  rw[decide_eq_true hl,Bool.true_and, ←ByteArray.toList_eq]at ht;rw[ht];clear ht e1 e2;go_enter Tryz.func163,Tryz.ntmps163;go_wp2_with fail
  go_ret
  exact⟨rfl,rfl⟩
 ·have b1:(s.size:Int) < (p.size:Int):=by omega
  rw[decide_eq_false hl,Bool.false_and]at ht;rw[ht];clear ht e1 e2;go_enter Tryz.func163,Tryz.ntmps163;go_wp2_with fail
  go_ret
  exact⟨rfl,rfl⟩
theorem jer(w:World)(s p:ByteArray)(hs:s.size≤1000000)(hp:p.size≤1000000):Calls Tryz.prog 117 #[.string s,.string p] w fun e w'=>e=.returned (.bool (preB p s))∧w'=w:=by
 go_enter Tryz.func117,Tryz.ntmps117;go_wp2_with fail
 refine (jhN w s p hs hp).mono ?_;rintro e w1 ⟨rfl,rfl⟩;go_wp2_with fail
 go_ret
 exact⟨rfl,rfl⟩
theorem jrI{W:World}{B:Nat}{T:TypeId}{sz:Nat}{v:Value}{n:Nat}{xs:List Value}(h:W.ownsRow B T sz v n xs){b:Nat}(hb:v.ownBlock=some b):b < W.heap.size:=by
 obtain⟨h1,h2 |⟨g,cap,cur,h2,h3,h4,h5⟩⟩:=h
 ·rw[h2.1]at hb;cases hb
 ·rw[h2]at hb
  have e:some g=some b:=hb;obtain rfl:=Option.some.inj e;exact (Array.getElem?_eq_some_iff.1 h4).1
end
section
open Go Go.RowKit
theorem jks:∀ {a b:List UInt8},jce a=jce b→a=b
 | [],[],_=>rfl
 | [],y :: b,h=>by simp[jce]at h
 | x :: a,[],h=>by simp[jce]at h
 | x :: a,y :: b,h=>by
  have h:(x >>> 4) ::(x &&& 15) :: jce a=(y >>> 4) ::(y &&& 15) :: jce b:=h;injection h with h1 h;injection h with h2 h;have a1:=congrArg UInt8.toNat h1;have a2:=congrArg UInt8.toNat h2;rw[jiG,jiG]at a1;rw[jiH,jiH]at a2;rw[jks h,show x=y from UInt8.toNat_inj.1 (by omega)]
end
end Go.Proofs.YtcpnjmcipainpaaGreatDoor
