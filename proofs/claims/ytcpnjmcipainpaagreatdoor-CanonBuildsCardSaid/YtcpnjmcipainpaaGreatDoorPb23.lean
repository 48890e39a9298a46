/- Parts of the proof, one behind the other: CanonL, CanonM, CanonN, CanonO, TextsA, RefPk, RefRa. Each is under no condition but those that it states. -/
import Derived.Test.YtcpnjmcipainpaaGreatDoorPb22
import Derived.Test.YtcpnjmcipainpaaGreatDoorPb13
import Derived.Test.YtcpnjmcipainpaaGreatDoorPb19
import Derived.Test.YtcpnjmcipainpaaGreatDoorPb20
namespace Go.Proofs.YtcpnjmcipainpaaGreatDoor
set_option linter.unusedSimpArgs false
set_option linter.unusedVariables false
set_option maxRecDepth 100000
set_option maxHeartbeats 16000000
section
open Go Go.RowKit
attribute [local go_sem] Oper.semAt_some
inductive AT where
 | mk (b:Nat) (text:ByteArray) (v:Value) (kids:List AT)
def AT.root:AT→Nat | .mk b _ _ _=>b
mutual
def AtIs(A:Nat→Prop):AT→World→Prop
 | .mk b t v ks,W=>A b∧Blk W b (.cells #[.string t,v] 159)∧RdQ A W v (ks.map AT.root)∧jcB A ks W
def jcB(A:Nat→Prop):List AT→World→Prop
 | [],_=>True
 | k :: ks,W=>AtIs A k W∧jcB A ks W
end
mutual
def AT.pt:AT→PT
 | .mk _ t _ ks=>.mk t (AT.pts ks)
def AT.pts:List AT→List PT
 | []=>[]
 | k :: ks=>AT.pt k :: AT.pts ks
end
mutual
def jba:PT→List ByteArray
 | .mk t ks=>t :: jaH ks
def jaH:List PT→List ByteArray
 | []=>[]
 | k :: ks=>jba k++jaH ks
end
mutual
theorem jnE{A:Nat→Prop}{W:World}:∀ (T:PT) (b:Nat),jbg A T b W→∃ a:AT,a.root=b∧a.pt=T∧AtIs A a W
 | .mk t ks,b,h=>by
  unfold jbg at h
  obtain⟨h1,v,bs,h2,h3,h4⟩:=h
  obtain⟨al,e1,e2,e3⟩:=jl0 ks bs h4
  exact⟨.mk b t v al,rfl,by unfold AT.pt;rw[e2],by unfold AtIs;exact⟨h1,h2,by rw[e1];exact h3,e3⟩⟩
theorem jl0{A:Nat→Prop}{W:World}:∀ (ks:List PT) (bs:List Nat),jaE A ks bs W→∃ al:List AT,al.map AT.root=bs∧AT.pts al=ks∧jcB A al W
 | [],bs,h=>by
  unfold jaE at h;subst h
  exact⟨[],rfl,by unfold AT.pts;rfl,by unfold jcB;trivial⟩
 | x :: ks,bs,h=>by
  unfold jaE at h
  obtain⟨b,r,rfl,h2,h3⟩:=h
  obtain⟨a,e1,e2,e3⟩:=jnE x b h2
  obtain⟨al,e4,e5,e6⟩:=jl0 ks r h3
  exact⟨a :: al,by rw[List.map_cons,e1,e4],by unfold AT.pts;rw[e2,e5],by unfold jcB;exact⟨e3,e6⟩⟩
end
mutual
theorem AtIs.keeps{A:Nat→Prop}{F:BSet}{W W':World}(k:jah F W W')(hF:∀ x,A x→¬ F x):∀ (a:AT),AtIs A a W→AtIs A a W'
 | .mk b t v ks,h=>by
  unfold AtIs at *
  obtain⟨h1,h2,h3,h4⟩:=h
  exact⟨h1,h2.keeps k (hF b h1),h3.keeps k hF,jcB.keeps k hF ks h4⟩
theorem jcB.keeps{A:Nat→Prop}{F:BSet}{W W':World}(k:jah F W W')(hF:∀ x,A x→¬ F x):∀ (ks:List AT),jcB A ks W→jcB A ks W'
 | [],_=>by unfold jcB;trivial
 | x :: ks,h=>by
  unfold jcB at *
  exact⟨AtIs.keeps k hF x h.1,jcB.keeps k hF ks h.2⟩
end
theorem jcB.get{A:Nat→Prop}{W:World}:∀ (ks:List AT) (j:Nat) (a:AT),jcB A ks W→ks[j]?=some a→AtIs A a W
 | [],j,a,_,h=>by simp at h
 | x :: ks,0,a,h,hj=>by simp at hj;subst hj;unfold jcB at h;exact h.1
 | x :: ks,j+1,a,h,hj=>by unfold jcB at h;exact jcB.get ks j a h.2 (by simpa using hj)
theorem jgI:∀ (ks:List AT) (j:Nat) (a:AT),ks[j]?=some a→jaH (AT.pts (ks.take (j+1)))=jaH (AT.pts (ks.take j))++jba a.pt
 | [],j,a,h=>by simp at h
 | x :: ks,0,a,h=>by
  simp at h;subst h;simp[AT.pts,jaH]
 | x :: ks,j+1,a,h=>by
  have:=jgI ks j a (by simpa using h)
  simp only[List.take_succ_cons,AT.pts,jaH,this,List.append_assoc]
theorem jh5:∀ (ks:List AT) (j:Nat),∃ r,jaH (AT.pts ks)=jaH (AT.pts (ks.take j))++r
 | ks,0=>⟨jaH (AT.pts ks),by simp[AT.pts,jaH]⟩
 | [],j+1=>⟨[],by simp[AT.pts,jaH]⟩
 | x :: ks,j+1=>by
  obtain⟨r,h⟩:=jh5 ks j
  exact⟨r,by simp only[List.take_succ_cons,AT.pts,jaH,h,List.append_assoc]⟩
def jcv(L m:List ByteArray)(p:Nat):Prop:=∀ j x,m[j]?=some x→L[p+j]?=some x
theorem jcv.left{L m n:List ByteArray}{p:Nat}(h:jcv L (m++n) p):jcv L m p:=fun j x hx=>h j x (by rw[List.getElem?_append_left (List.getElem?_eq_some_iff.1 hx).1];exact hx)
theorem jcv.right{L m n:List ByteArray}{p:Nat}(h:jcv L (m++n) p):jcv L n (p+m.length):=fun j x hx=>by
 have:=h (m.length+j) x (by rw[List.getElem?_append_right (by omega),Nat.add_sub_cancel_left];exact hx)
 rw[Nat.add_assoc];exact this
theorem jcv.le{L m:List ByteArray}{p:Nat}(h:jcv L m p)(hm:m≠[]):p+m.length≤L.length:=by
 have hl:0 < m.length:=List.length_pos_iff.2 hm
 have:=h (m.length - 1) _ (List.getElem?_eq_getElem (by omega))
 have:=(List.getElem?_eq_some_iff.1 this).1
 omega
theorem jlk(T:PT):1≤(jba T).length:=by cases T;unfold jba;simp
theorem jh4:∀ (ks:List AT),ks.length≤(jaH (AT.pts ks)).length
 | []=>by simp
 | x :: ks=>by
  have:=jh4 ks
  have:=jlk x.pt
  simp only[AT.pts,jaH,List.length_append,List.length_cons];omega
def jfR(C Cx:Nat→World→Prop)(n N:Nat)(e:Ending)(W':World):Prop:=(e=.returned (.bool true)∧C n W')∨(e=.returned (.bool false)∧∃ q,0 < q∧q≤N∧Cx q W')
def jmk(C:Nat→World→Prop)(p:Nat)(ks:List AT)(v:Value)(wr:World):Prop:=∃ j:Nat,j≤ks.length∧v=.int .i64 j∧C (p+1+(jaH (AT.pts (ks.take j))).length) wr
theorem jkH(A:Nat→Prop)(l:Nat)(C Cx:Nat→World→Prop)(hC:∀ k,St (C k))(L:List ByteArray)(hLn:L.length≤1000000)
  (hY:∀ j W',j < L.length→C j W'→jja Tryz.prog l #[.string (L.getD j ⟨#[]⟩)] W' (C (j+1)) (Cx (j+1)))
  (b:Nat) (t:ByteArray) (v:Value) (ks:List AT)
  (IHk:∀ a∈ks,∀ (p:Nat) (W:World),jcv L (jba a.pt) p→(∀ j W',C j W'→AtIs A a W')→C p W →
   CallsIn Fence.wide 0 Tryz.prog 131 #[ptrV a.root,.func (.yield l) #[] #[]] W (jfR C Cx (p+(jba a.pt).length) L.length))
  (p:Nat) (W:World) (hL:jcv L (jba (AT.mk b t v ks).pt) p) (hS:∀ j W',C j W'→AtIs A (.mk b t v ks) W') (h0:C p W) :
   CallsIn Fence.wide 0 Tryz.prog 131 #[ptrV b,.func (.yield l) #[] #[]] W (jfR C Cx (p+(jba (AT.mk b t v ks).pt).length) L.length):=by
  have e1:jba (AT.pt (.mk b t v ks))=t :: jaH (AT.pts ks):=by unfold AT.pt jba;rfl
  rw[e1]at hL ⊢;have hp:p < L.length:=by have:=hL 0 t rfl;exact (List.getElem?_eq_some_iff.1 this).1
  have hg:L.getD p ⟨#[]⟩=t:=by rw[List.getD_eq_getElem?_getD];have:=hL 0 t rfl;rw[Nat.add_zero]at this;rw[this];rfl
  have hS':∀ j W',C j W'→Blk W' b (.cells #[.string t,v] 159)∧RdQ A W' v (ks.map AT.root)∧jcB A ks W':=fun j W' h=>by
   have:=hS j W' h;unfold AtIs at this;exact this.2
  obtain⟨fn,tm,asg,bd,hyr,hrd⟩:=hY p W hp h0
  rw[hg]at hyr;have q0:=(hS' p W h0).1.cell (i:=0) (v:=.string t) (by rfl)
  obtain⟨av,cv,hv⟩:=(hS' p W h0).2.1.sl
  rw[List.length_map]at hv;subst hv;have hkl:ks.length≤1000000:=by
   have h1:=jh4 ks;have h2:=hL.le (by simp);simp only[List.length_cons]at h2;omega
  have HRD:=Hd hrd;have HS:=Hd hS';have HY:=Hd hY;have HC:=Hd hC;have HIK:=Hd IHk;have HL:=Hd hL;clear hS' hS hrd hg h0 e1 hL hY hC IHk;unfold ptrV;refine callsIn_of_wp Tryz.func131 rfl trivial ?_ rfl;simp only[Tryz.ntmps131,List.size_toArray,List.length_cons,List.length_nil,Nat.reduceAdd,Nat.reduceSub,Array.replicate_succ,Array.replicate_zero,List.push_toArray,List.append_toArray,List.nil_append,List.cons_append];gi_wp2_with fail
  refine⟨rfl,HRD.o.mono ?_⟩
  rintro e w5 (⟨rfl,C5⟩ |⟨rfl,C5⟩)
  ·have q1:=(HS.o _ _ C5).1.cell (i:=1) (v:=.slice av ks.length cv) (by rfl)
   have HC5:=Hd C5;clear C5 q0 hyr;gi_wp2_with fail
   gi_loopw [19] (fun v wr=>jmk C p ks v wr) (fun v _=>ks.length - (intOf v).toNat)
   case atStart=>exact⟨0,by omega,rfl,by simpa [AT.pts,jaH]using HC5.o⟩
   case round =>
    obtain⟨j,hj,rfl,hCj⟩:=hrel
    by_cases hlt:j < ks.length
    ·obtain⟨hb1,hq1,ha1⟩:=HS.o _ _ hCj
     obtain⟨a,ha⟩:∃ a,ks[j]?=some a:=⟨_,List.getElem?_eq_getElem hlt⟩
     have hmem:a∈ks:=List.mem_of_getElem? ha;have hft:=jgI ks j a ha
     obtain⟨rest,hpre⟩:=jh5 ks (j+1)
     have hbeg:jcv L (jba a.pt) (p+1+(jaH (AT.pts (ks.take j))).length):=by
      have h1:jcv L ([t]++(jaH (AT.pts (ks.take j))++(jba a.pt++rest))) p:=by
       have:=HL.o
       rw[hpre,hft,List.append_assoc]at this;exact this
      exact (h1.right.right).left
     rcases hq1 with⟨_,h0⟩ |⟨g,c,hh,_,_,_,_,hcell⟩
     ·rw[List.map_eq_nil_iff]at h0;rw[h0]at hlt;cases hlt
     obtain⟨rfl,hx1,hx2⟩:=Value.slice.inj hh
     clear hx1 hx2;have qj:wr.cell? ⟨g,j,none⟩=some (ptrV a.root):=hcell j a.root (by rw[List.getElem?_map,ha];rfl)
     obtain⟨ar,har⟩:∃ ar,ar=a.root:=⟨_,rfl⟩
     rw[←har]at qj;have b1:(j:Int) < (ks.length:Int):=by omega
     have ih:=HIK.o a hmem _ wr hbeg (fun j' W' h=>jcB.get ks j a (HS.o j' W' h).2.2 ha) hCj;rw[←har]at ih;have IH:=Hd ih;have HFT:=Hd hft;unfold ptrV at qj;clear hb1 ha1 hcell hh hpre hbeg ih hft hCj ha har q1 hmem HC5;gi_wp2_with fail
     refine⟨trivial,rfl,IH.o.mono ?_⟩
     rintro e w6 (⟨rfl,C6⟩ |⟨rfl,q',hq1,hq2,C6⟩)
     ·have HC6:=Hd C6
      clear C6;gi_wp2_with fail
      go_roundw
      case rel=>exact⟨j+1,by omega,by go_num,by rw[HFT.o,List.length_append, ←Nat.add_assoc];exact HC6.o⟩
      case measure=>simp[intOf];omega
     ·have HC6:=Hd C6
      clear C6;gi_wp2_with fail
      go_ret;exact .inr ⟨rfl,q',hq1,hq2,HC6.o⟩
    ·have hjk:j=ks.length:=by omega
     subst hjk;rw[List.take_length]at hCj;have HC6:=Hd hCj;clear hCj;gi_wp2_with fail
     go_ret;exact .inl ⟨rfl,by rw[show p+((jaH (AT.pts ks)).length+1)=p+1+(jaH (AT.pts ks)).length by omega];exact HC6.o⟩
  ·have HC5:=Hd C5
   clear C5 q0 hyr;gi_wp2_with fail
   go_ret;exact .inr ⟨rfl,p+1,by omega,by omega,HC5.o⟩
theorem jkG(A:Nat→Prop)(l:Nat)(C Cx:Nat→World→Prop)(hC:∀ k,St (C k))(L:List ByteArray)(hLn:L.length≤1000000)
  (hY:∀ j W',j < L.length→C j W'→jja Tryz.prog l #[.string (L.getD j ⟨#[]⟩)] W' (C (j+1)) (Cx (j+1))) :
  ∀ (a:AT) (p:Nat) (W:World),jcv L (jba a.pt) p→(∀ j W',C j W'→AtIs A a W')→C p W →
   CallsIn Fence.wide 0 Tryz.prog 131 #[ptrV a.root,.func (.yield l) #[] #[]] W (jfR C Cx (p+(jba a.pt).length) L.length)
 | .mk b t v ks,p,W,hL,hS,h0=>jkH A l C Cx hC L hLn hY b t v ks (fun a ha=>jkG A l C Cx hC L hLn hY a) p W hL hS h0
termination_by a=>SizeOf.sizeOf a
decreasing_by
 have:=List.sizeOf_lt_of_mem ha
 simp
 omega
def jjd(L:List ByteArray)(k:Nat):Array Value:=#[.string (L.getD k ⟨#[]⟩)]
theorem jnC(A:Nat→Prop)(bx:Nat)(a:AT)(hLn:(jba a.pt).length≤1000000):ji7 Tryz.prog 130 #[.pointer (some ⟨bx,0,none⟩)] (jba a.pt).length (jjd (jba a.pt)) (fun W=>Blk W bx (.cells #[ptrV a.root] 110)∧AtIs A a W):=by
 intro l C Cx hC hCx hS W hY h0;have hT:=jkG A l C Cx hC (jba a.pt) hLn (fun j W' hj hc=>hY j W' hj hc) a 0 W (fun j x hx=>by rw[Nat.zero_add];exact hx) (fun j W' h=>(hS j W' h).2) h0;have q0:=(hS 0 W h0).1.cell (i:=0) (v:=ptrV a.root) (by rfl);have HT:=Hd hT;clear hT hY hC hCx hS h0;unfold ptrV at q0
 obtain⟨r,hr⟩:∃ r,r=a.root:=⟨_,rfl⟩
 rw[←hr]at q0 HT;have HR:=Hd hr;clear hr;refine callsIn_of_wp Tryz.func130 rfl trivial ?_ rfl;simp only[Tryz.ntmps130,List.size_toArray,List.length_cons,List.length_nil,Nat.reduceAdd,Nat.reduceSub,Array.replicate_succ,Array.replicate_zero,List.push_toArray,List.append_toArray,List.nil_append,List.cons_append];gi_wp2_with fail
 refine⟨trivial,rfl,HT.o.mono ?_⟩
 rintro e w5 (⟨rfl,C5⟩ |⟨rfl,q',hq1,hq2,C6⟩)
 ·have HC5:=Hd C5
  clear C5;gi_wp2_with fail
  refine bodyPost_end (results_none rfl _ _ _) rfl ?_
  exact⟨⟨_,rfl⟩,.inl (by have:=HC5.o;rw[Nat.zero_add]at this;exact this)⟩
 ·have HC6:=Hd C6
  clear C6;gi_wp2_with fail
  refine bodyPost_end (results_none rfl _ _ _) rfl ?_
  exact⟨⟨_,rfl⟩,.inr ⟨q',hq2,hq1,HC6.o⟩⟩
theorem joQ(w:World)(k:Nat):Calls Tryz.prog 80 #[ptrV k] w fun e w'=>e=.returned (.func (.func 130) #[] #[.pointer (some ⟨w.heap.size,0,none⟩)])∧Blk w' w.heap.size (.cells #[ptrV k] 110)∧Ext w w':=by
 unfold ptrV;go_enter Tryz.func80,Tryz.ntmps80;go_wp2_with fail
 go_ret
 exact⟨rfl,Blk.new w _,(ExtR w).alloc _⟩
def memB(acc:List ByteArray)(x:ByteArray):Bool:=(acc.map (·.data.toList)).contains x.data.toList
theorem jez(acc:List ByteArray)(x:ByteArray):memB acc x=true↔x∈acc:=by
 unfold memB;rw[List.contains_iff_mem,List.mem_map]
 exact⟨fun ⟨y,hy,e⟩=>by rw[←show y=x from ByteArray.ext (Array.ext' e)];exact hy,fun h=>⟨x,h,rfl⟩⟩
def addF(acc:List ByteArray)(x:ByteArray):List ByteArray:=if memB acc x=true then acc else acc++[x]
def ja7(l:List ByteArray):List ByteArray:=l.foldl addF []
theorem jkS(acc:List ByteArray)(x y:ByteArray):y∈addF acc x↔y∈acc∨y=x:=by
 unfold addF;split
 ·rename_i h;exact⟨.inl,fun h'=>h'.elim id (fun e=>e ▸ (jez _ _).1 h)⟩
 ·simp
theorem jiN(l:List ByteArray)(y:ByteArray):y∈ja7 l↔y∈l:=by
 unfold ja7
 suffices ∀ acc,y∈l.foldl addF acc↔y∈acc∨y∈l by simpa using this []
 induction l with
 | nil=>intro acc;simp
 | cons x r ih=>intro acc;rw[List.foldl_cons,ih,jkS,List.mem_cons];exact or_assoc
theorem jhw(l:List ByteArray)(x:ByteArray):ja7 (l++[x])=addF (ja7 l) x:=by
 unfold ja7;rw[List.foldl_append];rfl
theorem jfF(l:List ByteArray):(ja7 l).length≤l.length:=by
 unfold ja7
 suffices ∀ acc,(l.foldl addF acc).length≤acc.length+l.length by simpa using this []
 induction l with
 | nil=>intro acc;simp
 | cons x r ih =>
  intro acc;rw[List.foldl_cons,List.length_cons];have h1:=ih (addF acc x);have h2:(addF acc x).length≤acc.length+1:=by unfold addF;split <;> simp
  omega
theorem jd7{K:Type}[DecidableEq K](k:K)(v:Value)(n:Nat)(k':K):∀ (l:List (Ent K)),ja3 (jbu l k v n) k'=if k'=k then some v else ja3 l k'
 | []=>by
  by_cases h:k'=k
  ·subst h;simp[jbu,ja3]
  ·simp[jbu,ja3,h]
 | x :: r=>by
  have ih:=jd7 k v n k' r;unfold jbu
  by_cases hk:k=x.1
  ·rw[if_pos hk]
   by_cases h:k'=k
   ·subst h;simp[ja3]
   ·have h2:¬ k'=x.1:=fun e=>h (e.trans hk.symm)
    simp[ja3,h,h2]
  ·rw[if_neg hk]
   by_cases h:k'=x.1
   ·have h2:¬ k'=k:=fun e=>hk (e.symm.trans h)
    rw[if_neg h2];simp[ja3,h]
   ·have e1:∀ l,ja3 (x :: l) k'=ja3 l k':=fun l=>by simp[ja3,h]
    rw[e1,e1,ih]
def cntB(l:List ByteArray)(x:ByteArray):Nat:=(l.map (·.data.toList)).count x.data.toList
def cntV(n:Nat):Option Value:=if n=0 then none else some (.int .i64 (n:Int))
theorem Tryz.uMapSI:Tryz.prog.underlying 107=some (.map 9 3):=by kernel_rfl
noncomputable abbrev Tryz.ES:jaN Tryz.prog 9 (List UInt8):=jn2 Tryz.uStr
theorem Tryz.zeroI(w:World):(zeroValue 3).run Tryz.prog w=.ok (.int .i64 0) w:=by kernel_rfl
structure NodS(w:World)(g m:Nat)(A:Nat→Prop)(bx:Nat)(a:AT)(L:List ByteArray)(k:Nat)(W:World):Prop where
 ext:Ext w W
 var:∃ v n,Blk W g (.cells #[v] 34)∧W.ownsRow 0 9 1 v n ((ja7 (L.take k)).map Value.string)∧n≤k∧∀ b,v.ownBlock=some b→m+2≤b
 tab:∃ es ck,Blk W (g+1) (.map (Tryz.ES.arr es) ck)∧∀ x:ByteArray,ja3 es x.data.toList=cntV (cntB (L.take k) x)
 mv:Blk W (g+2) (.cells #[.map (some (g+1))] 107)
 box:Blk W bx (.cells #[ptrV a.root] 110)
 at':AtIs A a W
theorem NodS.st{w:World}{g m:Nat}{A:Nat→Prop}{bx:Nat}{a:AT}{L:List ByteArray}{k:Nat}{W W':World}(h:NodS w g m A bx a L k W)(e:Ext W W'):NodS w g m A bx a L k W':=
 let ⟨v,n,h1,h2,h3,h4⟩:=h.var
 let ⟨es,ck,h5,h6⟩:=h.tab
 ⟨h.ext.trans e,⟨v,n,h1.keeps e (fun h=>h),jce h2 e,h3,h4⟩,⟨es,ck,h5.keeps e (fun h=>h),h6⟩,h.mv.keeps e (fun h=>h),h.box.keeps e (fun h=>h),AtIs.keeps e (fun _ _ h=>h) a h.at'⟩
theorem NodS.put{w:World}{g m:Nat}{A:Nat→Prop}{bx:Nat}{a:AT}{L:List ByteArray}{k:Nat}{W:World}(h:NodS w g m A bx a L k W){r:Nat}(hr:w.heap.size≤r)(h1:g+2 < r)(h2:r < m+2)(h3:bx≠r)(h4:∀ x,A x→x≠r)(o:Obj):NodS w g m A bx a L k (W.putObj r o):=
 let ⟨v,n,h5,h6,h7,h8⟩:=h.var
 let ⟨es,ck,h9,h10⟩:=h.tab
 ⟨h.ext.putObj (.inr hr) _,⟨v,n,h5.put_other (by omega) _,jbj h6 (jah.onePut W r o) (fun b hb e=>by have:=h8 b hb;omega),h7,h8⟩,⟨es,ck,h9.put_other (by omega) _,h10⟩,h.mv.put_other (by omega) _,h.box.put_other h3 _,
  AtIs.keeps (jah.onePut W r o) (fun x hx e=>h4 x hx e) a h.at'⟩
end
section
open Go Go.RowKit
def jdm(l:List Pair):Nat→Nat
 | 0=>0
 | n+1=>jdm l n+(cutL n l).length
def hN(L:List UInt8)(n:Nat):Nat:=match L with | []=>0 | a :: _=>if a.toNat < n then 1 else 0
theorem jmI(p:Pair)(n:Nat):hN p.l (n+1)=hN p.l n+(if jdR n p=true then 1 else 0):=by
 have hpb:jdR n p=match p.l with | []=>false | a :: _=>a.toNat == n:=rfl
 rw[hpb];cases p.l with
 | nil=>rfl
 | cons a r =>
  simp only[hN,beq_iff_eq]
  by_cases h1:a.toNat=n
  ·rw[if_pos (by omega),if_neg (by omega),if_pos h1]
  ·by_cases h3:a.toNat < n
   ·rw[if_pos (by omega),if_pos h3,if_neg h1]
   ·rw[if_neg (by omega),if_neg h3,if_neg h1]
theorem joU(L:List UInt8)(n:Nat):hN L n≤1:=by
 cases L with
 | nil=>exact Nat.zero_le _
 | cons a r=>simp only[hN];split <;> omega
theorem jeL(p:Pair)(l:List Pair):∀ n,jdm (p :: l) n=jdm l n+hN p.l n
 | 0=>by
  have:hN p.l 0=0:=by cases p.l <;> simp[hN]
  rw[this];rfl
 | n+1=>by
  have h:(cutL n (p :: l)).length=(cutL n l).length+(if jdR n p=true then 1 else 0):=by
   unfold cutL;rw[List.filter_cons];split <;> simp
  unfold jdm;rw[jeL p l n,h,jmI];omega
theorem jgC:∀ (l:List Pair) (n:Nat),jdm l n≤l.length
 | [],n=>by
  have:∀ n,jdm [] n=0:=fun n=>by induction n with
   | zero=>rfl
   | succ n ih=>unfold jdm;rw[ih];rfl
  rw[this];exact Nat.zero_le _
 | p :: l,n=>by
  rw[jeL,List.length_cons]
  have:=jgC l n
  have:=joU p.l n
  omega
theorem jb2:∀ (a b:List PT),jaH (a++b)=jaH a++jaH b
 | [],b=>by simp[jaH]
 | x :: a,b=>by simp only[List.cons_append,jaH,jb2 a b,List.append_assoc]
theorem jhy(T:PT):(jaH (jb3 T)).length≤(jba T).length:=by
 unfold jb3;split <;> simp[jaH]
theorem jn3(B:List Pair→PT)(F:Nat)(l:List Pair)(hB:∀ i,(cutL i l).length≠0→(jba (B (jaC 1 (cutL i l)))).length≤F * (cutL i l).length):∀ n,(jaH (ksK B l n)).length≤F * jdm l n
 | 0=>by simp[ksK,jaH,jdm]
 | n+1=>by
  rw[jf4,jb2,List.length_append];unfold jdm;rw[Nat.mul_add]
  have:=jn3 B F l hB n
  by_cases h0:(cutL n l).length=0
  ·rw[if_pos h0];simp[jaH];omega
  ·rw[if_neg h0]
   have h1:=hB n h0;have h2:=jhy (B (jaC 1 (cutL n l)));omega
theorem jhx:∀ (f:Nat) (l:List Pair),l≠[]→(jba (jaf (f+1) l)).length≤(f+1) * l.length
 | f,l,hl=>by
  have hlen:1≤l.length:=List.length_pos_iff.2 hl;show (jba (.mk (jaV (ja1 (jaf f) l)) (ja4 (jaf f) l))).length≤_;unfold jba;rw[List.length_cons];have key:(jaH (ja4 (jaf f) l)).length≤f * l.length:=by
   unfold ja4;split
   ·simp[jaH]
   ·split
    ·cases f with
     | zero =>
      have h:=jhy (jaf 0 (jaC (comK l) l));have h0:jb3 (jaf 0 (jaC (comK l) l))=[]:=rfl;rw[h0];simp[jaH]
     | succ f =>
      have h:=jhy (jaf (f+1) (jaC (comK l) l));have ih:=jhx f (jaC (comK l) l) (fun e=>by have:=ja2 (comK l) l;rw[e]at this;simp at this;omega);rw[ja2]at ih;omega
    ·cases f with
     | zero =>
      have:∀ n,ksK (jaf 0) l n=[]:=fun n=>by
       induction n with
       | zero=>rfl
       | succ n ih =>
        rw[jf4,ih];split
        ·rfl
        ·rfl
      have h16:=this 16;unfold ksK at h16;rw[h16];simp[jaH]
     | succ f =>
      have h:=jn3 (jaf (f+1)) (f+1) l (fun i hi=>by
       have ih:=jhx f (jaC 1 (cutL i l)) (fun e=>by have:=ja2 1 (cutL i l);rw[e]at this;simp at this;omega)
       rwa [ja2]at ih) 16
      have h2:=Nat.mul_le_mul_left (f+1) (jgC l 16);have h3:ksK (jaf (f+1)) l 16=(List.range 16).flatMap fun i=>if (cutL i l).length=0 then []else jb3 (jaf (f+1) (jaC 1 (cutL i l))):=rfl
      rw[←h3];exact Nat.le_trans h h2
  have:(f+1) * l.length=f * l.length+l.length:=by rw[Nat.succ_mul]
  omega
theorem jdT{l:List Pair}(h:jme l):(jba (jbr l)).length≤13 * l.length+1:=by
 by_cases h0:l=[]
 ·subst h0
  show (jba (.mk (jaV (ja1 (jaf 12) [])) (ja4 (jaf 12) []))).length≤_
  have:ja4 (jaf 12) []=[]:=rfl
  rw[this];simp[jba,jaH]
 ·have h1:(jba (jbr l)).length≤13 * (jbb l).length:=jhx 12 (jbb l) (fun e=>h0 (by unfold jbb at e;simpa using e))
  have h2:(jbb l).length=l.length:=by unfold jbb;rw[List.length_map]
  rw[h2]at h1;omega
end
section
open Go Go.RowKit
attribute [local go_sem] Oper.semAt_some
theorem Tryz.makeMapSI(W:World):(Instr.makeMap 107 none).run Tryz.prog W=.ok (.map (some W.heap.size)) (W.alloc (.map #[] 0)):=by kernel_rfl
theorem Tryz.enterAll1:∀ args w,(callFunc 130 args).run Tryz.prog w=.ok (.enter 130 args) w:=fun _ _=>by kernel_rfl
theorem jcG(w:World)(v:Value)(l:List Pair)(hc:jbU w)(hv:RdP w v l)(h:jaD l=0):Calls Tryz.prog 26 #[v] w fun e w'=>∃ u n,e=.returned (.tuple #[u,.int .i64 0])∧SRow w w' u n (ja7 (jba (jbr l))):=by
 have hm:=ja5 h
 obtain⟨a,c,hsl⟩:=hv.sl
 subst hsl;have HV:=Hd hv;have HM:=Hd hm;have HC:=Hd hc;have H:=Hd h;have HL:=Hd hm.len
 obtain⟨T,hT⟩:∃ T,T=jbr l:=⟨_,rfl⟩
 rw[←hT];have HTR:=Hd hT;clear hv hm hc h hT;rw[←callsIn_wide (n:=0)];refine callsIn_of_wp_marks Tryz.func26 rfl trivial ?_ rfl;simp only[Tryz.ntmps26,List.size_toArray,List.length_cons,List.length_nil,Nat.reduceAdd,Nat.reduceSub,Array.replicate_succ,Array.replicate_zero,List.push_toArray,List.append_toArray,List.nil_append,List.cons_append];gi_wp2_with fail
 refine⟨trivial,rfl,CallsIn.mono (callsIn_wide.2 (jcc w _ l HV.o (by have:=HL.o;omega) (fun p hp=>by have:=HM.o.size p hp;omega))) ?_⟩
 rintro e w1 ⟨rfl,hE⟩;rw[H.o];have HE:=Hd hE;have hw1:=hE.size;clear hE;have hmm:(Instr.makeMap 107 none).run Tryz.prog (w1.alloc (.cells #[.slice none 0 0] 34))=.ok (.map (some (w1.heap.size+1))) ((w1.alloc (.cells #[.slice none 0 0] 34)).alloc (.map #[] 0)):=by
  rw[←World.size_alloc w1 (.cells #[.slice none 0 0] 34)];exact Tryz.makeMapSI _
 gi_wp2_with fail
 obtain⟨W6,hW6⟩:∃ W6,W6=((w1.alloc (.cells #[.slice none 0 0] 34)).alloc (.map #[] 0)).alloc (.cells #[.map (some (w1.heap.size+1))] 107):=⟨_,rfl⟩
 rw[←hW6];have hs6:W6.heap.size=w1.heap.size+3:=by rw[hW6];simp
 have E6:Ext w1 W6:=by rw[hW6];exact (((ExtR w1).alloc _).alloc _).alloc _
 have B5:Blk W6 w1.heap.size (.cells #[.slice none 0 0] 34):=by rw[hW6];exact ((Blk.new w1 _).alloc _).alloc _
 have BM:Blk W6 (w1.heap.size+1) (.map #[] 0):=by
  rw[hW6];have:=(Blk.new (w1.alloc (.cells #[.slice none 0 0] 34)) (.map #[] 0)).alloc (.cells #[.map (some (w1.heap.size+1))] 107);rwa [World.size_alloc]at this
 have B6:Blk W6 (w1.heap.size+2) (.cells #[.map (some (w1.heap.size+1))] 107):=by
  rw[hW6];have:=Blk.new ((w1.alloc (.cells #[.slice none 0 0] 34)).alloc (.map #[] 0)) (.cells #[.map (some (w1.heap.size+1))] 107);rwa [World.size_alloc,World.size_alloc]at this
 clear hW6 hmm
 refine⟨trivial,rfl,CallsIn.mono (callsIn_wide.2 (jl6 W6 _ l ((HV.o.ext HE.o).ext E6) (by have:=HL.o;omega) (fun p hp=>by have:=HM.o.size p hp;omega))) ?_⟩
 rintro e w7 ⟨u,rfl,hr⟩;have HR:=Hd hr.rd;have hX7:Ext W6 w7:=hr.ext;clear hr
 obtain⟨a2,c2,hu⟩:=HR.o.sl
 subst hu;have HX7:=Hd hX7;have HB5:=Hd (B5.keeps hX7 (fun h=>h));have HBM:=Hd (BM.keeps hX7 (fun h=>h));have HB6:=Hd (B6.keeps hX7 (fun h=>h));have HE7:=Hd ((HE.o.trans E6).trans hX7);have hs7:=hX7.size;clear B5 BM B6 E6 hX7;gi_wp2_with fail
 refine⟨trivial,rfl,CallsIn.mono (callsIn_wide.2 (jfV 12 (jbb l) (jdx HM.o) (by unfold jbb;rw[List.length_map];have:=HL.o;omega) w7 _ (HC.o.ext HE7.o) HR.o)) ?_⟩
 rintro e w8 ⟨k,rfl,hk,hE⟩;have hk:=jbg.mono (A':=fun x=>w7.heap.size≤x∧x < w8.heap.size) (fun x h1 h2=>⟨h1,h2⟩) _ _ hk
 obtain⟨at0,ha1,ha2,ha3⟩:=jnE _ _ hk
 have hs8:=hE.size;have HB5':=Hd (HB5.o.keeps hE (fun h=>h));have HBM':=Hd (HBM.o.keeps hE (fun h=>h));have HB6':=Hd (HB6.o.keeps hE (fun h=>h));have HE8:=Hd (HE7.o.trans hE);have HA3:=Hd ha3;have HA2:=Hd ha2;rw[←ha1];clear hk ha1 ha2 ha3 hE HB5 HBM HB6 HE7 HX7 HR HE;gi_wp2_with fail
 refine⟨trivial,rfl,CallsIn.mono (callsIn_wide.2 (joQ w8 at0.root)) ?_⟩
 rintro e w9 ⟨rfl,hbx,hE⟩;have hpt:at0.pt=T:=HA2.o.trans HTR.o.symm;have hlen:(jba at0.pt).length≤1000000:=by
  rw[hpt,HTR.o];have:=jdT HM.o;have:=HL.o;omega
 have hl9:=hbx.lt
 obtain⟨A,hA⟩:∃ A:Nat→Prop,A=fun x=>w7.heap.size≤x∧x < w8.heap.size:=⟨_,rfl⟩
 have S0:NodS w w1.heap.size w9.heap.size A w8.heap.size at0 (jba at0.pt) 0 w9:=
  ⟨HE8.o.trans hE,⟨_,0,HB5'.o.keeps hE (fun h=>h),by simpa [ja7]using World.ownsRow_nil _ _ _ _,Nat.le_refl _,fun b hb=>by cases hb⟩,⟨[],0,HBM'.o.keeps hE (fun h=>h),fun x=>by simp[ja3,cntB,cntV]⟩,HB6'.o.keeps hE (fun h=>h),hbx,by rw[hA];exact AtIs.keeps hE (fun _ _ h=>h) _ HA3.o⟩
 have HS0:=Hd S0;have hAlo:∀ x,A x→w1.heap.size+2 < x∧x < w9.heap.size:=fun x hx=>by rw[hA]at hx;omega
 have hbx9:w1.heap.size+2 < w8.heap.size:=by omega
 obtain⟨L,hLd⟩:∃ L,L=jba at0.pt:=⟨_,rfl⟩
 have hit:=jnC A w8.heap.size at0 hlen;rw[←hLd]at hit hlen HS0;have HIT:=Hd hit;have HLD:=Hd hLd;have HALO:=Hd hAlo;have HPT0:=Hd hpt;clear S0 hE hbx hA HE8 HB5' HBM' HB6' HA3 HA2 hpt hLd hit hAlo;unfold ptrV;gi_wp2_with fail
 refine jc8 (N:=L.length) (gf:=130) (lb:=#[.pointer (some ⟨w8.heap.size,0,none⟩)]) rfl Tryz.enterAll1 HIT.o
  (fun k=>rfl) (NodS w w1.heap.size w9.heap.size A w8.heap.size at0 L) (fun _ _ _=>False) (fun k W W' h e=>h.st e) (fun _ _ _ _ h _=>h) (fun k W h=>⟨h.box,h.at'⟩)
  (fun k W o h=>h.put (by omega) (by omega) (by omega) (by omega) (fun x hx=>by have:=HALO.o x hx;omega) _)
  (fun k W o h=>h.put (by omega) (by omega) (by omega) (by omega) (fun x hx=>by have:=HALO.o x hx;omega) _) (fun _ _ _ _ h=>h)
  HS0.o (fun k=>{ tmps:=#[.slice a l.length c,undef,.slice none 0 0,.int .i64 0,.int .i64 0,.pointer (some ⟨w1.heap.size,0,none⟩),.pointer (some ⟨w1.heap.size+1+1,0,none⟩),.string (L.getD k ⟨#[]⟩),.slice a l.length c,.int .i64 0,.int .i64 0,.bool false,undef,.map (some (w1.heap.size+1)),.slice a l.length c,.slice a2 (jbb l).length c2,.pointer (some ⟨at0.root,0,none⟩),.func (.func 130) #[] #[.pointer (some ⟨w8.heap.size,0,none⟩)],.string (L.getD k ⟨#[]⟩),undef,undef,undef,undef,undef,undef,undef,undef,undef,undef,undef,undef,undef],defers:=[] })
  ?hassign ?hbody ?hdone ?hstop
 case hassign =>
  intro l2 j W K hK;unfold jjd;rw[jnY];simp only[List.set_cons_zero,List.set_cons_succ];gi_wp2;exact hK
 case hbody =>
  intro l2 k W hk h hlt
  obtain⟨v,n,h1,h2,h3,h4⟩:=h.var
  obtain⟨ad,cp,rfl⟩:=jbw h2
  obtain⟨es,ck,h5,h6⟩:=h.tab
  obtain⟨x,hx⟩:∃ x,x=L.getD k ⟨#[]⟩:=⟨_,rfl⟩
  rw[←hx];have hLx:L.take (k+1)=L.take k++[x]:=by
   rw[List.take_succ_eq_append_getElem hk,hx,List.getD_eq_getElem?_getD,List.getElem?_eq_getElem hk];rfl
  obtain⟨cn,hcn⟩:∃ cn,cn=cntB (L.take k) x:=⟨_,rfl⟩
  have hcl:cn≤1000000:=by
   rw[hcn];unfold cntB;refine Nat.le_trans List.count_le_length ?_;rw[List.length_map,List.length_take];omega
  have e6:=h6 x;rw[←hcn]at e6;have hlk:(Instr.lookup 107 (.map (some (w1.heap.size+1))) (.string x) false).run Tryz.prog W=.ok (.int .i64 (cn:Int)) W:=by
   have:=jeh Tryz.ES Tryz.uMapSI h5 (Tryz.zeroI W) x.data.toList false
   rw[e6]at this;unfold cntV at this
   by_cases h0:cn=0
   ·rw[if_pos h0]at this;rw[h0];exact this
   ·rw[if_neg h0]at this;exact this
  obtain⟨es2,hes2⟩:∃ es2,es2=jbu es x.data.toList (.int .i64 ((cn:Int)+1)) ck:=⟨_,rfl⟩
  obtain⟨ck2,hck2⟩:∃ ck2,ck2=(if (ja3 es x.data.toList).isSome then ck else ck+1):=⟨_,rfl⟩
  obtain⟨W2,hW2⟩:∃ W2,W2=W.putObj (w1.heap.size+1) (.map (Tryz.ES.arr es2) ck2):=⟨_,rfl⟩
  have hmu:(Instr.mapUpdate 107 (.map (some (w1.heap.size+1))) (.string x) (.int .i64 ((cn:Int)+1))).run Tryz.prog W=.ok () W2:=by
   have:=jcJ Tryz.ES Tryz.uMapSI h5 x.data.toList (.int .i64 ((cn:Int)+1))
   rw[←hes2, ←hck2, ←hW2]at this;exact this
  have B2:Blk W2 (w1.heap.size+1) (.map (Tryz.ES.arr es2) ck2):=by rw[hW2];exact h5.put_same _
  have e7:∀ y:ByteArray,ja3 es2 y.data.toList=cntV (cntB (L.take (k+1)) y):=fun y=>by
   rw[hes2,jd7,h6 y,hLx];have hc:cntB (L.take k++[x]) y=cntB (L.take k) y+(if x.data.toList=y.data.toList then 1 else 0):=by
    unfold cntB;rw[List.map_append,List.count_append,List.map_cons,List.map_nil,List.count_singleton]
    simp
   rw[hc]
   by_cases hxy:y.data.toList=x.data.toList
   ·have hyx:y=x:=ByteArray.ext (Array.ext' hxy)
    subst hyx;rw[if_pos rfl,if_pos rfl, ←hcn];unfold cntV;rw[if_neg (by omega)];simp
   ·rw[if_neg hxy,if_neg (fun e=>hxy e.symm)];rfl
  have hlk2:(Instr.lookup 107 (.map (some (w1.heap.size+1))) (.string x) false).run Tryz.prog W2=.ok (.int .i64 ((cn:Int)+1)) W2:=by
   have:=jeh Tryz.ES Tryz.uMapSI B2 (Tryz.zeroI W2) x.data.toList false
   rw[hes2,jd7,if_pos rfl]at this;exact this
  have K2:jah (fun b=>b=w1.heap.size+1) W W2:=by rw[hW2];exact jah.onePut _ _ _
  have q6:W.cell? ⟨w1.heap.size+1+1,0,none⟩=some (.map (some (w1.heap.size+1))):=h.mv.cell (i:=0) (by rfl);have M2:=h.mv.keeps K2 (by omega);have q62:W2.cell? ⟨w1.heap.size+1+1,0,none⟩=some (.map (some (w1.heap.size+1))):=M2.cell (i:=0) (by rfl);have V2:=h1.keeps K2 (by omega);have O2:=jbj h2 K2 (fun b hb e=>by have:=h4 b hb;omega);have X2:=h.box.keeps K2 (by omega);have A2:=AtIs.keeps K2 (fun y hy e=>by have:=HALO.o y hy;omega) _ h.at';have E2:=h.ext.trans' K2 (fun y hy e=>by omega);have hV2:=V2.cell (i:=0) (v:=.slice ad n cp) (by rfl);have hV2f:W2.frozen? ⟨w1.heap.size,0,none⟩=false:=V2.frozen;have HMEM:=Hd (show memB (ja7 (L.take k)) x=true↔cn≠0 from by
   rw[jez,jiN,hcn];unfold cntB;rw[←Nat.pos_iff_ne_zero,List.count_pos_iff,List.mem_map]
   exact⟨fun hm=>⟨x,hm,rfl⟩,fun ⟨y,hy,e⟩=>by rw[←show y=x from ByteArray.ext (Array.ext' e)];exact hy⟩)
  have HFS:=Hd (show ja7 (L.take (k+1))=addF (ja7 (L.take k)) x by rw[hLx,jhw]);have HTAB:=Hd (show ∃ es ck,Blk W2 (w1.heap.size+1) (.map (Tryz.ES.arr es) ck)∧∀ y:ByteArray,ja3 es y.data.toList=cntV (cntB (L.take (k+1)) y)from⟨es2,ck2,B2,e7⟩);have HK2:=Hd K2;have HM2:=Hd M2;have HV2:=Hd V2;have HO2:=Hd O2;have HX2:=Hd X2;have HA2:=Hd A2;have HE2:=Hd E2;have H4:=Hd h4;clear h h1 h2 h4 h5 h6 hx hLx hcn e6 hes2 hck2 hW2 B2 e7 K2 M2 V2 O2 X2 A2 E2 HS0
  obtain⟨i0,hi,hz0,hz1,hz2⟩:=info_parts Tryz.infoStr
  by_cases hc0:cn=0
  ·subst hc0
   have hnm:memB (ja7 (L.take k)) x=false:=by
    cases hm:memB (ja7 (L.take k)) x with
    | false=>rfl
    | true=>exact absurd rfl (HMEM.o.1 hm)
   have HNM:=Hd hnm;have hlk':(Instr.lookup 107 (.map (some (w1.heap.size+1))) (.string x) false).run Tryz.prog W=.ok (.int .i64 0) W:=hlk;have hmu':(Instr.mapUpdate 107 (.map (some (w1.heap.size+1))) (.string x) (.int .i64 1)).run Tryz.prog W=.ok () W2:=hmu;have hlk2':(Instr.lookup 107 (.map (some (w1.heap.size+1))) (.string x) false).run Tryz.prog W2=.ok (.int .i64 1) W2:=hlk2;clear hnm hlk hmu hlk2;gi_wp2_with (gi_at_builtin;refine jbF _ rfl (.tmp 27) (.tmp 29) 34 rfl 9 i0 _ 1 16 Tryz.uStrs hi hz0 hz1 hz2 rfl (by decide) (.slice ad n cp) n _ rfl (jce HO2.o ((ExtR W2).alloc _)) ⟨W2.heap.size,0,none⟩ 1 1 [.string x] rfl rfl (jaS (Blk.new W2 _)) (by simp[Value.oneCell']) (by unfold maxLen;omega) (by omega) ?_;intro v' w6 r1 r2 r3;obtain⟨ad',cp',rfl⟩:=jbw r1;have hV6:=(HV2.o.alloc _).keeps r2 (fun e=>by have:=H4.o _ e;omega);have q56:w6.cell? ⟨w1.heap.size,0,none⟩=some (.slice ad n cp):=hV6.cell (i:=0) (by rfl);have f56:w6.frozen? ⟨w1.heap.size,0,none⟩=false:=hV6.frozen)
   have hadd:ja7 (L.take (k+1))=ja7 (L.take k)++[x]:=by rw[HFS.o];unfold addF;rw[if_neg (by rw[HNM.o];simp)]
   have r1':w6.ownsRow 0 9 1 (.slice ad' (n+1) cp') (n+1) ((ja7 (L.take (k+1))).map Value.string):=by rw[hadd,List.map_append];exact r1
   have K6:jah (fun b=>(Value.slice ad n cp).ownBlock=some b) W2 w6:=((jah.refl _ W2).alloc _).trans r2;have hv':∀ b,(Value.slice ad' (n+1) cp').ownBlock=some b→w9.heap.size+2≤b:=fun b hb=>by
    rcases r3 with r3 | r3
    ·exact H4.o b (r3 ▸ hb)
    ·have h9:=r3 b hb;have:=HK2.o.size;rw[World.size_alloc]at h9;omega
   have K7:jah (fun b=>b=w1.heap.size) w6 (w6.setCell ⟨w1.heap.size,0,none⟩ (.slice ad' (n+1) cp')):=jah.oneSet w6 ⟨w1.heap.size,0,none⟩ _;have nO:∀ b,b < w9.heap.size+2→¬(Value.slice ad n cp).ownBlock=some b:=fun b hb e=>by have:=H4.o b e;omega
   refine⟨((HK2.o.mono (fun y _ e=>?_)).trans (K6.mono (fun y _ e=>?_))).trans (K7.mono (fun y _ e=>?_)),?_⟩
   ·have e:y=_:=e;show y≠_∧y≠_;omega
   ·have:=H4.o y e;show y≠_∧y≠_;omega
   ·have e:y=_:=e;show y≠_∧y≠_;omega
   ·obtain⟨es3,ck3,hT1,hT2⟩:=HTAB.o
    exact⟨(HE2.o.trans' K6 (fun y hy e=>by have:=H4.o y e;omega)).trans' K7 (fun y hy e=>by have e:y=_:=e;omega),
     ⟨_,n+1,hV6.set_same (i:=0) _,jbj r1' K7 (fun b hb e=>by have:=hv' b hb;omega),by omega,hv'⟩,
     ⟨es3,ck3,(hT1.keeps K6 (nO _ (by omega))).keeps K7 (by omega),hT2⟩,(HM2.o.keeps K6 (nO _ (by omega))).keeps K7 (by omega),(HX2.o.keeps K6 (nO _ (by omega))).keeps K7 (by omega),
     AtIs.keeps K7 (fun y hy e=>by have:=HALO.o y hy;omega) _ (AtIs.keeps K6 (fun y hy=>nO y (by have:=HALO.o y hy;omega)) _ HA2.o)⟩
  ·have hc1:¬((cn:Int)+1=1):=by omega
   have hc2:(((cn:Int)+1) == 1)=false:=by simp;omega
   have hm:=HMEM.o.2 hc0;have HNM:=Hd hm;clear hm;gi_wp2_with fail
   have hadd:ja7 (L.take (k+1))=ja7 (L.take k):=by rw[HFS.o];unfold addF;rw[if_pos HNM.o]
   refine⟨HK2.o.mono (fun y _ e=>?_),?_⟩
   ·have e:y=_:=e;show y≠_∧y≠_;omega
   ·exact⟨HE2.o,⟨_,n,HV2.o,by rw[hadd];exact HO2.o,by omega,H4.o⟩,HTAB.o,HM2.o,HX2.o,HA2.o⟩
 case hdone =>
  intro W h hd
  obtain⟨v,n,h1,h2,h3,h4⟩:=h.var
  obtain⟨ad,cp,rfl⟩:=jbw h2
  have q5:W.cell? ⟨w1.heap.size,0,none⟩=some (.slice ad n cp):=h1.cell (i:=0) (by rfl);rw[List.take_length,HLD.o]at h2;have H2:=Hd h2;have H4:=Hd h4;have HX:=Hd h.ext;have HD:=Hd hd;have HPT:=Hd (show at0.pt=T from HPT0.o);clear h h1 h2 h4 hd HS0;gi_wp2_with fail
  refine⟨by simp,.inl ⟨_,_,rfl,run_takeDeferred HD.o,?_⟩⟩
  refine⟨_,results_tmp2 rfl _ _ _,?_⟩
  have hK:=jah.onePut W w9.heap.size (.deferred none)
  refine⟨.slice ad n cp,n,rfl,⟨_,_,rfl⟩,by rw[←HPT.o];exact jbj H2.o hK (fun b hb e=>by have:=H4.o b hb;omega),HX.o.putObj (.inr (by omega)) _,fun b hb=>by have:=H4.o b hb;omega⟩
 case hstop=>intro c k W _ _ h;exact h.elim
end
section
open Go Go.RowKit
theorem jhv(x:ByteArray)(r:List ByteArray):(ja7 (x :: r))[0]?=some x:=by
 unfold ja7;rw[List.foldl_cons];have h:∀ (r acc:List ByteArray),acc[0]?=some x→(r.foldl addF acc)[0]?=some x:=by
  intro r;induction r with
  | nil=>intro acc h;exact h
  | cons y r ih =>
   intro acc h;rw[List.foldl_cons];refine ih _ ?_;unfold addF;split
   ·exact h
   ·rw[List.getElem?_append_left (List.getElem?_eq_some_iff.1 h).1];exact h
 exact h r _ (by simp[addF,memB])
theorem jfG(T:PT):(ja7 (jba T))[0]?=some T.text:=by
 obtain⟨t,ks⟩:=T
 unfold jba;exact jhv t _
theorem jih(x y:ByteArray):(x.toList == y.toList)=decide (x=y):=by
 by_cases h:x=y
 ·simp[h]
 ·have h3:¬ x.toList=y.toList:=fun h2=>h (jb7 h2)
  simp only[h,decide_false];exact beq_eq_false_iff_ne.2 h3
theorem jdj{a b:ByteArray}(h:a.data.toList=b.data.toList):a=b:=by
 obtain⟨⟨a⟩⟩:=a
 obtain⟨⟨b⟩⟩:=b
 simp only at h;subst h;rfl
end
section
open Go Go.RowKit
attribute [local go_sem] Oper.semAt_some
theorem jfZ(a y:ByteArray):(a++y).extract 0 a.size=a:=by
 apply ByteArray.ext;rw[ByteArray.data_extract,ByteArray.data_append]
 have:a.size=a.data.size:=rfl
 rw[this]
 simp
theorem jhk(a y:ByteArray):(a++y).extract a.size (a++y).size=y:=by
 apply ByteArray.ext;rw[ByteArray.data_extract,ByteArray.data_append,ByteArray.size_append]
 obtain⟨⟨la⟩⟩:=a
 obtain⟨⟨ly⟩⟩:=y
 show (la.toArray++ly.toArray).extract la.length (la.length+ly.length)=ly.toArray
 simp
theorem jdy(w:World)(b y:ByteArray)(hb:b.size≤100000)(hs:(jam b++y).size≤1000000):Calls Tryz.prog 253 #[.string (jam b++y)] w fun e w'=>e=.returned (.tuple #[.bool false,.string b,.string y,.int .i64 0])∧Ext w w':=by
 obtain⟨o,h1,h2,h3⟩:=jeN b y (by omega)
 have HH:=Hd (jkt w (jam b++y) _ hs h1);have HT:=Hd (fun w1=>jct w1 b (by omega));have hx0:(jam b++y).extract 0 (o+b.size)=jam b:=by rw[h2];exact jfZ _ _
 have hx2:(jam b++y).extract (o+b.size) (jam b++y).size=y:=by rw[h2];exact jhk _ _
 have hle:o+b.size≤(jam b++y).size:=by rw[h2,ByteArray.size_append];omega
 obtain⟨s,hsd⟩:∃ s,s=jam b++y:=⟨_,rfl⟩
 rw[←hsd]at hs HH h3 hx0 hx2 hle ⊢
 obtain⟨n,hn⟩:∃ n,n=b.size:=⟨_,rfl⟩
 rw[←hn]at HH h3 hx0 hx2 hle hb
 obtain⟨t,ht⟩:∃ t,t=jam b:=⟨_,rfl⟩
 rw[←ht]at HT hx0;have hbq:(t.toList != t.toList)=false:=by simp
 have d1:¬(1048576:Int) < (n:Int):=by omega
 have d2:¬(s.size:Int) < (o:Int)+(n:Int):=by omega
 have d3:((o:Int)+(n:Int)).toNat=o+n:=by omega
 have d4:(0:Int)≤(o:Int)+(n:Int):=by omega
 have d5:(o:Int)≤(o:Int)+(n:Int):=by omega
 have d6:(o:Int)+(n:Int)≤(s.size:Int):=by omega
 have d8:(o:Int)+(n:Int)≤9223372036854775807:=by omega
 have d9 : -9223372036854775808≤(o:Int)+(n:Int):=by omega
 clear h1 h2 hsd hn ht hle;unfold HdV at HH;go_enter Tryz.func253,Tryz.ntmps253;go_wp2_with fail
 refine HH.o.mono ?_;rintro e w1 ⟨rfl,hE⟩;have HE1:=Hd hE;clear hE;go_wp2_with fail
 refine (HT.o w1).mono ?_;rintro e w2 ⟨rfl,hE⟩;have HE2:=Hd (HE1.o.trans hE);clear hE;go_wp2_with fail
 refine jad [0,1,2,3,4,5,6,7,8] Ext ExtR ExtT (by kernel_rfl) (by kernel_rfl) (by kernel_rfl) ?_;iterate 9 (refine jac _ rfl (by kernel_rfl) rfl rfl (fun K hK=>?_);go_big_quiet_op;refine hK _ ?_;clear hK K)
 refine jas (by kernel_rfl) (fun w3 he=>?_);have HE3:=Hd (HE2.o.trans ((jaj w2).trans he));clear he;go_wp2_with fail
 exact bodyPost_ret (v:=.tuple #[.bool false,.string b,.string y,.int .i64 0]) (by kernel_rfl) rfl ⟨rfl,HE3.o⟩
theorem jfa(w:World)(xs:List ByteArray)(y:ByteArray)(hb:(catB xs).size≤100000)(hs:(jaR xs++y).size≤1000000):Calls Tryz.prog 253 #[.string (jaR xs++y)] w fun e w'=>e=.returned (.tuple #[.bool true,.string (catB xs),.string y,.int .i64 0])∧Ext w w':=by
 obtain⟨o,h1,h2,h3⟩:=jeM xs y (by omega)
 have HH:=Hd (jkt w (jaR xs++y) _ hs h1);have HT:=Hd (fun w1=>jct w1 (catB xs) (by omega));have HLL:=Hd (fun w1=>jgd (w1.alloc (.cells #[.string (catB xs)] 9)) (.slice (some ⟨w1.heap.size,0,none⟩) 1 1) [catB xs] (jbZ w1 [catB xs] 9) (by simp) (by rw[jdI];omega));have hx0:(jaR xs++y).extract 0 (o+(catB xs).size)=jaR xs:=by rw[h2];exact jfZ _ _
 have hx2:(jaR xs++y).extract (o+(catB xs).size) (jaR xs++y).size=y:=by rw[h2];exact jhk _ _
 have hle:o+(catB xs).size≤(jaR xs++y).size:=by rw[h2,ByteArray.size_append];omega
 obtain⟨b,hbd⟩:∃ b,b=catB xs:=⟨_,rfl⟩
 have hlb:jaR [b]=jaR xs:=by unfold jaR;rw[hbd,jdI]
 rw[←hbd]at hb HH HT HLL h3 hx0 hx2 hle h2 ⊢
 obtain⟨s,hsd⟩:∃ s,s=jaR xs++y:=⟨_,rfl⟩
 rw[←hsd]at hs HH h3 hx0 hx2 hle ⊢
 obtain⟨n,hn⟩:∃ n,n=b.size:=⟨_,rfl⟩
 rw[←hn]at HH h3 hx0 hx2 hle hb
 obtain⟨t,ht⟩:∃ t,t=jaR xs:=⟨_,rfl⟩
 rw[hlb, ←ht]at HLL;rw[←ht]at hx0;have hbq:(t.toList != t.toList)=false:=by simp
 have d1:¬(1048576:Int) < (n:Int):=by omega
 have d2:¬(s.size:Int) < (o:Int)+(n:Int):=by omega
 have d3:((o:Int)+(n:Int)).toNat=o+n:=by omega
 have d4:(0:Int)≤(o:Int)+(n:Int):=by omega
 have d5:(o:Int)≤(o:Int)+(n:Int):=by omega
 have d6:(o:Int)+(n:Int)≤(s.size:Int):=by omega
 have d8:(o:Int)+(n:Int)≤9223372036854775807:=by omega
 have d9 : -9223372036854775808≤(o:Int)+(n:Int):=by omega
 clear h1 h2 hsd hn ht hle hbd hlb;unfold HdV at HH;go_enter Tryz.func253,Tryz.ntmps253;go_wp2_with fail
 refine HH.o.mono ?_;rintro e w1 ⟨rfl,hE⟩;have HE1:=Hd hE;clear hE;go_wp2_with fail
 refine (HT.o w1).mono ?_;rintro e w2 ⟨rfl,hE⟩;have HE2:=Hd (HE1.o.trans hE);clear hE;go_wp2_with fail
 refine (HLL.o w2).mono ?_;rintro e w2' ⟨rfl,hE⟩;have HE2:=Hd ((HE2.o.alloc _).trans hE);clear hE;go_wp2_with fail
 refine jad [0,1,2,3,4,5,6,7,8] Ext ExtR ExtT (by kernel_rfl) (by kernel_rfl) (by kernel_rfl) ?_;iterate 9 (refine jac _ rfl (by kernel_rfl) rfl rfl (fun K hK=>?_);go_big_quiet_op;refine hK _ ?_;clear hK K)
 refine jas (by kernel_rfl) (fun w3 he=>?_);have HE3:=Hd (HE2.o.trans ((jaj w2').trans he));clear he;go_wp2_with fail
 exact bodyPost_ret (v:=.tuple #[.bool true,.string b,.string y,.int .i64 0]) (by kernel_rfl) rfl ⟨rfl,HE3.o⟩
theorem jm7(w:World)(s:ByteArray)(hs:s.size≤1000000):Calls Tryz.prog 214 #[.string s] w fun e w'=>e=.returned (.string (refB s))∧Ext w w':=by
 by_cases hlt:s.size < 32
 ·have hq:(s.size:Int) < 32:=by omega
  go_enter Tryz.func214,Tryz.ntmps214;go_wp2_with fail
  go_ret
  exact⟨by unfold refB;rw[if_pos hlt];rfl,ExtR w⟩
 ·have hq:¬(s.size:Int) < 32:=by omega
  have HO:=Hd (jop w s hs);have HR:=Hd (show refB s=jam (shaB s) by unfold refB;rw[if_neg hlt]);rw[HR.o]
  obtain⟨h,hh⟩:∃ h,h=shaB s:=⟨_,rfl⟩
  have HT:=Hd (fun w1=>jct w1 h (by rw[hh,jcl];omega));rw[←hh]at HO ⊢;clear hh;go_enter Tryz.func214,Tryz.ntmps214;go_wp2_with fail
  refine HO.o.mono ?_;rintro e w1 ⟨rfl,hE⟩;have HE:=Hd hE;clear hE;go_wp2_with fail
  refine (HT.o w1).mono ?_;rintro e w2 ⟨rfl,hE⟩;have HE2:=Hd (HE.o.trans hE);clear hE;go_wp2_with fail
  go_ret
  exact⟨rfl,HE2.o⟩
theorem jks(w:World)(r:ByteArray)(hr:r.size < 32):Calls Tryz.prog 238 #[.string r] w fun e w'=>e=.returned (.tuple #[.string ⟨#[]⟩,.bool false])∧w=w':=by
 have b0:((r.size:Int) == 33)=false:=beq_eq_false_iff_ne.2 (by omega);have b1:((r.size:Int) != 33)=true:=by rw[bne,b0];rfl
 have b2:¬(r.size:Int)=33:=by omega
 go_enter Tryz.func238,Tryz.ntmps238;go_wp2_with fail
 go_ret2
 exact⟨rfl,rfl⟩
theorem jl8{h:ByteArray}(hs:h.size=32):jam h=⟨#[160]⟩++h:=by
 unfold jam;rw[if_neg (by omega)];unfold jbp;rw[hs];rfl
theorem jlI(w:World)(h:ByteArray)(hs:h.size=32):Calls Tryz.prog 238 #[.string (jam h)] w fun e w'=>e=.returned (.tuple #[.string h,.bool true])∧w=w':=by
 rw[jl8 hs]
 obtain⟨r,hr⟩:∃ r:ByteArray,r=⟨#[160]⟩++h:=⟨_,rfl⟩
 have hz:r.size=33:=by rw[hr,ByteArray.size_append,hs];rfl
 have h0:r[0]'(by omega)=160:=by
  subst hr;rfl
 have hx:r.extract 1 33=h:=by
  rw[hr]
  have:=jhk (⟨#[160]⟩:ByteArray) h
  rw[show (⟨#[160]⟩++h:ByteArray).size=33 by rw[ByteArray.size_append,hs];rfl]at this;exact this
 rw[←hr];have b0:(r.size:Int)=33:=by omega
 clear hr;go_enter Tryz.func238,Tryz.ntmps238;go_wp2_with fail
 go_ret2
 exact⟨rfl,rfl⟩
theorem jio(w:World)(p:ByteArray)(hs:p.size≤1000000):Calls Tryz.prog 208 #[.string p] w fun e w'=>e=.returned (.bool (jaO p && decide (p.size≤12)))∧w'=w:=by
 have HV:=Hd (jde w p (by omega))
 obtain⟨b,hb⟩:∃ b,b=jaO p:=⟨_,rfl⟩
 rw[←hb]at HV ⊢;clear hb;go_enter Tryz.func208,Tryz.ntmps208;go_wp2_with fail
 refine HV.o.mono ?_;rintro e w1 ⟨rfl,rfl⟩;cases b with
 | false =>
  go_wp2_with fail
  go_ret
  exact⟨rfl,rfl⟩
 | true =>
  by_cases h12:p.size≤12
  ·have c0:(p.size:Int)≤12:=by omega
   go_wp2_with fail
   go_ret
   exact⟨by simp[h12],rfl⟩
  ·have c0:¬(p.size:Int)≤12:=by omega
   go_wp2_with fail
   go_ret
   exact⟨by simp;omega,rfl⟩
theorem jeC(w:World)(b:ByteArray)(hb:b.size≤100000):Calls Tryz.prog 256 #[.string (jam b)] w fun e w'=>e=.returned (.string b)∧Ext w w':=by
 have hz:=jaA b;have h0:jam b++(⟨#[]⟩:ByteArray)=jam b:=ByteArray.append_empty;have HS:=Hd (jdy w b ⟨#[]⟩ hb (by rw[h0];omega));rw[h0]at HS
 obtain⟨t,ht⟩:∃ t,t=jam b:=⟨_,rfl⟩
 rw[←ht]at HS ⊢;clear ht h0 hz;go_enter Tryz.func256,Tryz.ntmps256;go_wp2_with fail
 refine HS.o.mono ?_;rintro e w1 ⟨rfl,hE⟩;have HE:=Hd hE;clear hE;go_wp2_with fail
 go_ret
 exact⟨rfl,HE.o⟩
end
end Go.Proofs.YtcpnjmcipainpaaGreatDoor
