/- Lemmas; each is under no condition but those that it states. -/
import Derived.Test.YtegloohdmjadoaaGreatDoorPu17
namespace Go.Proofs.YtegloohdmjadoaaGreatDoor
set_option linter.unusedSimpArgs false
set_option linter.unusedVariables false
set_option maxRecDepth 100000
set_option maxHeartbeats 16000000
open Go Go.RowKit
section
attribute [local go_sem] Oper.semAt_some
inductive AT where
 | mk (b:Nat) (text:vB) (v:vV) (kids:List AT)
def AT.root:AT->Nat | .mk b _ _ _=>b
mutual
def AtIs(A:Nat->Prop):AT->vW->Prop
 | .mk b t v ks,W=>A b/\Blk W b (.cells #[.string t,v] 106)/\RdQ A W v (ks.map AT.root)/\jeA A ks W
def jeA(A:Nat->Prop):List AT->vW->Prop
 | [],_=>True
 | k :: ks,W=>AtIs A k W/\jeA A ks W
end
mutual
def AT.pt:AT->PT
 | .mk _ t _ ks=>.mk t (AT.pts ks)
def AT.pts:List AT->List PT
 | []=>[]
 | k :: ks=>AT.pt k :: AT.pts ks
end
mutual
def jaB:PT->vM
 | .mk t ks=>t :: jaA ks
def jaA:List PT->vM
 | []=>[]
 | k :: ks=>jaB k++jaA ks
end
mutual
theorem jyO{A:Nat->Prop}{W:vW}:∀ (T:PT) (b:Nat),jbK A T b W->∃ a:AT,a.root=b/\a.pt=T/\AtIs A a W
 | .mk t ks,b,h=>by
  unfold jbK at h
  obtain⟨e,v,m,o,E,H⟩:=h
  obtain⟨J,K,O,Q⟩:=jvX ks m H
  exact⟨.mk b t v J,rfl,by unfold AT.pt;rw[O],by unfold AtIs;exact⟨e,o,by rw[K];exact E,Q⟩⟩
theorem jvX{A:Nat->Prop}{W:vW}:∀ (ks:List PT) (bs:List Nat),jaW A ks bs W->∃ e:List AT,e.map AT.root=bs/\AT.pts e=ks/\jeA A e W
 | [],bs,h=>by
  unfold jaW at h;subst h
  exact⟨[],rfl,by unfold AT.pts;rfl,by unfold jeA;trivial⟩
 | x :: ks,bs,h=>by
  unfold jaW at h
  obtain⟨b,r,rfl,m,o⟩:=h
  obtain⟨a,E,H,J⟩:=jyO x b m
  obtain⟨e,K,O,Q⟩:=jvX ks r o
  exact⟨a :: e,by rw[bT,E,K],by unfold AT.pts;rw[H,O],by unfold jeA;exact⟨J,Q⟩⟩
end
mutual
theorem AtIs.keeps{A:Nat->Prop}{F:BSet}{W W':vW}(k:jae F W W')(hF:∀ x,A x->¬ F x):∀ (a:AT),AtIs A a W->AtIs A a W'
 | .mk b t v ks,h=>by
  unfold AtIs at *
  obtain⟨e,m,o,E⟩:=h
  exact⟨e,m.keeps k (hF b e),o.keeps k hF,jeA.keeps k hF ks E⟩
theorem jeA.keeps{A:Nat->Prop}{F:BSet}{W W':vW}(k:jae F W W')(hF:∀ x,A x->¬ F x):∀ (ks:List AT),jeA A ks W->jeA A ks W'
 | [],_=>by unfold jeA;trivial
 | x :: ks,h=>by
  unfold jeA at *
  exact⟨AtIs.keeps k hF x h.1,jeA.keeps k hF ks h.2⟩
end
theorem jeA.get{A:Nat->Prop}{W:vW}:∀ (ks:List AT) (j:Nat) (a:AT),jeA A ks W->ks[j]?=some a->AtIs A a W
 | [],j,a,_,h=>by simp at h
 | x :: ks,0,a,h,hj=>by simp at hj;subst hj;unfold jeA at h;exact h.1
 | x :: ks,j+1,a,h,hj=>by unfold jeA at h;exact jeA.get ks j a h.2 (by simpa using hj)
theorem jlJ:∀ (ks:List AT) (j:Nat) (a:AT),ks[j]?=some a->jaA (AT.pts (ks.take (j+1)))=jaA (AT.pts (ks.take j))++jaB a.pt
 | [],j,a,h=>by simp at h
 | x :: ks,0,a,h=>by
  simp at h;subst h;simp[AT.pts,jaA]
 | x :: ks,j+1,a,h=>by
  have:=jlJ ks j a (by simpa using h)
  simp only[dU,AT.pts,jaA,this,cB]
theorem joj:∀ (ks:List AT) (j:Nat),∃ r,jaA (AT.pts ks)=jaA (AT.pts (ks.take j))++r
 | ks,0=>⟨jaA (AT.pts ks),by simp[AT.pts,jaA]⟩
 | [],j+1=>⟨[],by simp[AT.pts,jaA]⟩
 | x :: ks,j+1=>by
  obtain⟨r,h⟩:=joj ks j
  exact⟨r,by simp only[dU,AT.pts,jaA,h,cB]⟩
def jeb(L m:vM)(p:Nat):Prop:=∀ j x,m[j]?=some x->L[p+j]?=some x
theorem jeb.left{L m n:vM}{p:Nat}(h:jeb L (m++n) p):jeb L m p:=fun j x e=>h j x (by rw[cP (bO.1 e).1];exact e)
theorem jeb.right{L m n:vM}{p:Nat}(h:jeb L (m++n) p):jeb L n (p+m.length):=fun j x e=>by
 have:=h (m.length+j) x (by rw[cV vO,Nat.add_sub_cancel_left];exact e)
 rw[Nat.add_assoc];exact this
theorem jeb.le{L m:vM}{p:Nat}(h:jeb L m p)(hm:m≠[]):p+m.length<=L.length:=by
 have e:0 < m.length:=fV.2 hm
 have:=h (m.length - 1) _ (bA vO)
 have:=(bO.1 this).1
 omega
theorem juz(T:PT):1<=(jaB T).length:=by cases T;unfold jaB;simp
theorem joi:∀ (ks:List AT),ks.length<=(jaA (AT.pts ks)).length
 | []=>by simp
 | x :: ks=>by
  have:=joi ks
  have:=juz x.pt
  simp only[AT.pts,jaA,bF,bP];omega
def jj3(C Cx:Nat->vW->Prop)(n N:Nat)(e:Ending)(W':vW):Prop:=(e=.returned (.bool true)/\C n W')\/(e=.returned (.bool false)/\∃ q,0 < q/\q<=N/\Cx q W')
def jwz(C:Nat->vW->Prop)(p:Nat)(ks:List AT)(v:vV)(wr:vW):Prop:=∃ j:Nat,j<=ks.length/\v=.int .i64 j/\C (p+1+(jaA (AT.pts (ks.take j))).length) wr
theorem jtw(A:Nat->Prop)(l:Nat)(C Cx:Nat->vW->Prop)(hC:∀ k,St (C k))(L:vM)(hLn:L.length<=1000000)
  (hY:∀ j m,j < L.length->C j m->jqK Tryz.prog l #[.string (L.getD j ⟨#[]⟩)] m (C (j+1)) (Cx (j+1)))
  (b:Nat) (t:vB) (v:vV) (ks:List AT)
  (IHk:∀ a∈ks,∀ (p:Nat) (W:vW),jeb L (jaB a.pt) p->(∀ j m,C j m->AtIs A a m)->C p W ->
   CallsIn Fence.wide 0 Tryz.prog 64 #[ptrV a.root,.func (.yield l) #[] #[]] W (jj3 C Cx (p+(jaB a.pt).length) L.length))
  (p:Nat) (W:vW) (hL:jeb L (jaB (AT.mk b t v ks).pt) p) (hS:∀ j m,C j m->AtIs A (.mk b t v ks) m) (h0:C p W) :
   CallsIn Fence.wide 0 Tryz.prog 64 #[ptrV b,.func (.yield l) #[] #[]] W (jj3 C Cx (p+(jaB (AT.mk b t v ks).pt).length) L.length):=by
  have e1:jaB (AT.pt (.mk b t v ks))=t :: jaA (AT.pts ks):=by unfold AT.pt jaB;rfl
  rw[e1]at hL ⊢;have hp:p < L.length:=by have:=hL 0 t rfl;exact (bO.1 this).1
  have hg:L.getD p ⟨#[]⟩=t:=by rw[bC];have:=hL 0 t rfl;rw[fX]at this;rw[this];rfl
  have J:∀ j m,C j m->Blk m b (.cells #[.string t,v] 106)/\RdQ A m v (ks.map AT.root)/\jeA A ks m:=fun j m h=>by
   have:=hS j m h;unfold AtIs at this;exact this.2
  obtain⟨fn,tm,b5,bd,Z,a4⟩:=hY p W hp h0
  rw[hg]at Z;have q0:=(J p W h0).1.cell (i:=0) (v:=.string t) vF
  obtain⟨av,cv,hv⟩:=(J p W h0).2.1.sl
  rw[bU]at hv;subst hv;have b6:ks.length<=1000000:=by
   have h1:=joi ks;have h2:=hL.le (by simp);simp only[bP]at h2;omega
  have a5:=Hd a4;have HS:=Hd J;have HY:=Hd hY;have HC:=Hd hC;have a6:=Hd IHk;have HL:=Hd hL;clear J hS a4 hg h0 e1 hL hY hC IHk;unfold ptrV;refine callsIn_of_wp Tryz.func64 rfl trivial ?_ rfl;simp only[Tryz.ntmps64,dN,bP,dD,Nat.reduceAdd,Nat.reduceSub,dL,dK,dX,dP,cM,cZ];gi_wp2_with fail
  refine⟨rfl,a5.o.mono ?_⟩
  rintro e w5 (⟨rfl,C5⟩ |⟨rfl,C5⟩)
  ·have q1:=(HS.o _ _ C5).1.cell (i:=1) (v:=.slice av ks.length cv) vF
   have K:=Hd C5;clear C5 q0 Z;gi_wp2_with fail
   gi_loopw [19] (fun v wr=>jwz C p ks v wr) (fun v _=>ks.length - (intOf v).toNat)
   case atStart=>exact⟨0,by omega,rfl,by simpa [AT.pts,jaA]using K.o⟩
   case round =>
    obtain⟨j,hj,rfl,E⟩:=hrel
    by_cases hlt:j < ks.length
    ·obtain⟨a7,a0,a8⟩:=HS.o _ _ E
     obtain⟨a,ha⟩:∃ a,ks[j]?=some a:=⟨_,bA hlt⟩
     have O:a∈ks:=bE ha;have a1:=jlJ ks j a ha
     obtain⟨a3,Q⟩:=joj ks (j+1)
     have X:jeb L (jaB a.pt) (p+1+(jaA (AT.pts (ks.take j))).length):=by
      have h1:jeb L ([t]++(jaA (AT.pts (ks.take j))++(jaB a.pt++a3))) p:=by
       have:=HL.o
       rw[Q,a1,cB]at this;exact this
      exact (h1.right.right).left
     rcases a0 with⟨_,h0⟩ |⟨g,c,hh,_,_,_,_,hcell⟩
     ·rw[List.map_eq_nil_iff]at h0;rw[h0]at hlt;cases hlt
     obtain⟨rfl,a9,b0⟩:=cT hh
     clear a9 b0;have qj:wr.cell? ⟨g,j,none⟩=some (ptrV a.root):=hcell j a.root (by rw[bV,ha];rfl)
     obtain⟨ar,a2⟩:=vE a.root
     rw[<-a2]at qj;have b1:(j:Int) < (ks.length:Int):=vO
     have ih:=a6.o a O _ wr X (fun j' m h=>jeA.get ks j a (HS.o j' m h).2.2 ha) E;rw[<-a2]at ih;have IH:=Hd ih;have b2:=Hd a1;unfold ptrV at qj;clear a7 a8 hcell hh Q X ih a1 E ha a2 q1 O K;gi_wp2_with fail
     refine⟨trivial,rfl,IH.o.mono ?_⟩
     rintro e w6 (⟨rfl,C6⟩ |⟨rfl,q',a0,b3,C6⟩)
     ·have H:=Hd C6
      clear C6;gi_wp2_with fail
      go_roundw
      case rel=>exact⟨j+1,by omega,by go_num,by rw[b2.o,bF, <-Nat.add_assoc];exact H.o⟩
      case measure=>exact vJ
     ·have H:=Hd C6
      clear C6;gi_wp2_with fail
      go_ret;exact .inr ⟨rfl,q',a0,b3,H.o⟩
    ·have b4:j=ks.length:=vO
     subst b4;rw[cE]at E;have H:=Hd E;clear E;gi_wp2_with fail
     go_ret;exact .inl ⟨rfl,by rw[show p+((jaA (AT.pts ks)).length+1)=p+1+(jaA (AT.pts ks)).length by omega];exact H.o⟩
  ·have K:=Hd C5
   clear C5 q0 Z;gi_wp2_with fail
   go_ret;exact .inr ⟨rfl,p+1,by omega,by omega,K.o⟩
theorem jtv(A:Nat->Prop)(l:Nat)(C Cx:Nat->vW->Prop)(hC:∀ k,St (C k))(L:vM)(hLn:L.length<=1000000)
  (hY:∀ j W',j < L.length->C j W'->jqK Tryz.prog l #[.string (L.getD j ⟨#[]⟩)] W' (C (j+1)) (Cx (j+1))) :
  ∀ (a:AT) (p:Nat) (W:vW),jeb L (jaB a.pt) p->(∀ j W',C j W'->AtIs A a W')->C p W ->
   CallsIn Fence.wide 0 Tryz.prog 64 #[ptrV a.root,.func (.yield l) #[] #[]] W (jj3 C Cx (p+(jaB a.pt).length) L.length)
 | .mk b t v ks,p,W,hL,hS,h0=>jtw A l C Cx hC L hLn hY b t v ks (fun a e=>jtv A l C Cx hC L hLn hY a) p W hL hS h0
termination_by a=>SizeOf.sizeOf a
decreasing_by
 have:=List.sizeOf_lt_of_mem e
 simp
 omega
def jqQ(L:vM)(k:Nat):Array vV:=#[.string (L.getD k ⟨#[]⟩)]
theorem jyM(A:Nat->Prop)(bx:Nat)(a:AT)(hLn:(jaB a.pt).length<=1000000):jtM Tryz.prog 63 #[.pointer (some ⟨bx,0,none⟩)] (jaB a.pt).length (jqQ (jaB a.pt)) (fun W=>Blk W bx (.cells #[ptrV a.root] 66)/\AtIs A a W):=by
 intro l C Cx hC m E W hY H;have hT:=jtv A l C Cx hC (jaB a.pt) hLn (fun j J hj hc=>hY j J hj hc) a 0 W (fun j x hx=>by rw[cF];exact hx) (fun j J h=>(E j J h).2) H;have q0:=(E 0 W H).1.cell (i:=0) (v:=ptrV a.root) vF;have HT:=Hd hT;clear hT hY hC m E H;unfold ptrV at q0
 obtain⟨r,K⟩:=vE a.root
 rw[<-K]at q0 HT;have HR:=Hd K;clear K;refine callsIn_of_wp Tryz.func63 rfl trivial ?_ rfl;simp only[Tryz.ntmps63,dN,bP,dD,Nat.reduceAdd,Nat.reduceSub,dL,dK,dX,dP,cM,cZ];gi_wp2_with fail
 refine⟨trivial,rfl,HT.o.mono ?_⟩
 rintro e w5 (⟨rfl,C5⟩ |⟨rfl,q',O,Q,C6⟩)
 ·have X:=Hd C5
  clear C5;gi_wp2_with fail
  refine bodyPost_end (results_none rfl _ _ _) rfl ?_
  exact⟨⟨_,rfl⟩,.inl (by have:=X.o;rw[cF]at this;exact this)⟩
 ·have Z:=Hd C6
  clear C6;gi_wp2_with fail
  refine bodyPost_end (results_none rfl _ _ _) rfl ?_
  exact⟨⟨_,rfl⟩,.inr ⟨q',Q,O,Z.o⟩⟩
theorem jAz(w:vW)(k:Nat):vQ 31 #[ptrV k] w fun e w'=>e=.returned (.func (.func 63) #[] #[.pointer (some ⟨w.heap.size,0,none⟩)])/\Blk w' w.heap.size (.cells #[ptrV k] 66)/\Ext w w':=by
 unfold ptrV;go_enter Tryz.func31,Tryz.ntmps31;go_wp2_with fail
 go_ret
 exact⟨rfl,Blk.new w _,(ExtR w).alloc _⟩
def memB(acc:vM)(x:vB):Bool:=(acc.map (·.data.toList)).contains x.data.toList
theorem jc0(acc:vM)(x:vB):memB acc x=true↔x∈acc:=by
 unfold memB;rw[cO,bI]
 exact⟨fun ⟨y,m,e⟩=>by rw[<-show y=x from ByteArray.ext (Array.ext' e)];exact m,fun h=>⟨x,h,rfl⟩⟩
def addF(acc:vM)(x:vB):vM:=if memB acc x=true then acc else acc++[x]
def jaU(l:vM):vM:=l.foldl addF []
theorem jtP(acc:vM)(x y:vB):y∈addF acc x↔y∈acc\/y=x:=by
 unfold addF;split
 ·rename_i h;exact⟨.inl,fun m=>m.elim id (fun e=>e ▸ (jc0 _ _).1 h)⟩
 ·simp
theorem jbb(l:vM)(y:vB):y∈jaU l↔y∈l:=by
 unfold jaU
 suffices ∀ e,y∈l.foldl addF e↔y∈e\/y∈l by simpa using this []
 induction l with
 | nil=>intro e;simp
 | cons x r ih=>intro e;rw[cN,ih,jtP,bX];exact or_assoc
theorem jfX(l:vM)(x:vB):jaU (l++[x])=addF (jaU l) x:=by
 unfold jaU;rw[dF];rfl
theorem jg1(l:vM):(jaU l).length<=l.length:=by
 unfold jaU
 suffices ∀ e,(l.foldl addF e).length<=e.length+l.length by simpa using this []
 induction l with
 | nil=>intro e;simp
 | cons x r ih =>
  intro e;rw[cN,bP];have m:=ih (addF e x);have o:(addF e x).length<=e.length+1:=by unfold addF;split <;> simp
  omega
theorem jc5{K:Type}[DecidableEq K](k:K)(v:vV)(n:Nat)(k':K):∀ (l:List (Ent K)),ja3 (jbt l k v n) k'=if k'=k then some v else ja3 l k'
 | []=>by
  by_cases h:k'=k
  ·subst h;simp[jbt,ja3]
  ·simp[jbt,ja3,h]
 | x :: r=>by
  have A:=jc5 k v n k' r;unfold jbt
  by_cases hk:k=x.1
  ·rw[if_pos hk]
   by_cases h:k'=k
   ·subst h;simp[ja3]
   ·have m:¬ k'=x.1:=fun e=>h (e.trans hk.symm)
    simp[ja3,h,m]
  ·rw[if_neg hk]
   by_cases h:k'=x.1
   ·have m:¬ k'=k:=fun e=>hk (e.symm.trans h)
    rw[if_neg m];simp[ja3,h]
   ·have o:∀ l,ja3 (x :: l) k'=ja3 l k':=fun l=>by simp[ja3,h]
    rw[o,o,A]
def cntB(l:vM)(x:vB):Nat:=(l.map (·.data.toList)).count x.data.toList
def cntV(n:Nat):Option vV:=if n=0 then none else some (.int .i64 (n:Int))
theorem Tryz.uMapSI:Tryz.prog.underlying 63=some (.map 9 3):=vY
noncomputable abbrev Tryz.ES:ja9 Tryz.prog 9 (vN):=jzh Tryz.uStr
theorem Tryz.zeroI(w:vW):(zeroValue 3).run Tryz.prog w=.ok (.int .i64 0) w:=vY
structure NodS(w:World)(g m:Nat)(A:Nat->Prop)(bx:Nat)(a:AT)(L:vM)(k:Nat)(W:World):Prop where
 ext:Ext w W
 var:∃ v n,Blk W g (.cells #[v] 30)/\W.ownsRow 0 9 1 v n ((jaU (L.take k)).map Value.string)/\n<=k/\∀ b,v.ownBlock=some b->m+2<=b
 tab:∃ es ck,Blk W (g+1) (.map (Tryz.ES.arr es) ck)/\∀ x:vB,ja3 es x.data.toList=cntV (cntB (L.take k) x)
 mv:Blk W (g+2) (.cells #[.map (some (g+1))] 63)
 box:Blk W bx (.cells #[ptrV a.root] 66)
 at':AtIs A a W
theorem NodS.st{w:vW}{g m:Nat}{A:Nat->Prop}{bx:Nat}{a:AT}{L:vM}{k:Nat}{W W':vW}(h:NodS w g m A bx a L k W)(e:Ext W W'):NodS w g m A bx a L k W':=
 let ⟨v,n,h1,h2,h3,h4⟩:=h.var
 let ⟨es,ck,h5,h6⟩:=h.tab
 ⟨h.ext.trans e,⟨v,n,h1.keeps e (fun h=>h),jbl h2 e,h3,h4⟩,⟨es,ck,h5.keeps e (fun h=>h),h6⟩,h.mv.keeps e (fun h=>h),h.box.keeps e (fun h=>h),AtIs.keeps e (fun _ _ h=>h) a h.at'⟩
theorem NodS.put{w:vW}{g m:Nat}{A:Nat->Prop}{bx:Nat}{a:AT}{L:vM}{k:Nat}{W:vW}(h:NodS w g m A bx a L k W){r:Nat}(hr:w.heap.size<=r)(h1:g+2 < r)(h2:r < m+2)(h3:bx≠r)(h4:∀ x,A x->x≠r)(o:Obj):NodS w g m A bx a L k (W.putObj r o):=
 let ⟨v,n,h5,h6,h7,h8⟩:=h.var
 let ⟨es,ck,h9,h10⟩:=h.tab
 ⟨h.ext.putObj (.inr hr) _,⟨v,n,h5.put_other vO _,ja2 h6 (jae.onePut W r o) (fun b hb e=>by have:=h8 b hb;omega),h7,h8⟩,⟨es,ck,h9.put_other vO _,h10⟩,h.mv.put_other vO _,h.box.put_other h3 _,
  AtIs.keeps (jae.onePut W r o) (fun x E e=>h4 x E e) a h.at'⟩
end
def jdh(l:vL):Nat->Nat
 | 0=>0
 | n+1=>jdh l n+(cutL n l).length
def hN(L:vN)(n:Nat):Nat:=match L with | []=>0 | a :: _=>if a.toNat < n then 1 else 0
theorem jw7(p:Pair)(n:Nat):hN p.l (n+1)=hN p.l n+(if jeM n p=true then 1 else 0):=by
 have e:jeM n p=match p.l with | []=>false | a :: _=>a.toNat == n:=rfl
 rw[e];cases p.l with
 | nil=>rfl
 | cons a r =>
  simp only[hN,beq_iff_eq]
  by_cases h1:a.toNat=n
  ·rw[if_pos vO,if_neg vO,if_pos h1]
  ·by_cases h3:a.toNat < n
   ·rw[if_pos vO,if_pos h3,if_neg h1]
   ·rw[if_neg vO,if_neg h3,if_neg h1]
theorem jzd(L:vN)(n:Nat):hN L n<=1:=by
 cases L with
 | nil=>exact cD _
 | cons a r=>simp only[hN];split <;> omega
theorem jfT(p:Pair)(l:vL):∀ n,jdh (p :: l) n=jdh l n+hN p.l n
 | 0=>by
  have:hN p.l 0=0:=by cases p.l <;> simp[hN]
  rw[this];rfl
 | n+1=>by
  have h:(cutL n (p :: l)).length=(cutL n l).length+(if jeM n p=true then 1 else 0):=by
   unfold cutL;rw[fZ];split <;> simp
  unfold jdh;rw[jfT p l n,h,jw7];omega
theorem je6:∀ (l:vL) (n:Nat),jdh l n<=l.length
 | [],n=>by
  have:∀ n,jdh [] n=0:=fun n=>by induction n with
   | zero=>rfl
   | succ n ih=>unfold jdh;rw[ih];rfl
  rw[this];exact cD _
 | p :: l,n=>by
  rw[jfT,bP]
  have:=je6 l n
  have:=jzd p.l n
  omega
theorem jcp:∀ (a b:List PT),jaA (a++b)=jaA a++jaA b
 | [],b=>by simp[jaA]
 | x :: a,b=>by simp only[cZ,jaA,jcp a b,cB]
theorem jiG(T:PT):(jaA (jbo T)).length<=(jaB T).length:=by
 unfold jbo;split <;> simp[jaA]
theorem jzi(B:vL->PT)(F:Nat)(l:vL)(hB:∀ i,(cutL i l).length≠0->(jaB (B (jak 1 (cutL i l)))).length<=F * (cutL i l).length):∀ n,(jaA (ksK B l n)).length<=F * jdh l n
 | 0=>by simp[ksK,jaA,jdh]
 | n+1=>by
  rw[jhV,jcp,bF];unfold jdh;rw[Nat.mul_add]
  have:=jzi B F l hB n
  by_cases h0:(cutL n l).length=0
  ·rw[if_pos h0];simp[jaA];omega
  ·rw[if_neg h0]
   have e:=hB n h0;have m:=jiG (B (jak 1 (cutL n l)));omega
theorem jnh:∀ (f:Nat) (l:vL),l≠[]->(jaB (jac (f+1) l)).length<=(f+1) * l.length
 | f,l,hl=>by
  have A:1<=l.length:=fV.2 hl;show (jaB (.mk (jaO (jao (jac f) l)) (jar (jac f) l))).length<=_;unfold jaB;rw[bP];have E:(jaA (jar (jac f) l)).length<=f * l.length:=by
   unfold jar;split
   ·simp[jaA]
   ·split
    ·cases f with
     | zero =>
      have h:=jiG (jac 0 (jak (comK l) l));have H:jbo (jac 0 (jak (comK l) l))=[]:=rfl;rw[H];simp[jaA]
     | succ f =>
      have h:=jiG (jac (f+1) (jak (comK l) l));have m:=jnh f (jak (comK l) l) (fun e=>by have:=jaL (comK l) l;rw[e]at this;simp at this;omega);rw[jaL]at m;omega
    ·cases f with
     | zero =>
      have:∀ n,ksK (jac 0) l n=[]:=fun n=>by
       induction n with
       | zero=>rfl
       | succ n m =>
        rw[jhV,m];split
        ·rfl
        ·rfl
      have o:=this 16;unfold ksK at o;rw[o];simp[jaA]
     | succ f =>
      have h:=jzi (jac (f+1)) (f+1) l (fun i O=>by
       have m:=jnh f (jak 1 (cutL i l)) (fun e=>by have:=jaL 1 (cutL i l);rw[e]at this;simp at this;omega)
       rwa [jaL]at m) 16
      have J:=Nat.mul_le_mul_left (f+1) (je6 l 16);have K:ksK (jac (f+1)) l 16=(List.range 16).flatMap fun i=>if (cutL i l).length=0 then []else jbo (jac (f+1) (jak 1 (cutL i l))):=rfl
      rw[<-K];exact bG h J
  have:(f+1) * l.length=f * l.length+l.length:=by rw[Nat.succ_mul]
  omega
theorem jh4{l:vL}(h:jtN l):(jaB (jaF l)).length<=13 * l.length+1:=by
 by_cases h0:l=[]
 ·subst h0
  show (jaB (.mk (jaO (jao (jac 12) [])) (jar (jac 12) []))).length<=_
  have:jar (jac 12) []=[]:=rfl
  rw[this];simp[jaB,jaA]
 ·have m:(jaB (jaF l)).length<=13 * (jaM l).length:=jnh 12 (jaM l) (fun e=>h0 (by unfold jaM at e;simpa using e))
  have o:(jaM l).length=l.length:=by unfold jaM;rw[bU]
  rw[o]at m;omega
section
attribute [local go_sem] Oper.semAt_some
theorem Tryz.makeMapSI(W:vW):(Instr.makeMap 63 none).run Tryz.prog W=.ok (.map (some W.heap.size)) (W.alloc (.map #[] 0)):=vY
theorem joN(w:vW)(v:vV)(l:vL)(hc:jbW w)(hv:RdP w v l)(h:jaD l=0):vQ 8 #[v] w fun e w'=>∃ u n,e=.returned (.tuple #[u,.int .i64 0])/\SRow w w' u n (jaU (jaB (jaF l))):=by
 have hm:=jaG h
 obtain⟨a,c,rfl⟩:=hv.sl;have HV:=Hd hv;have HM:=Hd hm;have HC:=Hd hc;have H:=Hd h;have HL:=Hd hm.len
 obtain⟨T,hT⟩:=vE (jaF l)
 rw[<-hT];have d0:=Hd hT;clear hv hm hc h hT;refine (callsIn_wide (n:=0)).1 ?_;refine callsIn_of_wp_marks Tryz.func8 rfl trivial ?_ rfl;simp only[Tryz.ntmps8,dN,bP,dD,Nat.reduceAdd,Nat.reduceSub,dL,dK,dX,dP,cM,cZ];gi_wp2_with fail
 refine⟨trivial,rfl,CallsIn.mono (callsIn_wide.2 (jgV w _ l HV.o (by have:=HL.o;omega) (fun p hp=>by have:=HM.o.size p hp;omega))) ?_⟩
 rintro e w1 ⟨rfl,E⟩;rw[H.o];have HE:=Hd E;have h7:=E.size;clear E;have f2:(Instr.makeMap 63 none).run Tryz.prog (w1.alloc (.cells #[.slice none 0 0] 30))=.ok (.map (some (w1.heap.size+1))) ((w1.alloc (.cells #[.slice none 0 0] 30)).alloc (.map #[] 0)):=by
  rw[<-bR w1 (.cells #[.slice none 0 0] 30)];exact Tryz.makeMapSI _
 gi_wp2_with fail
 obtain⟨W6,Q⟩:=vE (((w1.alloc (.cells #[.slice none 0 0] 30)).alloc (.map #[] 0)).alloc (.cells #[.map (some (w1.heap.size+1))] 63))
 rw[<-Q];have h8:W6.heap.size=w1.heap.size+3:=by rw[Q];simp
 have E6:Ext w1 W6:=by rw[Q];exact (((ExtR w1).alloc _).alloc _).alloc _
 have B5:Blk W6 w1.heap.size (.cells #[.slice none 0 0] 30):=by rw[Q];exact ((Blk.new w1 _).alloc _).alloc _
 have BM:Blk W6 (w1.heap.size+1) (.map #[] 0):=by
  rw[Q];have:=(Blk.new (w1.alloc (.cells #[.slice none 0 0] 30)) (.map #[] 0)).alloc (.cells #[.map (some (w1.heap.size+1))] 63);rwa [bR]at this
 have B6:Blk W6 (w1.heap.size+2) (.cells #[.map (some (w1.heap.size+1))] 63):=by
  rw[Q];have:=Blk.new ((w1.alloc (.cells #[.slice none 0 0] 30)).alloc (.map #[] 0)) (.cells #[.map (some (w1.heap.size+1))] 63);rwa [bR,bR]at this
 clear Q f2
 refine⟨trivial,rfl,CallsIn.mono (callsIn_wide.2 (jwe W6 _ l ((HV.o.ext HE.o).ext E6) (by have:=HL.o;omega) (fun p hp=>by have:=HM.o.size p hp;omega))) ?_⟩
 rintro e w7 ⟨u,rfl,hr⟩;have HR:=Hd hr.rd;have X:Ext W6 w7:=hr.ext;clear hr
 obtain⟨a2,c2,hu⟩:=HR.o.sl
 subst hu;have f3:=Hd X;have d1:=Hd (B5.keeps X (fun h=>h));have d2:=Hd (BM.keeps X (fun h=>h));have d3:=Hd (B6.keeps X (fun h=>h));have b6:=Hd ((HE.o.trans E6).trans X);have i1:=X.size;clear B5 BM B6 E6 X;gi_wp2_with fail
 refine⟨trivial,rfl,CallsIn.mono (callsIn_wide.2 (jkc 12 (jaM l) (jbx HM.o) (by unfold jaM;rw[bU];have:=HL.o;omega) w7 _ (HC.o.ext b6.o) HR.o)) ?_⟩
 rintro e w8 ⟨k,rfl,hk,E⟩;have hk:=jbK.mono (A':=fun x=>w7.heap.size<=x/\x < w8.heap.size) (fun x h1 h2=>⟨h1,h2⟩) _ _ hk
 obtain⟨m,d4,d5,d6⟩:=jyO _ _ hk
 have i2:=E.size;have a4:=Hd (d1.o.keeps E (fun h=>h));have a5:=Hd (d2.o.keeps E (fun h=>h));have a6:=Hd (d3.o.keeps E (fun h=>h));have d7:=Hd (b6.o.trans E);have d8:=Hd d6;have a1:=Hd d5;rw[<-d4];clear hk d4 d5 d6 E d1 d2 d3 b6 f3 HR HE;gi_wp2_with fail
 refine⟨trivial,rfl,CallsIn.mono (callsIn_wide.2 (jAz w8 m.root)) ?_⟩
 rintro e w9 ⟨rfl,b7,E⟩;have b8:m.pt=T:=a1.o.trans d0.o.symm;have a7:(jaB m.pt).length<=1000000:=by
  rw[b8,d0.o];have:=jh4 HM.o;have:=HL.o;omega
 have i3:=b7.lt
 obtain⟨A,hA⟩:∃ A:Nat->Prop,A=fun x=>w7.heap.size<=x/\x < w8.heap.size:=⟨_,rfl⟩
 have S0:NodS w w1.heap.size w9.heap.size A w8.heap.size m (jaB m.pt) 0 w9:=
  ⟨d7.o.trans E,⟨_,0,a4.o.keeps E (fun h=>h),by simpa [jaU]using fR _ _ _ _,bM _,fun b hb=>by cases hb⟩,⟨[],0,a5.o.keeps E (fun h=>h),fun x=>by simp[ja3,cntB,cntV]⟩,a6.o.keeps E (fun h=>h),b7,by rw[hA];exact AtIs.keeps E (fun _ _ h=>h) _ d8.o⟩
 have b3:=Hd S0;have a8:∀ x,A x->w1.heap.size+2 < x/\x < w9.heap.size:=fun x hx=>by rw[hA]at hx;omega
 have g6:w1.heap.size+2 < w8.heap.size:=vO
 obtain⟨L,b9⟩:=vE (jaB m.pt)
 have c0:=jyM A w8.heap.size m a7;rw[<-b9]at c0 a7 b3;have f4:=Hd c0;have f5:=Hd b9;have J:=Hd a8;have c9:=Hd b8;clear S0 E b7 hA d7 a4 a5 a6 d8 a1 b8 b9 c0 a8;unfold ptrV;gi_wp2_with fail
 refine jez (N:=L.length) (gf:=63) (lb:=#[.pointer (some ⟨w8.heap.size,0,none⟩)]) rfl (vX 63) f4.o
  (fun k=>rfl) (NodS w w1.heap.size w9.heap.size A w8.heap.size m L) (fun _ _ _=>False) (fun k W W' h e=>h.st e) (fun _ _ _ _ h _=>h) (fun k W h=>⟨h.box,h.at'⟩)
  (fun k W o h=>h.put vO vO vO vO (fun x hx=>by have:=J.o x hx;omega) _)
  (fun k W o h=>h.put vO vO vO vO (fun x hx=>by have:=J.o x hx;omega) _) (fun _ _ _ _ h=>h)
  b3.o (fun k=>{ tmps:=#[.slice a l.length c,undef,.slice none 0 0,.int .i64 0,.int .i64 0,.pointer (some ⟨w1.heap.size,0,none⟩),.pointer (some ⟨w1.heap.size+1+1,0,none⟩),.string (L.getD k ⟨#[]⟩),.slice a l.length c,.int .i64 0,.int .i64 0,.bool false,undef,.map (some (w1.heap.size+1)),.slice a l.length c,.slice a2 (jaM l).length c2,.pointer (some ⟨m.root,0,none⟩),.func (.func 63) #[] #[.pointer (some ⟨w8.heap.size,0,none⟩)],.string (L.getD k ⟨#[]⟩),undef,undef,undef,undef,undef,undef,undef,undef,undef,undef,undef,undef,undef],defers:=[] })
  ?hassign ?hbody ?hdone ?hstop
 case hassign =>
  intro l2 j W K hK;unfold jqQ;rw[jzb];simp only[dJ,dB];gi_wp2;exact hK
 case hbody =>
  intro l2 k W hk h i4
  obtain⟨v,n,h1,h2,h3,h4⟩:=h.var
  obtain⟨ad,cp,rfl⟩:=jaR h2
  obtain⟨es,ck,h5,h6⟩:=h.tab
  obtain⟨x,hx⟩:=vE (L.getD k ⟨#[]⟩)
  rw[<-hx];have c1:L.take (k+1)=L.take k++[x]:=by
   rw[cS hk,hx,bC,bA hk];rfl
  obtain⟨cn,a3⟩:=vE (cntB (L.take k) x)
  have i5:cn<=1000000:=by
   rw[a3];unfold cntB;refine bG jD ?_;rw[bU,cL];omega
  have e6:=h6 x;rw[<-a3]at e6;have d9:(Instr.lookup 63 (.map (some (w1.heap.size+1))) (.string x) false).run Tryz.prog W=.ok (.int .i64 (cn:Int)) W:=by
   have:=jcT Tryz.ES Tryz.uMapSI h5 (Tryz.zeroI W) x.data.toList false
   rw[e6]at this;unfold cntV at this
   by_cases h0:cn=0
   ·rw[if_pos h0]at this;rw[h0];exact this
   ·rw[if_neg h0]at this;exact this
  obtain⟨b4,Z⟩:=vE (jbt es x.data.toList (.int .i64 ((cn:Int)+1)) ck)
  obtain⟨c3,a9⟩:=vE (if (ja3 es x.data.toList).isSome then ck else ck+1)
  obtain⟨O,b5⟩:=vE (W.putObj (w1.heap.size+1) (.map (Tryz.ES.arr b4) c3))
  have e0:(Instr.mapUpdate 63 (.map (some (w1.heap.size+1))) (.string x) (.int .i64 ((cn:Int)+1))).run Tryz.prog W=.ok () O:=by
   have:=jcs Tryz.ES Tryz.uMapSI h5 x.data.toList (.int .i64 ((cn:Int)+1))
   rw[<-Z, <-a9, <-b5]at this;exact this
  have B2:Blk O (w1.heap.size+1) (.map (Tryz.ES.arr b4) c3):=by rw[b5];exact h5.put_same _
  have e7:∀ y:vB,ja3 b4 y.data.toList=cntV (cntB (L.take (k+1)) y):=fun y=>by
   rw[Z,jc5,h6 y,c1];have hc:cntB (L.take k++[x]) y=cntB (L.take k) y+(if x.data.toList=y.data.toList then 1 else 0):=by
    unfold cntB;rw[bZ,List.count_append,bT,gN,List.count_singleton]
    simp
   rw[hc]
   by_cases hxy:y.data.toList=x.data.toList
   ·have f6:y=x:=ByteArray.ext (Array.ext' hxy)
    subst f6;rw[if_pos rfl,if_pos rfl, <-a3];unfold cntV;rw[if_neg vO];simp
   ·rw[if_neg hxy,if_neg (fun e=>hxy e.symm)];rfl
  have b0:(Instr.lookup 63 (.map (some (w1.heap.size+1))) (.string x) false).run Tryz.prog O=.ok (.int .i64 ((cn:Int)+1)) O:=by
   have:=jcT Tryz.ES Tryz.uMapSI B2 (Tryz.zeroI O) x.data.toList false
   rw[Z,jc5,if_pos rfl]at this;exact this
  have K2:jae (fun b=>b=w1.heap.size+1) W O:=by rw[b5];exact jae.onePut _ _ _
  have q6:W.cell? ⟨w1.heap.size+1+1,0,none⟩=some (.map (some (w1.heap.size+1))):=h.mv.cell (i:=0) vF;have M2:=h.mv.keeps K2 vO;have i6:O.cell? ⟨w1.heap.size+1+1,0,none⟩=some (.map (some (w1.heap.size+1))):=M2.cell (i:=0) vF;have V2:=h1.keeps K2 vO;have O2:=ja2 h2 K2 (fun b hb e=>by have:=h4 b hb;omega);have X2:=h.box.keeps K2 vO;have A2:=AtIs.keeps K2 (fun y hy e=>by have:=J.o y hy;omega) _ h.at';have E2:=h.ext.trans' K2 (fun y hy e=>by omega);have i7:=V2.cell (i:=0) (v:=.slice ad n cp) vF;have g7:O.frozen? ⟨w1.heap.size,0,none⟩=false:=V2.frozen;have b1:=Hd (show memB (jaU (L.take k)) x=true↔cn≠0 from by
   rw[jc0,jbb,a3];unfold cntB;rw[<-Nat.pos_iff_ne_zero,gT,bI]
   exact⟨fun hm=>⟨x,hm,rfl⟩,fun ⟨y,hy,e⟩=>by rw[<-show y=x from ByteArray.ext (Array.ext' e)];exact hy⟩)
  have e1:=Hd (show jaU (L.take (k+1))=addF (jaU (L.take k)) x by rw[c1,jfX]);have b2:=Hd (show ∃ es ck,Blk O (w1.heap.size+1) (.map (Tryz.ES.arr es) ck)/\∀ y:vB,ja3 es y.data.toList=cntV (cntB (L.take (k+1)) y)from⟨b4,c3,B2,e7⟩);have c4:=Hd K2;have e2:=Hd M2;have e3:=Hd V2;have e4:=Hd O2;have e5:=Hd X2;have a1:=Hd A2;have e8:=Hd E2;have H4:=Hd h4;clear h h1 h2 h4 h5 h6 hx c1 a3 e6 Z a9 b5 B2 e7 K2 M2 V2 O2 X2 A2 E2 b3
  obtain⟨i0,hi,f7,f8,f9⟩:=info_parts Tryz.infoStr
  by_cases hc0:cn=0
  ·subst hc0
   have e9:memB (jaU (L.take k)) x=false:=by
    cases hm:memB (jaU (L.take k)) x with
    | false=>rfl
    | true=>exact absurd rfl (b1.o.1 hm)
   have c5:=Hd e9;have g8:(Instr.lookup 63 (.map (some (w1.heap.size+1))) (.string x) false).run Tryz.prog W=.ok (.int .i64 0) W:=d9;have g9:(Instr.mapUpdate 63 (.map (some (w1.heap.size+1))) (.string x) (.int .i64 1)).run Tryz.prog W=.ok () O:=e0;have f1:(Instr.lookup 63 (.map (some (w1.heap.size+1))) (.string x) false).run Tryz.prog O=.ok (.int .i64 1) O:=b0;clear e9 d9 e0 b0;gi_wp2_with (gi_at_builtin;refine jb1 _ rfl (.tmp 27) (.tmp 29) 30 rfl 9 i0 _ 1 16 Tryz.uStrs hi f7 f8 f9 rfl vI (.slice ad n cp) n _ rfl (jbl e4.o ((ExtR O).alloc _)) ⟨O.heap.size,0,none⟩ 1 1 [.string x] rfl rfl (jaH (Blk.new O _)) (by simp[Value.oneCell']) (by unfold maxLen;omega) vO ?_;intro v' w6 r1 r2 r3;obtain⟨c6,c7,rfl⟩:=jaR r1;have c8:=(e3.o.alloc _).keeps r2 (fun e=>by have:=H4.o _ e;omega);have i8:w6.cell? ⟨w1.heap.size,0,none⟩=some (.slice ad n cp):=c8.cell (i:=0) vF;have i9:w6.frozen? ⟨w1.heap.size,0,none⟩=false:=c8.frozen)
   have a0:jaU (L.take (k+1))=jaU (L.take k)++[x]:=by rw[e1.o];unfold addF;rw[if_neg (by rw[c5.o];simp)]
   have g0:w6.ownsRow 0 9 1 (.slice c6 (n+1) c7) (n+1) ((jaU (L.take (k+1))).map Value.string):=by rw[a0,bZ];exact r1
   have K6:jae (fun b=>(Value.slice ad n cp).ownBlock=some b) O w6:=((jae.refl _ O).alloc _).trans r2;have f0:∀ b,(Value.slice c6 (n+1) c7).ownBlock=some b->w9.heap.size+2<=b:=fun b hb=>by
    rcases r3 with r3 | r3
    ·exact H4.o b (r3 ▸ hb)
    ·have h9:=r3 b hb;have:=c4.o.size;rw[bR]at h9;omega
   have K7:jae (fun b=>b=w1.heap.size) w6 (w6.setCell ⟨w1.heap.size,0,none⟩ (.slice c6 (n+1) c7)):=jae.oneSet w6 ⟨w1.heap.size,0,none⟩ _;have nO:∀ b,b < w9.heap.size+2->¬(Value.slice ad n cp).ownBlock=some b:=fun b hb e=>by have:=H4.o b e;omega
   refine⟨((c4.o.mono (fun y _ e=>?_)).trans (K6.mono (fun y _ e=>?_))).trans (K7.mono (fun y _ e=>?_)),?_⟩
   ·have e:y=_:=e;show y≠_/\y≠_;omega
   ·have:=H4.o y e;show y≠_/\y≠_;omega
   ·have e:y=_:=e;show y≠_/\y≠_;omega
   ·obtain⟨g1,g2,g3,g4⟩:=b2.o
    exact⟨(e8.o.trans' K6 (fun y hy e=>by have:=H4.o y e;omega)).trans' K7 (fun y hy e=>by have e:y=_:=e;omega),
     ⟨_,n+1,c8.set_same (i:=0) _,ja2 g0 K7 (fun b hb e=>by have:=f0 b hb;omega),by omega,f0⟩,
     ⟨g1,g2,(g3.keeps K6 (nO _ vO)).keeps K7 vO,g4⟩,(e2.o.keeps K6 (nO _ vO)).keeps K7 vO,(e5.o.keeps K6 (nO _ vO)).keeps K7 vO,
     AtIs.keeps K7 (fun y hy e=>by have:=J.o y hy;omega) _ (AtIs.keeps K6 (fun y hy=>nO y (by have:=J.o y hy;omega)) _ a1.o)⟩
  ·have j0:¬((cn:Int)+1=1):=vO
   have j1:(((cn:Int)+1) == 1)=false:=by simp;omega
   have hm:=b1.o.2 hc0;have c5:=Hd hm;clear hm;gi_wp2_with fail
   have a0:jaU (L.take (k+1))=jaU (L.take k):=by rw[e1.o];unfold addF;rw[if_pos c5.o]
   refine⟨c4.o.mono (fun y _ e=>?_),?_⟩
   ·have e:y=_:=e;show y≠_/\y≠_;omega
   ·exact⟨e8.o,⟨_,n,e3.o,by rw[a0];exact e4.o,by omega,H4.o⟩,b2.o,e2.o,e5.o,a1.o⟩
 case hdone =>
  intro W h hd
  obtain⟨v,n,h1,h2,h3,h4⟩:=h.var
  obtain⟨ad,cp,rfl⟩:=jaR h2
  have q5:W.cell? ⟨w1.heap.size,0,none⟩=some (.slice ad n cp):=h1.cell (i:=0) vF;rw[cE,f5.o]at h2;have H2:=Hd h2;have H4:=Hd h4;have HX:=Hd h.ext;have HD:=Hd hd;have g5:Hid (m.pt=T):=c9.o;clear h h1 h2 h4 hd b3;gi_wp2_with fail
  refine⟨by simp,.inl ⟨_,_,rfl,run_takeDeferred HD.o,?_⟩⟩
  refine⟨_,results_tmp2 rfl _ _ _,?_⟩
  have hK:=jae.onePut W w9.heap.size (.deferred none)
  refine⟨.slice ad n cp,n,rfl,⟨_,_,rfl⟩,by rw[<-g5.o];exact ja2 H2.o hK (fun b hb e=>by have:=H4.o b hb;omega),HX.o.putObj (.inr vO) _,fun b hb=>by have:=H4.o b hb;omega⟩
 case hstop=>intro c k W _ _ h;exact h.elim
end
theorem jng(x:vB)(r:vM):(jaU (x :: r))[0]?=some x:=by
 unfold jaU;rw[cN];have h:∀ (r e:vM),e[0]?=some x->(r.foldl addF e)[0]?=some x:=by
  intro r;induction r with
  | nil=>intro e h;exact h
  | cons y r ih =>
   intro e h;rw[cN];refine ih _ ?_;unfold addF;split
   ·exact h
   ·rw[cP (bO.1 h).1];exact h
 exact h r _ (by simp[addF,memB])
theorem jjF(T:PT):(jaU (jaB T))[0]?=some T.text:=by
 obtain⟨t,ks⟩:=T
 unfold jaB;exact jng t _
theorem jhX(x y:vB):(x.toList == y.toList)=decide (x=y):=by
 by_cases h:x=y
 ·simp[h]
 ·have e:¬ x.toList=y.toList:=fun m=>h (jdE m)
  simp only[h,decide_false];exact beq_eq_false_iff_ne.2 e
theorem jbu{t:vB}:∀ {ks:List PT},t∈jaA ks↔∃ T∈ks,t∈jaB T
 | []=>by simp[jaA]
 | T :: ks=>by
  unfold jaA;rw[bW,jbu (ks:=ks)];constructor
  ·rintro (h |⟨o,e,m⟩)
   ·exact⟨T,bK,h⟩
   ·exact⟨o,bH _ e,m⟩
  ·rintro⟨o,e,m⟩
   rcases bX.1 e with rfl | e
   ·exact .inl m
   ·exact .inr ⟨o,e,m⟩
theorem jAy{P:Program}{f:FuncId}{args:Array vV}{w:vW}{R R':vV->vW->Prop}
  (h:Calls P f args w fun | .returned v,w'=>R v w' | _,_=>False) (h':Calls P f args w fun | .returned v,w'=>R' v w' | _,_=>False) (hi:P.inits.idxOf? f=none) :
  ∃ v w',R v w'/\R' v w':=by
 obtain⟨n,v,w1,e,o⟩:=h.done hi
 obtain⟨m,H,J,A,E⟩:=h'.done hi
 have a:=runN_ended e m;have b:=runN_ended A n;rw[iK,a]at b;injection b with ho hw;injection ho with hv;subst hv hw
 exact⟨_,_,o,E⟩
theorem jtT{P:Program}{f:FuncId}{args:Array vV}{w:vW}{a b:vV}{R R':vW->Prop}
  (h:Calls P f args w fun e w'=>e=.returned a/\R w') (h':Calls P f args w fun e w'=>e=.returned b/\R' w') (hi:P.inits.idxOf? f=none):a=b:=by
 obtain⟨v,w',o,A⟩:=jAy (R:=fun v _=>v=a) (R':=fun v _=>v=b)
  (h.mono fun e w' m=>by obtain⟨rfl,_⟩:=m;rfl) (h'.mono fun e w' m=>by obtain⟨rfl,_⟩:=m;rfl) hi
 exact o.symm.trans A
theorem jsy{n m:jad}(h:n.V=m.V):n=m:=by
 obtain⟨k,p,v,A⟩:=n
 obtain⟨E,Q,X,e⟩:=m
 unfold jad.V jad.cells at h;injection h with h;have h:=congrArg Array.toList h;simp only[List.toList_toArray,List.cons.injEq,Value.int.injEq,Value.string.injEq]at h
 obtain⟨⟨_,o⟩,H,J,K⟩:=h
 have O:A=e:=by
  have:∀ a b:vM,a.map Value.string=b.map Value.string->a=b:=fun a=>by
   induction a with
   | nil=>intro b hb;cases b with | nil=>rfl | cons x y=>cases hb
   | cons x r ih =>
    intro b hb;cases b with
    | nil=>cases hb
    | cons y t =>
     simp only[bT,List.cons.injEq,Value.string.injEq]at hb;rw[hb.1,ih t hb.2]
  exact this _ _ K
 have o:k=E:=vO
 subst o H J O;rfl
theorem jgw(w:vW){f g:Nat}{n m:jad}(hn:jbI (InlD f) n)(hm:jbI (InlD g) m)(h:jaO n=jaO m):n=m:=by
 have e:=jiz (inlP f) w n hn;have o:=jiz (inlP g) w m hm;rw[h]at e
 have:=jtT e o vY
 injection this with this
 have:=congrArg Array.toList this
 simp only[List.toList_toArray,List.cons.injEq]at this;exact jsy this.1
theorem jqu{a b:vB}(ha:a.size=32)(hb:b.size=32)(h:jap a=jap b):a=b:=by
 obtain⟨r,e,m⟩:=jej a ha
 obtain⟨s,o,A⟩:=jej b hb
 rw[h]at e m;rw[e]at o;obtain rfl:=bN o;rw[m]at A;exact bN A
theorem jet{T:PT}(h:T.text.size < 32):refB T.text=T.text:=by unfold refB;rw[if_pos h]
theorem jgA{T:PT}(h:¬ T.text.size < 32):refB T.text=jap (shaB T.text):=by unfold refB;rw[if_neg h]
theorem jg4{f:Nat}{T:PT}{n:jad}(h:jdW f T n)(hs:T.text.size < 32):jaB T=[T.text]:=by
 have e:=h.small hs
 obtain⟨x,ks⟩:=T
 have e:ks=[]:=e;subst e;unfold jaB jaA;rfl
theorem jhR{T:PT}(h:¬ T.text.size < 32):jaA (jbo T)=jaB T:=by
 unfold jbo;rw[if_neg h];simp[jaA]
theorem jc2(T:PT):T.text∈jaB T:=by cases T;unfold jaB;exact bK
theorem jbM{l:vL}(h:jax 0 l):l.length<=1:=by
 rcases fH l.length 2 with h2 | h2
 ·omega
 ·obtain⟨a,m⟩:∃ a,l[0]?=some a:=⟨_,bA vO⟩
  obtain⟨b,hb⟩:∃ b,l[1]?=some b:=⟨_,bA vO⟩
  have e:=jb9 h.rise vO m hb
  have:=(h.size b (bE hb)).1
  rw[show b.l=[]from bD (by show b.1.size=0;omega)]at e;exact absurd e (not_lt_nil _)
theorem jbE{a b:vB}(h:a.data.toList=b.data.toList):a=b:=by
 obtain⟨⟨a⟩⟩:=a
 obtain⟨⟨b⟩⟩:=b
 simp only at h;subst h;rfl
def jcL(r:vB):Option vB:=(cutN r).bind (jgl r)
def jaZ(n:jad):vM:=n.refs.filterMap jcL
theorem jgm:jcL ⟨#[]⟩=none:=by
 unfold jcL cutN;rw[dif_neg vI];rfl
theorem jeh{h:vB}(hs:h.size=32):jcL (jap h)=some h:=by
 obtain⟨r,e,m⟩:=jej h hs
 unfold jcL;rw[e];exact m
theorem jdM{I:vB->jad->Prop}(HI:InlP I){r:vB}{m:jad}(h:I r m):jcL r=none:=by
 obtain⟨q,e,o⟩:=HI.nohash r m h
 unfold jcL;rw[e];exact o
theorem jlQ{f:Nat}{T:PT}{n:jad}(h:jdW f T n):(jcL (refB T.text)).toList=(jbo T).map fun k=>shaB k.text:=by
 by_cases hs:T.text.size < 32
 ·rw[jdM (inlP (f+1)) (h.may.2 hs)]
  unfold jbo;rw[if_pos hs];rfl
 ·rw[jgA hs,jeh (jbA _)]
  unfold jbo;rw[if_neg hs];rfl
theorem jek(k:Nat):(jam k).filterMap jcL=[]:=by
 unfold jam;rw[List.filterMap_eq_nil_iff];intro r e;rw[fQ e,jgm]
theorem jiy{α:Type}(g:α->vB)(k:α->List PT):∀ L:List α,(∀ i∈L,(jcL (g i)).toList=(k i).map fun k=>shaB k.text)->(L.map g).filterMap jcL=(L.flatMap k).map fun k=>shaB k.text
 | [],_=>rfl
 | x :: L,h=>by
  rw[bT,dI,bZ, <-jiy g k L fun i e=>h i (bH _ e), <-h x bK,fW];cases jcL (g x) <;> rfl
theorem je9(f:Nat)(l:vL)(h:jax f l):jaZ (jao (jac f) l)=(jar (jac f) l).map fun k=>shaB k.text:=by
 unfold jaZ
 by_cases h0:l.length=0
 ·have o:jao (jac f) l=jav:=by unfold jao;rw[if_pos h0]
  have A:jar (jac f) l=[]:=by unfold jar;rw[if_pos vO]
  rw[o,A];exact jek 16
 by_cases h1:l.length=1
 ·have o:jao (jac f) l=⟨1,(l.getD 0 pd).1,(l.getD 0 pd).2,jam 16⟩:=by unfold jao;rw[if_neg h0,if_pos h1]
  have A:jar (jac f) l=[]:=by unfold jar;rw[if_pos vO]
  rw[o,A];exact jek 16
 have O:2<=l.length:=vO
 cases f with
 | zero=>have:=jbM h;omega
 | succ f =>
  by_cases hk:0 < comK l
  ·have m:=jbk h O
   have E:jax f (jak (comK l) l):=(jb8 (comK l) h (fun p H q Q=>(m p H).1.trans (m q Q).1.symm) (fun p H=>(m p H).2)).mono vO;have J:jak (comK l) l≠[]:=fun e=>by have:=jaL (comK l) l;rw[e]at this;simp at this;omega
   have K:=(good f _ E).2.1 J;have o:jao (jac (f+1)) l=⟨2,(l.getD 0 pd).1.extract 0 (comK l),⟨#[]⟩,refB (jac (f+1) (jak (comK l) l)).text :: jam 15⟩:=by unfold jao;rw[if_neg h0,if_neg h1,if_pos hk]
   have A:jar (jac (f+1)) l=jbo (jac (f+1) (jak (comK l) l)):=by unfold jar;rw[if_neg vO,if_pos hk]
   rw[o,A, <-jlQ K];show (refB (jac (f+1) (jak (comK l) l)).text :: jam 15).filterMap jcL=_;rw[fW,jek];cases jcL (refB (jac (f+1) (jak (comK l) l)).text) <;> rfl
  ·have o:(jao (jac (f+1)) l).refs=(List.range 16).map fun i=>if (cutL i l).length=0 then ⟨#[]⟩else refB (jac (f+1) (jak 1 (cutL i l))).text:=by unfold jao;rw[if_neg h0,if_neg h1,if_neg hk]
   have A:jar (jac (f+1)) l=(List.range 16).flatMap fun i=>if (cutL i l).length=0 then []else jbo (jac (f+1) (jak 1 (cutL i l))):=by unfold jar;rw[if_neg vO,if_neg hk]
   rw[o,A];refine jiy _ _ _ fun i X=>?_
   by_cases hc:(cutL i l).length=0
   ·rw[if_pos hc,if_pos hc,jgm];rfl
   ·rw[if_neg hc,if_neg hc]
    exact jlQ ((good f _ (jcU i h)).2.1 (fun e=>by have:=jaL 1 (cutL i l);rw[e]at this;simp at this;omega))
theorem jlq{f:Nat}{l:vL}(h:jax f l){K:PT}(o:K∈jar (jac f) l):∃ g m,f=g+1/\K=jac (g+1) m/\jax g m/\32<=K.text.size:=by
 have E:∀ {T:PT},K∈jbo T->K=T/\32<=K.text.size:=fun {T} h=>by
  unfold jbo at h;split at h
  ·cases h
  ·rw[cG]at h;subst h;exact⟨rfl,by omega⟩
 unfold jar at o
 by_cases h1:l.length<=1
 ·rw[if_pos h1]at o;cases o
 rw[if_neg h1]at o;cases f with
 | zero=>have:=jbM h;omega
 | succ f =>
  by_cases hk:0 < comK l
  ·rw[if_pos hk]at o
   have A:=jbk h vO;have H:jax f (jak (comK l) l):=(jb8 (comK l) h (fun p J q Q=>(A p J).1.trans (A q Q).1.symm) (fun p J=>(A p J).2)).mono vO
   obtain⟨e,O⟩:=E o
   exact⟨f,_,rfl,e,H,O⟩
  ·rw[if_neg hk]at o
   obtain⟨i,_,o⟩:=fA.1 o
   split at o
   ·cases o
   ·obtain⟨e,O⟩:=E o
    exact⟨f,_,rfl,e,jcU i h,O⟩
def jbC(t:vB)(n:jad):Prop:=t=jaO n/\∃ g,jbI (InlD g) n
structure jqE(L B:vM):Prop where
 node:∀ t∈L,∃ n,jbC t n/\∀ h∈jaZ n,∃ t'∈L,h=shaB t'
 told:∀ t∈B,32<=t.size/\∃ t'∈L,∃ n,jbC t' n/\shaB t∈jaZ n
theorem jv0:∀ (f:Nat) (l:vL),jax f l->jqE (jaB (jac (f+1) l)) (jaA (jar (jac f) l)):=by
 intro f;induction f with
 | zero =>
  intro l h;have e2:jar (jac 0) l=[]:=by have:=jbM h;unfold jar;rw[if_pos vO]
  have X:jaB (jac (0+1) l)=[jaO (jao (jac 0) l)]:=by
   show jaB (.mk (jaO (jao (jac 0) l)) (jar (jac 0) l))=_;rw[jaB,e2];simp[jaA]
  have Z:=je9 0 l h;rw[e2]at Z;rw[X,e2]
  refine⟨fun t o=>?_,fun t o=>by simp[jaA]at o⟩
  rw[cG]at o
  exact⟨_,⟨o,0,(good 0 l h).1⟩,fun x O=>by rw[Z]at O;cases O⟩
 | succ f ih =>
  intro l h;have X:jaB (jac (f+1+1) l)=jaO (jao (jac (f+1)) l) :: jaA (jar (jac (f+1)) l):=by
   show jaB (.mk (jaO (jao (jac (f+1)) l)) (jar (jac (f+1)) l))=_;rw[jaB]
  have Z:=je9 (f+1) l h;have E:jbC (jaO (jao (jac (f+1)) l)) (jao (jac (f+1)) l):=⟨rfl,f+1,(good (f+1) l h).1⟩;have H:∀ {K:PT},K∈jar (jac (f+1)) l->∀ t∈jaB K,t∈jaB (jac (f+1+1) l):=fun {K} A t o=>by
   rw[X];exact bH _ (jbu.2 ⟨K,A,o⟩)
  have J:∀ {K:PT},K∈jar (jac (f+1)) l->∃ m,K=jac (f+1) m/\jax f m/\32<=K.text.size:=fun {K} A=>by
   obtain⟨g,m,e,h1,h2,h3⟩:=jlq h A
   obtain rfl:f=g:=vO
   exact⟨m,h1,h2,h3⟩
  constructor
  ·intro t o
   rw[X]at o;rcases bX.1 o with rfl | o
   ·refine⟨_,E,fun x O=>?_⟩
    rw[Z]at O
    obtain⟨K,A,rfl⟩:=bI.1 O
    exact⟨_,H A _ (jc2 K),rfl⟩
   ·obtain⟨K,A,o⟩:=jbu.1 o
    obtain⟨m,rfl,hm,_⟩:=J A
    obtain⟨n,h1,h2⟩:=(ih m hm).node t o
    exact⟨n,h1,fun x O=>by obtain⟨t',Q,e⟩:=h2 x O;exact⟨t',H A _ Q,e⟩⟩
  ·intro t o
   obtain⟨K,A,o⟩:=jbu.1 o
   obtain⟨m,rfl,hm,a0⟩:=J A
   have eK:jaB (jac (f+1) m)=jaO (jao (jac f) m) :: jaA (jar (jac f) m):=by
    show jaB (.mk (jaO (jao (jac f) m)) (jar (jac f) m))=_;rw[jaB]
   rw[eK]at o;rcases bX.1 o with rfl | o
   ·refine⟨a0,_,?_,_,E,?_⟩
    ·rw[X];exact bK
    ·rw[Z];exact bI.2 ⟨_,A,rfl⟩
   ·obtain⟨h1,t',Q,n,h2,h3⟩:=(ih m hm).told t o
    exact⟨h1,t',H A _ Q,n,h2,h3⟩
theorem jhy(l:vM):(jaU l).Nodup:=by
 unfold jaU
 have:∀ (l m:vM),m.Nodup->(l.foldl addF m).Nodup:=fun l=>by
  induction l with
  | nil=>exact fun _ h=>h
  | cons x r ih =>
   intro m h;rw[cN];refine ih _ ?_;unfold addF;split
   ·exact h
   ·rename_i hn
    have o:x ∉ m:=fun A=>hn ((jc0 m x).2 A);rw[fS]
    exact⟨h,by simp,fun a E b hb e=>by simp at hb;subst hb;subst e;exact o E⟩
 exact this l [] (by simp)
structure jyI(L:vM)(top:vB):Prop where
 head:L[0]?=some top
 nodup:L.Nodup
 node:∀ t∈L,∃ n,jbC t n/\∀ h∈jaZ n,∃ t'∈L,h=shaB t'
 told:∀ (i:Nat) t,L[i+1]?=some t->32<=t.size/\∃ t'∈L,∃ n,jbC t' n/\shaB t∈jaZ n
theorem jk2{l:vL}(h:jaD l=0):jyI (jaU (jaB (jaF l))) (jaF l).text:=by
 have H:=jv0 12 (jaM l) (jbx (jaG h));have X:jaB (jaF l)=(jaF l).text :: jaA (jar (jac 12) (jaM l)):=by
  show jaB (.mk (jaO (jao (jac 12) (jaM l))) (jar (jac 12) (jaM l)))=_;rw[jaB];rfl
 have H:jqE (jaB (jaF l)) (jaA (jar (jac 12) (jaM l))):=H;have o:=jhy (jaB (jaF l))
 refine⟨jjF _,o,fun t J=>?_,fun i t J=>?_⟩
 ·obtain⟨n,A,E⟩:=H.node t ((jbb _ _).1 J)
  exact⟨n,A,fun x Z=>by obtain⟨O,m,e⟩:=E x Z;exact⟨O,(jbb _ _).2 m,e⟩⟩
 ·have K:=(jbb _ _).1 (bE J)
  have Q:t≠(jaF l).text:=fun e=>by
   have h0:=jjF (jaF l)
   obtain⟨A,e1⟩:=bO.1 J
   obtain⟨E,e2⟩:=bO.1 h0
   exact gP.1 o 0 (i+1) E A vO (e2.trans (e.symm.trans e1.symm))
  rw[X]at K;rcases bX.1 K with e | K
  ·exact absurd e Q
  ·obtain⟨A,O,m,n,E⟩:=H.told t K
   exact⟨A,O,(jbb _ _).2 m,n,E⟩
theorem jdz(w:vW){t:vB}{n m:jad}(h:jbC t n)(k:jbC t m):n=m:=by
 obtain⟨e,f,o⟩:=h
 obtain⟨A,g,E⟩:=k
 exact jgw w o E (e.symm.trans A)
section
attribute [local go_sem] Oper.semAt_some
theorem jkp(a y:vB):(a++y).extract 0 a.size=a:=by
 apply ByteArray.ext;rw[cX,cW]
 have:a.size=a.data.size:=rfl
 rw[this]
 simp
theorem jmZ(a y:vB):(a++y).extract a.size (a++y).size=y:=by
 apply ByteArray.ext;rw[cX,cW,bY]
 obtain⟨⟨e⟩⟩:=a
 obtain⟨⟨m⟩⟩:=y
 show (e.toArray++m.toArray).extract e.length (e.length+m.length)=m.toArray
 simp
theorem jf3(w:vW)(b y:vB)(hb:b.size<=100000)(hs:(jap b++y).size<=1000000):vR 182 #[.string (jap b++y)] w (.tuple #[.bool false,.string b,.string y,.int .i64 0]):=by
 obtain⟨o,h1,J,h3⟩:=jik b y vO
 have K:=Hd (jta w (jap b++y) _ hs h1);have HT:=Hd (fun w1=>jd8 w1 b vO);have m:(jap b++y).extract 0 (o+b.size)=jap b:=by rw[J];exact jkp _ _
 have E:(jap b++y).extract (o+b.size) (jap b++y).size=y:=by rw[J];exact jmZ _ _
 have A:o+b.size<=(jap b++y).size:=by rw[J,bY];omega
 obtain⟨s,H⟩:=vE (jap b++y)
 rw[<-H]at hs K h3 m E A ⊢
 obtain⟨n,hn⟩:=vE b.size
 rw[<-hn]at K h3 m E A hb
 obtain⟨t,ht⟩:=vE (jap b)
 rw[<-ht]at HT m;have a0:(t.toList != t.toList)=false:=by simp
 have d1:¬(1048576:Int) < (n:Int):=vO
 have d2:¬(s.size:Int) < (o:Int)+(n:Int):=vO
 have d3:((o:Int)+(n:Int)).toNat=o+n:=vO
 have d4:(0:Int)<=(o:Int)+(n:Int):=vO
 have d5:(o:Int)<=(o:Int)+(n:Int):=vO
 have d6:(o:Int)+(n:Int)<=(s.size:Int):=vO
 have d8:(o:Int)+(n:Int)<=9223372036854775807:=vO
 have d9 : -9223372036854775808<=(o:Int)+(n:Int):=vO
 clear h1 J H hn ht A;unfold HdV at K;go_enter Tryz.func182,Tryz.ntmps182;go_wp2_with fail
 refine K.o.mono ?_;rintro e w1 ⟨rfl,O⟩;have Q:=Hd O;clear O;go_wp2_with fail
 refine vH (HT.o w1) fun w2 O=>?_;have X:=Hd (Q.o.trans O);go_wp2_with fail
 refine jah [0,1,2,3,4,5,6,7,8] Ext ExtR ExtT vY vY vY ?_;iterate 9 refine vK ?_
 refine qKE (fun w3 he=>?_);have Z:=Hd (X.o.trans ((jai w2).trans he));clear he;go_wp2_with fail
 exact bodyPost_ret (v:=.tuple #[.bool false,.string b,.string y,.int .i64 0]) vY rfl ⟨rfl,Z.o⟩
theorem ji5(w:vW)(xs:vM)(y:vB)(hb:(catB xs).size<=100000)(hs:(jba xs++y).size<=1000000):vR 182 #[.string (jba xs++y)] w (.tuple #[.bool true,.string (catB xs),.string y,.int .i64 0]):=by
 obtain⟨o,h1,Q,h3⟩:=jih xs y vO
 have X:=Hd (jta w (jba xs++y) _ hs h1);have HT:=Hd (fun w1=>jd8 w1 (catB xs) vO);have E:=Hd (fun w1=>jkV (w1.alloc (.cells #[.string (catB xs)] 9)) (.slice (some ⟨w1.heap.size,0,none⟩) 1 1) [catB xs] (jdp w1 [catB xs] 9) (by simp) (by rw[jgc];omega));have m:(jba xs++y).extract 0 (o+(catB xs).size)=jba xs:=by rw[Q];exact jkp _ _
 have H:(jba xs++y).extract (o+(catB xs).size) (jba xs++y).size=y:=by rw[Q];exact jmZ _ _
 have A:o+(catB xs).size<=(jba xs++y).size:=by rw[Q,bY];omega
 obtain⟨b,J⟩:=vE (catB xs)
 have Z:jba [b]=jba xs:=by unfold jba;rw[J,jgc]
 rw[<-J]at hb X HT E h3 m H A Q ⊢
 obtain⟨s,a0⟩:=vE (jba xs++y)
 rw[<-a0]at hs X h3 m H A ⊢
 obtain⟨n,hn⟩:=vE b.size
 rw[<-hn]at X h3 m H A hb
 obtain⟨t,ht⟩:=vE (jba xs)
 rw[Z, <-ht]at E;rw[<-ht]at m;have a4:(t.toList != t.toList)=false:=by simp
 have d1:¬(1048576:Int) < (n:Int):=vO
 have d2:¬(s.size:Int) < (o:Int)+(n:Int):=vO
 have d3:((o:Int)+(n:Int)).toNat=o+n:=vO
 have d4:(0:Int)<=(o:Int)+(n:Int):=vO
 have d5:(o:Int)<=(o:Int)+(n:Int):=vO
 have d6:(o:Int)+(n:Int)<=(s.size:Int):=vO
 have d8:(o:Int)+(n:Int)<=9223372036854775807:=vO
 have d9 : -9223372036854775808<=(o:Int)+(n:Int):=vO
 clear h1 Q a0 hn ht A J Z;unfold HdV at X;go_enter Tryz.func182,Tryz.ntmps182;go_wp2_with fail
 refine X.o.mono ?_;rintro e w1 ⟨rfl,K⟩;have a1:=Hd K;clear K;go_wp2_with fail
 refine vH (HT.o w1) fun w2 K=>?_;have O:=Hd (a1.o.trans K);go_wp2_with fail
 refine (E.o w2).mono ?_;rintro e a2 ⟨rfl,K⟩;have O:=Hd ((O.o.alloc _).trans K);clear K;go_wp2_with fail
 refine jah [0,1,2,3,4,5,6,7,8] Ext ExtR ExtT vY vY vY ?_;iterate 9 refine vK ?_
 refine qKE (fun w3 he=>?_);have a3:=Hd (O.o.trans ((jai a2).trans he));clear he;go_wp2_with fail
 exact bodyPost_ret (v:=.tuple #[.bool true,.string b,.string y,.int .i64 0]) vY rfl ⟨rfl,a3.o⟩
theorem jxN(w:vW)(s:vB)(hs:s.size<=1000000):vR 148 #[.string s] w (.string (refB s)):=by
 by_cases hlt:s.size < 32
 ·have J:(s.size:Int) < 32:=vO
  go_enter Tryz.func148,Tryz.ntmps148;go_wp2_with fail
  go_ret
  exact⟨by unfold refB;rw[if_pos hlt];rfl,ExtR w⟩
 ·have J:¬(s.size:Int) < 32:=vO
  have H:=Hd (jzL w s hs);have K:=Hd (show refB s=jap (shaB s) by unfold refB;rw[if_neg hlt]);rw[K.o]
  obtain⟨h,A⟩:=vE (shaB s)
  have O:=Hd (fun w1=>jd8 w1 h (by rw[A,jbA];omega));rw[<-A]at H ⊢;clear A;go_enter Tryz.func148,Tryz.ntmps148;go_wp2_with fail
  refine H.o.mono ?_;rintro e w1 ⟨rfl,m⟩;have Q:=Hd m;clear m;go_wp2_with fail
  refine vH (O.o w1) fun X m=>?_;have E:=Hd (Q.o.trans m);go_wp2_with fail
  go_ret
  exact⟨rfl,E.o⟩
theorem js8(w:vW)(r:vB)(hr:r.size < 32):vQ 166 #[.string r] w fun e w'=>e=.returned (.tuple #[.string ⟨#[]⟩,.bool false])/\w=w':=by
 have m:((r.size:Int) == 33)=false:=beq_eq_false_iff_ne.2 vO;have o:((r.size:Int) != 33)=true:=by rw[bne,m];rfl
 have A:¬(r.size:Int)=33:=vO
 go_enter Tryz.func166,Tryz.ntmps166;go_wp2_with fail
 go_ret2
 exact⟨rfl,rfl⟩
theorem jwi{h:vB}(hs:h.size=32):jap h=⟨#[160]⟩++h:=by
 unfold jap;rw[if_neg vO];unfold jb7;rw[hs];rfl
theorem jvq(w:vW)(h:vB)(hs:h.size=32):vQ 166 #[.string (jap h)] w fun e w'=>e=.returned (.tuple #[.string h,.bool true])/\w=w':=by
 rw[jwi hs]
 obtain⟨r,m⟩:∃ r:vB,r=⟨#[160]⟩++h:=⟨_,rfl⟩
 have o:r.size=33:=by rw[m,bY,hs];rfl
 have A:r[0]'(by omega)=160:=by
  subst m;rfl
 have E:r.extract 1 33=h:=by
  rw[m]
  have:=jmZ (⟨#[160]⟩:vB) h
  rw[show (⟨#[160]⟩++h:vB).size=33 by rw[bY,hs];rfl]at this;exact this
 rw[<-m];have H:(r.size:Int)=33:=vO
 clear m;go_enter Tryz.func166,Tryz.ntmps166;go_wp2_with fail
 go_ret2
 exact⟨rfl,rfl⟩
theorem jo5(w:vW)(p:vB)(hs:p.size<=1000000):vQ 142 #[.string p] w fun e w'=>e=.returned (.bool (jaz p && decide (p.size<=12)))/\w'=w:=by
 have m:=Hd (jfF w p vO)
 obtain⟨b,hb⟩:=vE (jaz p)
 rw[<-hb]at m ⊢;clear hb;go_enter Tryz.func142,Tryz.ntmps142;go_wp2_with fail
 refine m.o.mono ?_;rintro e w1 ⟨rfl,rfl⟩;cases b with
 | false =>
  go_wp2_with fail
  go_ret
  exact⟨rfl,rfl⟩
 | true =>
  by_cases h12:p.size<=12
  ·have A:(p.size:Int)<=12:=vO
   go_wp2_with fail
   go_ret
   exact⟨by simp[h12],rfl⟩
  ·have A:¬(p.size:Int)<=12:=vO
   go_wp2_with fail
   go_ret
   exact⟨by simp;omega,rfl⟩
theorem jh2(w:vW)(b:vB)(hb:b.size<=100000):vR 185 #[.string (jap b)] w (.string b):=by
 have J:=jaQ b;have m:jap b++(⟨#[]⟩:vB)=jap b:=iV;have A:=Hd (jf3 w b ⟨#[]⟩ hb (by rw[m];omega));rw[m]at A
 obtain⟨t,E⟩:=vE (jap b)
 rw[<-E]at A ⊢;clear E m J;go_enter Tryz.func185,Tryz.ntmps185;go_wp2_with fail
 refine A.o.mono ?_;rintro e w1 ⟨rfl,H⟩;have K:=Hd H;clear H;go_wp2_with fail
 go_ret
 exact⟨rfl,K.o⟩
end
end Go.Proofs.YtegloohdmjadoaaGreatDoor
