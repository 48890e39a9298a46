/- Lemmas; each is under no condition but those that it states. -/
import Derived.Test.YtfjmkebdhojanaaGreatDoorPt14
import Derived.Test.YtfjmkebdhojanaaGreatDoorPt15
import Derived.Sort.OwnSorted
namespace Go.Proofs.YtfjmkebdhojanaaGreatDoor
set_option linter.unusedSimpArgs false
set_option linter.unusedVariables false
set_option maxRecDepth 100000
set_option maxHeartbeats 16000000
open Go Go.RowKit
section
attribute [local go_sem] Oper.semAt_some
def jdZ(l:List (vN)):List (vN):=l.mergeSort fun x y=>decide (x<=y)
def baL(l:List (vN)):vM:=l.map fun x=>⟨x.toArray⟩
theorem jgT(l:List (vN)):(jdZ l).length=l.length:=by simp[jdZ]
theorem jki{a b:List (vN)}(h:a.Perm b):jdZ a=jdZ b:=by
 have A:∀ a b c:vN,decide (a<=b)=true->decide (b<=c)=true->decide (a<=c)=true:=fun a b c e o=>by simp only[decide_eq_true_eq]at *;exact List.le_trans e o
 have to:∀ a b:vN,(decide (a<=b) || decide (b<=a))=true:=fun a b=>by simp only[Bool.or_eq_true,decide_eq_true_eq];exact List.le_total a b
 refine List.Perm.eq_of_pairwise (le:=fun x y=>decide (x<=y)=true) (fun x y _ _ e o=>by simp only[decide_eq_true_eq]at e o;exact List.le_antisymm e o) (List.pairwise_mergeSort A to a) (List.pairwise_mergeSort A to b) ?_;exact (gW a _).trans (h.trans (gW b _).symm)
theorem jrA(l:List (vN)):(baL l).map Value.string=l.map encStr:=by
 unfold baL;rw[dN];rfl
theorem jwV{w0 w:vW}{v:vV}{n:Nat}{ks:List (vN)}(h:ORow 9 1 w0 w v n (ks.map encStr))(hn:n<=1000000) :
  vQ 25 #[v] w fun e w'=>e=.returned (.tuple #[])/\ORow 9 1 w0 w' v n ((jdZ ks).map encStr):=by
 have o:ks.length=n:=by have:=h.len;simpa using this
 rcases h.own.2 with⟨e0,_⟩ |⟨g,cap,cur,e0,h3,h4,h5,h6,h7,h8⟩
 ·subst e0
  obtain⟨a,c,e⟩:=h.sl
  injection e with e1 e2 e3;subst e2
  have:ks=[]:=bE o
  subst this;refine (Tryz.slices_Sort_string_none none 0 w).mono ?_;rintro e w' ⟨rfl,rfl⟩
  exact⟨rfl,by simpa [jdZ]using h⟩
 ·subst e0
  subst o;refine (Tryz.slices_Sort_string g 0 cap ks w (holds_of_block h4 (by simpa using h8)) (dJ.1 h4).1 vO).mono ?_;rintro e w' ⟨rfl,q,E,rfl⟩
  refine⟨rfl,⟨_,_,rfl⟩,ownsRow_sorted (jgT ks) (cD _) h4 h5 h6 h7,?_,h.new⟩
  exact h.ext.trans' (jae.of_grown (F:=fun b=>b=g) (grownBy_sorted _) (fun r A _=>by cases A;rfl)) (fun x H e=>by have:=h.new g rfl;omega)
theorem jt2{a:List (vN)}{x:vN}:x∈jdZ a↔x∈a:=(gW a _).mem_iff
theorem MapV.lenL{es:List EntK}{ck:Nat}{L:vT}(h:MapV es ck (L.map kvN)):es.length=L.length:=by rw[h.len];simp
theorem jyA(w:vW)(s bm:Nat)(room:Int)(L:vT)(h:jaT w s bm room L)(h0:0<=room)(e:room<=9223372036854775807)(hl:L.length<=1000000):vR 42 #[.pointer (some ⟨s,0,none⟩)] w (.int .i64 (room - L.length)):=by
 have X:=Hd (h.st.cell (i:=1) (v:=.map (some bm)) vF);have Z:=Hd (h.st.cell (i:=0) (v:=.int .i64 room) vF)
 obtain⟨K,ck,O,A⟩:=h.mp.mp
 have HM:=Hd O
 obtain⟨n,H⟩:=vE L.length
 have E:K.length=n:=by rw[A.lenL,H]
 have J:=Hd E;rw[<-H]at hl ⊢;clear h O A E H;unfold vR vQ;go_in;go_wp2_with fail
 refine jag [0,1,2,3,4,5,6,7,8,9,10] Ext ExtR ExtT vY vY vY ?_
 refine vK ?_
 refine jcv _ (.pointer (some ⟨s,0,none⟩)) rfl vY rfl (fun w1 _=>by kernel_rfl) ?_;refine vS ?_
 refine vK ?_
 refine qKL ⟨s,0,none⟩ _ rfl (fun w1 e=>jab Tryz.underlying3 rfl (jaa Z.o ((jai _).trans e))) ?_;refine vS ?_
 refine vK ?_
 refine jcv _ (.pointer (some ⟨s,0,none⟩)) rfl vY rfl (fun w1 _=>by kernel_rfl) ?_;refine vS ?_
 refine vK ?_
 refine qKL ⟨s,1,none⟩ _ rfl (fun w1 e=>jab Tryz.underlying81 rfl (jaa X.o ((jai _).trans e))) ?_;refine vS ?_;refine jcv _ (.int .i64 K.length) rfl vY rfl (fun w1 e=>by
  have hx:=jja Tryz.ES Tryz.uMapIt (HM.o.keeps ((jai _).trans e) (fun h=>h)) 3;simp[execOp,Act.eval,resolve,invoke,builtin,hx,cA,Result.andThen,cO]) ?_
 refine vS ?_;rw[J.o];iterate 2 refine vK ?_
 refine qKE (fun w3 Q=>?_);have HE:=Hd ((jai _).trans Q);clear Q;go_wp2_with fail
 go_ret
 exact⟨rfl,HE.o⟩
theorem Tryz.makeMapIt(W:vW):(Instr.makeMap 81 none).run Tryz.prog W=.ok (.map (some W.heap.size)) (W.alloc (.map #[] 0)):=vY
theorem jwU(w:vW)(room:Int):vQ 31 #[.int .i64 room] w fun e w'=>∃ s bm,e=.returned (.pointer (some ⟨s,0,none⟩))/\Ext w w'/\jaT w' s bm (max room 0) []/\w.heap.size<=bm/\w.heap.size<=s/\s≠bm:=by
 have o:=Tryz.makeMapIt;unfold vQ;go_in;go_wp2_with fail
 go_ret
 refine⟨_,_,rfl,((ExtR w).alloc _).alloc _,⟨?_,⟨[],0,?_,MapV.nil 0⟩,by simp,fun x A=>by cases A⟩,bL _,Nat.le_succ _,by omega⟩
 ·exact (by simpa using Blk.new (w.alloc (.map #[] 0)) (.cells #[.int .i64 (max room 0),.map (some w.heap.size)] 88))
 ·exact (Blk.new w (.map #[] 0)).alloc _
def slN(v:vV):Nat:=match v with | .slice _ n _=>n | _=>0
def jku(s:List EntK):Array Nat:=(s.map (·.2.2)).toArray
def keyS(s:List EntK):List vV:=(s.map (·.1)).map encStr
structure HaS(w:World)(r bm ck:Nat)(es s:List EntK)(v:Value)(W:World):Prop where
 row:ORow 9 1 w W v s.length (keyS s)
 it:Blk W r (.mapIter (some bm) ck (jku s) ck)
 sub:∀ x∈s,x∈es
 nd:(s.map (·.2.2)).Nodup
 ne:∀ b,v.ownBlock=some b->b≠r
theorem jgH{α β:Type}(f:α->β):∀ {l:List α},(l.map f).Nodup->l.Nodup
 | [],_=>iP
 | x :: r,h=>by
  rw[bS,fF]at h;exact fF.2 ⟨fun e=>h.1 (bK.2 ⟨x,e,rfl⟩),jgH f h.2⟩
theorem HaS.len{w:vW}{r bm ck:Nat}{es s:List EntK}{v:vV}{W:vW}(h:HaS w r bm ck es s v W):s.length<=es.length:=
 iJ (jgH _ h.nd) (fun x e=>h.sub x e)
theorem HaS.done{w:vW}{r bm ck:Nat}{es s:List EntK}{v:vV}{W:vW}(h:HaS w r bm ck es s v W)(h0:jaZ es (jku s)=[])(hb:(es.map (·.2.2)).Nodup):s.Perm es:=by
 refine (List.perm_ext_iff_of_nodup (jgH _ h.nd) (jgH _ hb)).2 fun x=>⟨fun o=>h.sub x o,fun o=>?_⟩
 by_cases hc:x.2.2∈s.map (·.2.2)
 ·obtain⟨y,A,e⟩:=bK.1 hc
  have:y=x:=jbH hb (h.sub y A) o e
  exact this ▸ A
 ·have:x∈jaZ es (jku s):=cP.2 ⟨o,by unfold jku;simpa using hc⟩
  rw[h0]at this;cases this
def jAP(w:vW)(r bm ck:Nat)(es:List EntK)(v:vV)(W:vW):Prop:=∃ s,HaS w r bm ck es s v W
end
noncomputable def itOf(t:vB):It:=⟨t,jaL (nodeOf t),0,0⟩
noncomputable def ky(t:vB):Key:=(shaB t).data.toList
noncomputable def addG(m:List (Key × It))(t:vB):List (Key × It):=if m.any (fun x=>decide (ky t=x.1))then m else m++[(ky t,itOf t)]
noncomputable def readG(L:vM):List (Key × It):=L.foldl addG []
def kvI(x:Nd5):Key × It:=(x.1,x.2.2)
theorem jkp{L:vT}{k:Key}:atL L k=none↔∀ x∈L,k≠x.1:=by
 unfold atL;rw[List.find?_eq_none];simp
theorem jxi{L:vT}{k:Key}:(L.map kvI).any (fun x=>decide (k=x.1))=(atL L k).isSome:=by
 rw[List.any_map];unfold atL;rw[List.isSome_find?];rfl
theorem jiy(k:Key)(v:vV)(n:Nat):∀ es:List EntK,jaX es k=none->jbt es k v n=es++[(k,v,n)]
 | [],_=>rfl
 | x :: r,h=>by
  rw[jme]at h;unfold jbt
  by_cases hk:k=x.1
  ·rw[if_pos hk]at h;cases h
  ·rw[if_neg hk]at h ⊢
   rw[jiy k v n r h];rfl
theorem jdq.put{W:vW}{bm:Nat}{L:vT}(h:jdq W bm L)(k:vB)(hk:atL L k.data.toList=none){b:Nat}{it:It}(hb:jeZ W b it)(hn:∀ x∈L,x.2.1≠b) :
  ∃ o,(Instr.mapUpdate 81 (.map (some bm)) (.string k) (.pointer (some ⟨b,0,none⟩))).run Tryz.prog W=.ok () (W.putObj bm o)/\jdq (W.putObj bm o) bm (L++[(k.data.toList,b,it)]):=by
 obtain⟨Z,O,J,Q⟩:=h.mp
 have hg:jaX Z k.data.toList=none:=by rw[Q.get,jsk,hk];rfl
 have E:=jb4 Tryz.ES Tryz.uMapIt J k.data.toList (.pointer (some ⟨b,0,none⟩));have X:=Q.put k.data.toList (.pointer (some ⟨b,0,none⟩));rw[hg]at E X;simp only[Option.isSome_none,cR,if_false]at E X;have hK:jae (fun z=>z=bm) W (W.putObj bm (.map (Tryz.ES.arr (jbt Z k.data.toList (.pointer (some ⟨b,0,none⟩)) O)) (O+1))):=jae.onePut W bm _;have hN:jjm W (fun z=>z=bm):=fun z a0 fz e hz=>by
  have e:z=bm:=e;subst e
  have:=J.uniq hz;cases this
 have H:∀ {c:Nat} {i:It},jeZ W c i->¬ c=bm:=fun hi e=>by
  obtain⟨_,K,_⟩:=hi.cells
  subst e
  have:=J.uniq K;cases this
 refine⟨_,E,⟨_,_,J.put_same _,?_⟩,?_,?_⟩
 ·have e:putV (L.map kvN) k.data.toList (.pointer (some ⟨b,0,none⟩))=(L++[(k.data.toList,b,it)]).map kvN:=by
   rw[cB, <-Q.same, <-jtu,jiy _ _ O _ hg,cB];rfl
  rw[<-e];exact X
 ·rw[cB,fL]
  exact⟨h.blks,by simp,fun a ha c K e=>by
   simp at K;subst K;subst e
   obtain⟨x,A,e⟩:=bK.1 ha
   exact hn x A e⟩
 ·intro x A
  rcases bU.1 A with A | A
  ·exact (h.items x A).keeps hK (H (h.items x A)) hN
  ·simp only[bY]at A
   subst A;exact hb.keeps hK (H hb) hN
structure ReS(w:World)(bg:Nat)(G:vT)(T:vM)(W:World):Prop where
 ext:Ext w W
 at':jdq W bg G
 is:G.map kvI=readG T
 new:w.heap.size<=bg
 news:∀ x∈G,w.heap.size<=x.2.1
theorem ReS.keeps{w:vW}{bg:Nat}{G:vT}{T:vM}{W W':vW}(h:ReS w bg G T W)(e:Ext W W'):ReS w bg G T W':=⟨h.ext.trans e,h.at'.ext e,h.is,h.new,h.news⟩
theorem jqV{L:vM}{i:Nat}{t:vB}(h:L[i]?=some t):readG (L.take (i+1))=addG (readG (L.take i)) t:=by
 unfold readG;rw[bW,h,dU];rfl
section
attribute [local go_sem] Oper.semAt_some
def frK(S:vT)(M:vM):vM:=(ja9 M).filter fun y=>(atL S y.data.toList).isNone
structure Meet(w0:World)(s:Nat)(S:vT)(bg b:Nat)(M:vM)(W:World):Prop where
 ext:Ext w0 W
 lo:w0.heap.size<=b
 c3:Blk W b (.cells #[.pointer (some ⟨s,0,none⟩)] 24)
 c5:Blk W (b+1) (.cells #[.map (some bg)] 81)
 c9:Blk W (b+4) (.cells #[.map (some (b+3))] 60)
 tab:∃ es ck,Blk W (b+3) (.map (Tryz.ES.arr es) ck)/\∀ y:vB,jaX es y.data.toList=cntV (cntB M y)
 var:∃ v n,Blk W (b+2) (.cells #[v] 31)/\W.ownsRow 0 9 1 v n ((frK S M).map Value.string)/\n<=M.length/\∀ z,v.ownBlock=some z->b+5<=z
theorem Meet.keeps{w0:vW}{s:Nat}{S:vT}{bg b:Nat}{M:vM}{W W':vW}(h:Meet w0 s S bg b M W)(e:Ext W W'):Meet w0 s S bg b M W':=by
 obtain⟨o,A,E,H⟩:=h.tab
 obtain⟨v,n,J,K,O,Q⟩:=h.var
 exact⟨h.ext.trans e,h.lo,h.c3.keeps e (fun g=>g),h.c5.keeps e (fun g=>g),h.c9.keeps e (fun g=>g),⟨o,A,E.keeps e (fun g=>g),H⟩,v,n,J.keeps e (fun g=>g),jbq K e,O,Q⟩
theorem jo6(S:vT)(M:vM)(x:vB):frK S (M++[x])=if memB (ja9 M) x=true then frK S M else if (atL S x.data.toList).isNone then frK S M++[x]else frK S M:=by
 unfold frK;rw[jf8];unfold addF;split
 ·rfl
 ·rw[gO]
  split
  ·rename_i h;rw[List.filter_cons_of_pos (by simpa using h)];rfl
  ·rename_i h;rw[List.filter_cons_of_neg (by simpa using h)];simp
theorem jrT(M:vM)(x y:vB):cntB (M++[x]) y=cntB M y+(if x.data.toList=y.data.toList then 1 else 0):=by
 unfold cntB;rw[cB,List.count_append,bS,iC,List.count_singleton]
 simp
def jce(G:vT)(x:vB):vM:=match atL G x.data.toList with | some y=>y.2.2.refs | none=>[]
theorem jfO{G:vT}{x:vB}{y:Nd5}(h:atL G x.data.toList=some y):jce G x=y.2.2.refs:=by unfold jce;rw[h]
theorem jmb(S:vT)(M:vM):(frK S M).Nodup:=(jfg M).sublist List.filter_sublist
theorem jf9{S:vT}{M:vM}{x:vB}:x∈frK S M↔x∈M/\atL S x.data.toList=none:=by
 unfold frK;rw[cP,jaV];simp
theorem jnE{x y:vB}(h:x.data.toList=y.data.toList):x=y:=ByteArray.ext (Array.ext' h)
theorem jo5(S:vT)(M:vM):∀ T:vM,∃ X,frK S (M++T)=frK S M++X
 | []=>⟨[],by simp⟩
 | x :: T=>by
  obtain⟨X,o⟩:=jo5 S (M++[x]) T
  have e:M++x :: T=M++[x]++T:=by simp
  rw[e,o,jo6];split
  ·exact⟨X,rfl⟩
  ·split
   ·exact⟨x :: X,by simp⟩
   ·exact⟨X,rfl⟩
theorem jsS(w0:vW)(s:Nat)(S:vT)(bg:Nat):Meet w0 s S bg w0.heap.size [] (((((w0.alloc (.cells #[.pointer (some ⟨s,0,none⟩)] 24)).alloc (.cells #[.map (some bg)] 81)).alloc (.cells #[.slice none 0 0] 31)).alloc (.map #[] 0)).alloc (.cells #[.map (some (w0.heap.size+3))] 60)):=by
 obtain⟨e,J⟩:=vE (w0.alloc (.cells #[.pointer (some ⟨s,0,none⟩)] 24))
 obtain⟨o,K⟩:=vE (e.alloc (.cells #[.map (some bg)] 81))
 obtain⟨A,O⟩:=vE (o.alloc (.cells #[.slice none 0 0] 31))
 obtain⟨E,Q⟩:=vE (A.alloc (.map #[] 0))
 obtain⟨W5,Z⟩:=vE (E.alloc (.cells #[.map (some (w0.heap.size+3))] 60))
 rw[<-J, <-K, <-O, <-Q, <-Z];have z1:e.heap.size=w0.heap.size+1:=by rw[J,bT]
 have z2:o.heap.size=w0.heap.size+2:=by rw[K,bT,z1]
 have z3:A.heap.size=w0.heap.size+3:=by rw[O,bT,z2]
 have z4:E.heap.size=w0.heap.size+4:=by rw[Q,bT,z3]
 have e1:Ext w0 e:=by rw[J];exact (ExtR w0).alloc _
 have e2:Ext e o:=by rw[K];exact (ExtR e).alloc _
 have e3:Ext o A:=by rw[O];exact (ExtR o).alloc _
 have X:Ext A E:=by rw[Q];exact (ExtR A).alloc _
 have H:Ext E W5:=by rw[Z];exact (ExtR E).alloc _
 have b1:=by have:=Blk.new w0 (.cells #[.pointer (some ⟨s,0,none⟩)] 24);rw[<-J]at this;exact this
 have b2:=by have:=Blk.new e (.cells #[.map (some bg)] 81);rw[<-K,z1]at this;exact this
 have b3:=by have:=Blk.new o (.cells #[.slice none 0 0] 31);rw[<-O,z2]at this;exact this
 have b4:=by have:=Blk.new A (.map #[] 0);rw[<-Q,z3]at this;exact this
 have b5:=by have:=Blk.new E (.cells #[.map (some (w0.heap.size+3))] 60);rw[<-Z,z4]at this;exact this
 exact⟨(((e1.trans e2).trans e3).trans X).trans H,bL _,b1.keeps (((e2.trans e3).trans X).trans H) (fun g=>g),b2.keeps ((e3.trans X).trans H) (fun g=>g),b5,
  ⟨[],0,b4.keeps H (fun g=>g),fun y=>rfl⟩,.slice none 0 0,0,b3.keeps (X.trans H) (fun g=>g),fV _ _ _ _,bL _,fun z hz=>by cases hz⟩
theorem jj4{w:vW}{v:vV}{n:Nat}{xs:vM}(h:w.ownsRow 0 9 1 v n (xs.map Value.string)):RdS w v xs:=by
 have A:xs.length=n:=by have:=h.1;simpa using this
 obtain⟨_,⟨rfl,K⟩ |⟨g,e,E,rfl,O,H,J,Q,X⟩⟩:=id h
 ·exact .inl ⟨none,0,rfl,bE vO⟩
 ·subst A
  refine .inr ⟨g,0,e,rfl,(dJ.1 H).1,J,fun j x o=>?_⟩;have Z:=(bP.1 o).1
  have:=h.cellAt j vO
  rw[cH,this,bX,o];rfl
theorem jqU(L:vM)(t:vB):readG (L++[t])=addG (readG L) t:=by unfold readG;rw[dU];rfl
theorem jfr(L:vM):(∀ p∈readG L,∃ t∈L,p=(ky t,itOf t))/\(∀ t∈L,∃ p∈readG L,p.1=ky t)/\(readG L).length<=L.length:=by
 suffices h:∀ (R o:vM),((∀ p∈readG o,∃ t∈o,p=(ky t,itOf t))/\(∀ t∈o,∃ p∈readG o,p.1=ky t)/\(readG o).length<=o.length)->(∀ p∈readG (o++R),∃ t∈o++R,p=(ky t,itOf t))/\(∀ t∈o++R,∃ p∈readG (o++R),p.1=ky t)/\(readG (o++R)).length<=(o++R).length from by
  have:=h L [] ⟨fun p E=>(by cases E),fun t H=>(by cases H),bL _⟩
  simpa using this
 intro R;induction R with
 | nil=>intro o h;simpa using h
 | cons t R ih =>
  intro o ⟨h1,h2,h3⟩
  have:=ih (o++[t]) (by
   rw[jqU];unfold addG;split
   ·rename_i hb
    obtain⟨p,E,e⟩:=fP.1 hb
    refine⟨fun p E=>by obtain⟨x,A,e⟩:=h1 p E;exact⟨x,bU.2 (.inl A),e⟩,fun x A=>?_,by rw[bC];exact bJ h3 (Nat.le_add_right _ _)⟩
    rcases bU.1 A with A | A
    ·exact h2 x A
    ·simp only[bY]at A;subst A;exact⟨p,E,(of_decide_eq_true e).symm⟩
   ·refine⟨fun p E=>?_,fun x A=>?_,by rw[bC,bC];exact Nat.add_le_add_right h3 1⟩
    ·rcases bU.1 E with E | E
     ·obtain⟨x,A,e⟩:=h1 p E;exact⟨x,bU.2 (.inl A),e⟩
     ·simp only[bY]at E;subst E;exact⟨t,by simp,rfl⟩
    ·rcases bU.1 A with A | A
     ·obtain⟨p,E,e⟩:=h2 x A;exact⟨p,bU.2 (.inl E),e⟩
     ·simp only[bY]at A;subst A;exact⟨(ky x,itOf x),by simp,rfl⟩)
  simpa using this
structure jzi(L:vM):Prop where
 node:∀ t∈L,∃ n,jbs t n
 shut:∀ t∈L,∀ h∈jaL (nodeOf t),∃ t'∈L,h=shaB t'
 few:L.length<=1000
theorem jmg{L:vM}{G:vT}(h:G.map kvI=readG L){t:vB}(ht:t∈L):(atL G (shaB t).data.toList).isSome=true:=by
 obtain⟨p,o,e⟩:=(jfr L).2.1 t ht
 rw[<-h]at o
 obtain⟨x,A,rfl⟩:=bK.1 o
 cases ha:atL G (shaB t).data.toList with
 | some y=>rfl
 | none=>exact absurd e.symm (jkp.1 ha x A)
theorem jc8{L:vM}{G:vT}(h:G.map kvI=readG L){x:Nd5}(hx:x∈G):∃ t∈L,x.1=ky t/\x.2.2=itOf t:=by
 obtain⟨t,o,e⟩:=(jfr L).1 (kvI x) (by rw[<-h];exact bK.2 ⟨x,hx,rfl⟩)
 exact⟨t,o,congrArg Prod.fst e,congrArg Prod.snd e⟩
def putF(f:Nat)(v:Int)(it:It):It:=if f=2 then { it with used:=v }else { it with held:=v }
def setB(f c:Nat)(v:Int)(x:Nd5):Nd5:=if x.2.1=c then (x.1,x.2.1,putF f v x.2.2)else x
theorem jwg(f c:Nat)(v:Int)(L:vT):(L.map (setB f c v)).map kvN=L.map kvN:=by
 rw[dN];refine dI (fun x _=>?_);simp only[Function.comp,setB];split <;> rfl
theorem jwf(f c:Nat)(v:Int)(L:vT):(L.map (setB f c v)).map (·.2.1)=L.map (·.2.1):=by
 rw[dN];refine dI (fun x _=>?_);simp only[Function.comp,setB];split <;> rfl
theorem jdq.setF{W:vW}{bm:Nat}{L:vT}(h:jdq W bm L){c:Nat}{it:It}(hc:jeZ W c it){f:Nat}(hf:f=2\/f=3)(v:Int):jdq (W.setCell ⟨c,f,none⟩ (.int .i64 v)) bm (L.map (setB f c v)):=by
 obtain⟨rv,o,Q⟩:=hc.cells
 have A:jae (fun z=>z=c) W (W.setCell ⟨c,f,none⟩ (.int .i64 v)):=jae.oneSet W ⟨c,f,none⟩ _;have hN:jjm W (fun z=>z=c):=fun z X fz e Z=>by
  have e:z=c:=e;subst e
  have:=o.uniq Z;injection this with _ E;exact absurd E vI
 obtain⟨es,ck,K,E⟩:=h.mp
 have H:bm≠c:=fun e=>by subst e;have:=K.uniq o;cases this
 refine⟨⟨es,ck,K.keeps A H,by rw[jwg];exact E⟩,by rw[jwf];exact h.blks,fun x hx=>?_⟩
 obtain⟨y,hy,rfl⟩:=bK.1 hx
 have O:=h.items y hy;unfold setB;split
 ·rename_i e
  obtain⟨J,hb,hr⟩:=O.cells
  rw[e]at hb
  refine⟨J,?_,?_⟩
  ·show Blk _ y.2.1 _
   rw[e];rcases hf with rfl | rfl
   ·exact hb.set_same (i:=2) _
   ·exact hb.set_same (i:=3) _
  ·have:=jgR hr A hN
   rcases hf with rfl | rfl <;> exact this
 ·rename_i e
  exact O.keeps A e hN
end
def HasS(S:vT)(t:vB):Prop:=∃ x,atL S (ky t)=some x/\x.2.2.text=t
structure HasM(S:vT)(l:vL):Prop where
 ok:jaz l=0
 has:∀ x∈jav (jaG l),HasS S x
def AllN(S:vT):Prop:=∀ x∈S,∃ n,jbs x.2.2.text n
def jg0(S:vT)(r:vB)(o:Option jad):Prop:=
 (∃ d m,InlD d r m/\o=some m)\/∃ h:vB,h.size=32/\r=jao h/\((atL S h.data.toList=none/\o=none)\/∃ y n,atL S h.data.toList=some y/\jbs y.2.2.text n/\o=some n)
theorem jg0.good{S:vT}{r:vB}{n:jad}(h:jg0 S r (some n)):∃ d,jbS (InlD d) n:=by
 rcases h with⟨d,m,h1,h2⟩ |⟨h,_,_,⟨_,h2⟩ |⟨y,m,_,h1,h2⟩⟩
 ·cases d with
  | zero=>exact h1.elim
  | succ d=>cases h2;exact⟨d,h1.1⟩
 ·cases h2
 ·cases h2;exact h1.2
theorem jxK{S:vT}{f:Nat}{T:PT}{n:jad}(hSt:jdM f T n)(hH:32<=T.text.size->HasS S T.text):jg0 S (refB T.text) (some n):=by
 by_cases hz:T.text.size < 32
 ·exact .inl ⟨f+1,n,hSt.may.2 hz,rfl⟩
 ·obtain⟨y,e,o⟩:=hH vO
  refine .inr ⟨shaB T.text,jbd _,jgO hz,.inr ⟨y,n,e,?_,rfl⟩⟩;rw[o]
  exact⟨hSt.text,f,hSt.good⟩
def Inf(v t:vB):Prop:=v.data.toList <:+: t.data.toList
theorem Inf.trans{a b c:vB}(h:Inf a b)(k:Inf b c):Inf a c:=List.IsInfix.trans h k
theorem Inf.rfl'(a:vB):Inf a a:=List.infix_refl _
theorem je4(a b:vB):Inf b (a++b):=⟨a.data.toList,[],by rw[cZ,fX,bZ]⟩
theorem jpf(v:vB):Inf v (jao v):=by
 unfold jao;split
 ·exact Inf.rfl' v
 ·exact je4 _ _
theorem jsx{x:vB}:∀ {l:vM},x∈l->Inf x (catB l)
 | y :: l,h=>by
  rcases bM.1 h with rfl | h
  ·refine⟨[],(l.map (·.data.toList)).flatten,?_⟩
   show _=x.data.toList++(l.map (·.data.toList)).flatten
   simp
  ·obtain⟨s,t,e⟩:=jsx h
   have e:s++x.data.toList++t=(l.map (·.data.toList)).flatten:=e
   refine⟨y.data.toList++s,t,?_⟩
   show _=y.data.toList++(l.map (·.data.toList)).flatten;rw[<-e];simp
theorem jhZ{x:vB}{l:vM}(h:x∈l):Inf x (ja7 l):=(jsx h).trans (je4 _ _)
theorem jdM.inf{f:Nat}{T:PT}{n:jad}(h:jdM f T n){v t:vB}(ht:t∈jav T)(hv:Inf v t):(∃ t∈jaA (jbp T),Inf v t)\/Inf v (refB T.text):=by
 by_cases hs:T.text.size < 32
 ·have e:=h.small hs
  obtain⟨x,ks⟩:=T
  have e:ks=[]:=e;subst e;unfold jav jaA at ht;rw[bY]at ht;right;unfold refB;rw[if_pos hs, <-(show t=(PT.mk x []).text from ht)];exact hv
 ·left
  refine⟨t,?_,hv⟩
  unfold jbp;rw[if_neg hs,jbE]
  exact⟨T,bY.2 rfl,ht⟩
def jdu(l:vL):Nat->Nat
 | 0=>0
 | n+1=>jdu l n+(if (cutL n l).length=0 then 0 else 1)
theorem jht(l:vL)(n:Nat):∀ d,jdu l n<=jdu l (n+d)
 | 0=>bL _
 | d+1=>by have:=jht l n d;rw[show n+(d+1)=(n+d)+1 from rfl,jdu];omega
theorem jiU{l:vL}{i n:Nat}(h:(cutL i l).length≠0)(hi:i < n):1<=jdu l n:=by
 have:=jht l (i+1) (n - (i+1))
 rw[show i+1+(n - (i+1))=n by omega,jdu,if_neg h]at this;omega
theorem jgJ{l:vL}{i j n:Nat}(h:(cutL i l).length≠0)(hj:(cutL j l).length≠0)(hij:i < j)(hn:j < n):2<=jdu l n:=by
 have e:=jiU h hij
 have:=jht l (j+1) (n - (j+1))
 rw[show j+1+(n - (j+1))=n by omega,jdu,if_neg hj]at this;omega
theorem jsE(B:vL->PT)(l:vL)(hB:∀ i,(cutL i l).length≠0->(jav (B (jak 1 (cutL i l)))).length+2<=3 * (cutL i l).length):∀ n,(jaA (ksK B l n)).length+2 * jdu l n<=3 * jdh l n
 | 0=>by simp[ksK,jaA,jdh,jdu]
 | n+1=>by
  rw[jh1,jct,bC,jdh,jdu]
  have:=jsE B l hB n
  by_cases h0:(cutL n l).length=0
  ·rw[if_pos h0,if_pos h0];simp[jaA];omega
  ·rw[if_neg h0,if_neg h0]
   have e:=hB n h0;have o:=jiI (B (jak 1 (cutL n l)));omega
theorem jlZ{l:vL}(h:∃ p∈l,p.l=[])(n:Nat):jdh l n+1<=l.length:=by
 obtain⟨p,o,e⟩:=h
 induction l with
 | nil=>cases o
 | cons q r ih =>
  rw[jf4,bF];rcases bM.1 o with rfl | o
  ·have:=jfd r n
   rw[e]
   have:hN [] n=0:=rfl
   omega
  ·have:=ih o
   have:=jzU q.l n
   omega
theorem jr4{l:vL}{p:Pair}{x:vU}{r:vN}(hp:p∈l)(hpx:p.l=x :: r):p∈cutL x.toNat l:=cP.2 ⟨hp,by unfold jeT;rw[show p.1.data.toList=x :: r from hpx];simp⟩
theorem jf5{l:vL}{p:Pair}{x:vU}{r:vN}(hp:p∈l)(hpx:p.l=x :: r):(cutL x.toNat l).length≠0:=fun e=>by
 have:=jr4 hp hpx
 rw[bE e]at this;cases this
theorem joY{k:Nat}{l:vL}{p:Pair}(h:p∈l):∃ q∈jak k l,q.2=p.2:=⟨_,jH h,rfl⟩
structure jw3(T:PT)(l:vL):Prop where
 all:(jav T).length+2<=3 * l.length
 two:2<=l.length->comK l=0->(jav T).length+3<=3 * l.length
 inf:∀ p∈l,∃ t∈jav T,Inf p.2 t
theorem jpd(f:Nat){l:vL}(h:l.length=1):jw3 (jac (f+1) l) l:=by
 obtain⟨p,rfl⟩:=fO.1 h
 have e:jav (jac (f+1) [p])=[jmp ⟨1,p.1,p.2,jan 16⟩]:=by
  show jav (.mk (jaQ (jar (jac f) [p])) (jas (jac f) [p]))=_;have E:jar (jac f) [p]=⟨1,p.1,p.2,jan 16⟩:=rfl;have o:jas (jac f) [p]=[]:=rfl;rw[E,o];rfl
 refine⟨by rw[e];simp,fun o=>by simp at o,fun q A=>?_⟩
 rw[bY]at A;subst A;rw[e]
 refine⟨_,bY.2 rfl,(jpf q.2).trans ?_⟩
 unfold jmp;exact jhZ (by simp)
theorem grow:∀ (f:Nat) (l:vL),jap f l->l≠[]->jw3 (jac (f+1) l) l:=by
 intro f;induction f with
 | zero =>
  intro l h hn;have h0:l.length≠0:=fun e=>hn (bE e);have hl:l.length<=1:=by
   rcases fQ l.length 2 with h2 | h2
   ·omega
   ·obtain⟨a,Q⟩:∃ a,l[0]?=some a:=⟨_,bA vO⟩
    obtain⟨b,hb⟩:∃ b,l[1]?=some b:=⟨_,bA vO⟩
    have o:=jcc h.rise vO Q hb
    have:=(h.size b (bI hb)).1
    rw[show b.l=[]from bE (by show b.1.size=0;omega)]at o;exact absurd o (not_lt_nil _)
  exact jpd 0 vO
 | succ f ih =>
  intro l h hn;have h0:l.length≠0:=fun e=>hn (bE e)
  by_cases h1:l.length=1
  ·exact jpd (f+1) h1
  have h2:2<=l.length:=vO
  have A:=jbi h h2;have eT:jav (jac (f+1+1) l)=jaQ (jar (jac (f+1)) l) :: jaA (jas (jac (f+1)) l):=by
   show jav (.mk (jaQ (jar (jac (f+1)) l)) (jas (jac (f+1)) l))=_;rw[jav]
  by_cases hk:0 < comK l
  ·have a1:jap f (jak (comK l) l):=(jcb (comK l) h (fun p E q hq=>(A p E).1.trans (A q hq).1.symm) (fun p E=>(A p E).2)).mono vO
   have X:jak (comK l) l≠[]:=fun e=>by have:=jaI (comK l) l;rw[e]at this;simp at this;omega
   have hg:=ih _ a1 X
   obtain⟨_,i2,_⟩:=good f _ a1
   have J:=i2 X;have eB:jas (jac (f+1)) l=jbp (jac (f+1) (jak (comK l) l)):=by
    unfold jas;rw[if_neg vO,if_pos hk]
   have eN:jar (jac (f+1)) l=⟨2,(l.getD 0 pd).1.extract 0 (comK l),⟨#[]⟩,refB (jac (f+1) (jak (comK l) l)).text :: jan 15⟩:=by unfold jar;rw[if_neg h0,if_neg h1,if_pos hk]
   have K:=hg.two (by rw[jaI];omega) (jgt vO);rw[jaI]at K;have hh:=jiI (jac (f+1) (jak (comK l) l))
   refine⟨by rw[eT,eB,bF];omega,fun _ hz=>by omega,fun p E=>?_⟩
   obtain⟨q,hq,e2⟩:=joY (k:=comK l) E
   obtain⟨t,ht,hv⟩:=hg.inf q hq
   rw[e2]at hv;rw[eT,eB];rcases J.inf ht hv with⟨t',ht',hv'⟩ | hv'
   ·exact⟨t',bD _ ht',hv'⟩
   ·refine⟨_,bG,hv'.trans ?_⟩
    have:jaQ (jar (jac (f+1)) l)=extB (jar (jac (f+1)) l):=by rw[eN];rfl
    rw[this,eN];unfold extB;exact jhZ (by simp)
  ·have O:∀ i,(cutL i l).length≠0->jak 1 (cutL i l)≠[]:=fun i H e=>by have:=jaI 1 (cutL i l);rw[e]at this;simp at this;omega
   have hg:∀ i,(cutL i l).length≠0->jw3 (jac (f+1) (jak 1 (cutL i l))) (jak 1 (cutL i l)):=fun i H=>ih _ (jcU i h) (O i H);have J:∀ i,(cutL i l).length≠0->jdM f (jac (f+1) (jak 1 (cutL i l))) (jar (jac f) (jak 1 (cutL i l))):=fun i H=>(good f _ (jcU i h)).2.1 (O i H);have eB:jas (jac (f+1)) l=ksK (jac (f+1)) l 16:=by
    unfold jas;rw[if_neg vO,if_neg hk];rfl
   obtain⟨a,Q⟩:∃ a,l[0]?=some a:=⟨_,bA vO⟩
   obtain⟨b,hb⟩:∃ b,l[l.length - 1]?=some b:=⟨_,bA vO⟩
   have ga:l.getD 0 pd=a:=by rw[bH,Q];rfl
   have gb:l.getD (l.length - 1) pd=b:=by rw[bH,hb];rfl
   have Z:=bI Q;have a2:=bI hb;have o:=jcc h.rise vO Q hb
   obtain⟨rs,a0⟩:=vE ((List.range 16).map fun i=>if (cutL i l).length=0 then (⟨#[]⟩:vB)else refB (jac (f+1) (jak 1 (cutL i l))).text)
   have eN:jar (jac (f+1)) l=⟨3,⟨#[]⟩,if a.1.size=0 then a.2 else ⟨#[]⟩,rs⟩:=by unfold jar;rw[if_neg h0,if_neg h1,if_neg hk,ga,a0]
   have K:(jaA (jas (jac (f+1)) l)).length+4<=3 * l.length:=by
    rw[eB];have b1:=jsE (jac (f+1)) l (fun i H=>by have:=(hg i H).all;rwa [jaI]at this) 16;have a3:jaY a.l b.l=0:=by have:comK l=jaY a.l b.l:=(by unfold comK jal;rw[ga,gb]);omega
    cases hbl:b.l with
    | nil=>rw[hbl]at o;exact absurd o (not_lt_nil _)
    | cons y t =>
     have hy:=jfn (h.size b a2).2.2.1 hbl;have cb:=jf5 a2 hbl;cases hal:a.l with
     | nil =>
      have:=jlZ ⟨a,Z,hal⟩ 16
      have:=jiU cb hy
      omega
     | cons x r =>
      have hx:=jfn (h.size a Z).2.2.1 hal;have ca:=jf5 Z hal;have a6:x≠y:=by
       intro e;rw[hal,hbl,e]at a3;simp[jaY]at a3
      have X:x.toNat≠y.toNat:=fun e=>a6 (dS.1 e)
      have:=jfd l 16
      have:2<=jdu l 16:=by
       rcases fQ x.toNat y.toNat with e | e
       ·exact jgJ ca cb e hy
       ·exact jgJ cb ca vO hx
      omega
   refine⟨by rw[eT,bF];omega,fun _ _=>by rw[eT,bF];omega,fun p E=>?_⟩
   have a4:jaQ (jar (jac (f+1)) l)=jec (jar (jac (f+1)) l):=by rw[eN];rfl
   have a5:jbP (jar (jac (f+1)) l)=ja3 rs (if a.1.size=0 then a.2 else ⟨#[]⟩):=by
    rw[jdD _ (by rw[eN,a0];simp),eN]
   cases hpl:p.l with
   | nil =>
    have a7:p=a:=by
     obtain⟨i,H⟩:=iL E
     by_cases h00:i=0
     ·subst h00;rw[Q]at H;exact (bO H).symm
     ·have:=jcc h.rise vO Q H
      rw[hpl]at this;exact absurd this (not_lt_nil _)
    subst a7;have hz:p.1.size=0:=by show p.1.data.toList.length=0;rw[show p.1.data.toList=[]from hpl];rfl
    rw[eT]
    refine⟨_,bG,(jpf p.2).trans ?_⟩
    rw[a4];unfold jec;rw[a5,if_pos hz];refine jhZ ?_;unfold ja3;simp
   | cons x r =>
    have hx:=jfn (h.size p E).2.2.1 hpl;have hc:=jf5 E hpl
    obtain⟨q,hq,e2⟩:=joY (k:=1) (jr4 E hpl)
    obtain⟨t,ht,hv⟩:=(hg _ hc).inf q hq
    rw[e2]at hv;rw[eT,eB];rcases (J _ hc).inf ht hv with⟨t',ht',hv'⟩ | hv'
    ·refine⟨t',bD _ ?_,hv'⟩
     obtain⟨T',a8,a9⟩:=jbE.1 ht'
     refine jbE.2 ⟨T',?_,a9⟩;unfold ksK;refine cU.2 ⟨x.toNat,fA.2 hx,?_⟩;rw[if_neg hc];exact a8
    ·refine⟨_,bG,hv'.trans ?_⟩
     rw[a4];unfold jec;rw[a5];refine jhZ ?_;unfold ja3;refine bU.2 (.inl ?_);have b0:refB (jac (f+1) (jak 1 (cutL x.toNat l))).text∈rs:=by
      rw[a0];refine bK.2 ⟨x.toNat,fA.2 hx,?_⟩;rw[if_neg hc]
     refine bK.2 ⟨_,b0,?_⟩;rw[if_neg (J _ hc).may.1.pos]
theorem jq8{l:vL}(h:jaz l=0):(ja9 (jav (jaG l))).length<=1+3 * l.length/\∀ p∈l,∃ t∈ja9 (jav (jaG l)),Inf p.2 t:=by
 by_cases h0:l=[]
 ·subst h0
  refine⟨?_,by simp⟩
  have:=jhe (jav (jaG []))
  have H:=jln (jaD h);simp at H ⊢;omega
 ·have J:=jbD (jaD h)
  have o:jaP l≠[]:=fun e=>h0 (by unfold jaP at e;simpa using e);have A:=grow 12 (jaP l) J o;have K:(jaP l).length=l.length:=by unfold jaP;rw[cC]
  have E:=A.all;rw[K]at E;have h4:=jhe (jav (jaG l));have O:jaG l=jac (12+1) (jaP l):=rfl;rw[<-O]at E
  refine⟨by omega,fun p Q=>?_⟩
  obtain⟨t,X,Z⟩:=A.inf _ (jH Q)
  exact⟨t,(jaV _ _).2 X,Z⟩
theorem jlc{f:Nat}{l:vL}(h:jap f l)(hn:l≠[]):(refB (jac (f+1) l).text).size≠0:=((good f l h).2.1 hn).may.1.pos
theorem jfI(g:Nat->vB){i n:Nat}(h:i < n):((List.range n).map g).getD i ⟨#[]⟩=g i:=by
 rw[bH,bX,dW h];rfl
theorem jhT{f:Nat}{l m:vL}(hm:m≠[])(ho:jap f m)(hk:jbp (jac (f+1) m) ⊆ jas (jac (f+1)) l):∀ x∈jav (jac (f+1) m),32<=x.size->x∈jav (jac (f+1+1) l):=fun x e A=>by
 have E:jav (jac (f+1+1) l)=jaQ (jar (jac (f+1)) l) :: jaA (jas (jac (f+1)) l):=by
  show jav (.mk (jaQ (jar (jac (f+1)) l)) (jas (jac (f+1)) l))=_;rw[jav]
 rw[E];have o:=(good f m ho).2.1 hm
 by_cases hs:(jac (f+1) m).text.size < 32
 ·rw[jhh o hs,bY]at e
  subst e;omega
 ·refine bD _ (jbE.2 ⟨jac (f+1) m,hk ?_,e⟩)
  unfold jbp;rw[if_neg hs];exact bY.2 rfl
section
attribute [local go_sem] Oper.semAt_some
def preB(p s:vB):Bool:=p.data.toList.isPrefixOf s.data.toList
theorem jpZ:∀ (p s:vN),p.isPrefixOf s=(decide (p.length<=s.length) && (s.take p.length == p))
 | [],s=>by simp
 | x :: p,[]=>by simp
 | x :: p,y :: s=>by
  have o:=jpZ p s;simp only[List.isPrefixOf,bF,dV,o,Nat.add_le_add_iff_right]
  by_cases h:x=y
  ·subst h;simp
  ·have:(y == x)=false:=by simpa using fun e=>h e.symm
   simp[h,this]
theorem jwp(s:vB)(n:Nat):(s.extract 0 n).toList=s.data.toList.take n:=by
 rw[bR,dB,fM,dZ];simp
theorem jpE(w:vW)(s p:vB)(hs:s.size<=1000000)(hp:p.size<=1000000):vQ 242 #[.string s,.string p] w fun e w'=>e=.returned (.bool (preB p s))/\w'=w:=by
 have o:=jpZ p.data.toList s.data.toList;have A:p.data.toList.length=p.size:=rfl;have E:s.data.toList.length=s.size:=rfl;rw[A,E, <-jwp]at o;have o:preB p s=_:=o
 by_cases hl:p.size<=s.size
 ·have H:(p.size:Int)<=(s.size:Int):=vO
  have J:¬(s.size:Int) < (p.size:Int):=vO
  have K:((p.size:Int)).toNat=p.size:=vO
  rw[decide_eq_true hl,Bool.true_and, <-bR]at o;rw[o];clear o A E;unfold vQ;go_in;go_wp2_with fail
  go_ret
  exact⟨rfl,rfl⟩
 ·have H:(s.size:Int) < (p.size:Int):=vO
  rw[decide_eq_false hl,Bool.false_and]at o;rw[o];clear o A E;unfold vQ;go_in;go_wp2_with fail
  go_ret
  exact⟨rfl,rfl⟩
theorem jAd{W:vW}{B:Nat}{T:TypeId}{sz:Nat}{v:vV}{n:Nat}{xs:List vV}(h:W.ownsRow B T sz v n xs){b:Nat}(hb:v.ownBlock=some b):b < W.heap.size:=by
 obtain⟨J,o |⟨g,A,E,o,K,H,O⟩⟩:=h
 ·rw[o.1]at hb;cases hb
 ·rw[o]at hb
  have e:some g=some b:=hb;obtain rfl:=bO e;exact (dJ.1 H).1
end
