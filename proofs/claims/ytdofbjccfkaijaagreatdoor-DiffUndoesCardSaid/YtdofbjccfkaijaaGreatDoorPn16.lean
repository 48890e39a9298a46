/- Lemmas; each is under no condition but those that it states. -/
import Derived.Test.YtdofbjccfkaijaaGreatDoorPn14
import Derived.Test.YtdofbjccfkaijaaGreatDoorPn15
import Derived.Sort.OwnSorted
namespace Go.Proofs.YtdofbjccfkaijaaGreatDoor
set_option linter.unusedSimpArgs false
set_option linter.unusedVariables false
set_option maxRecDepth 100000
set_option maxHeartbeats 16000000
open Go Go.RowKit
section
attribute [local go_sem] Oper.semAt_some
def jdD(l:List (vN)):List (vN):=l.mergeSort fun x y=>decide (x<=y)
def baL(l:List (vN)):vM:=l.map fun x=>⟨x.toArray⟩
theorem jfs(l:List (vN)):(jdD l).length=l.length:=by simp[jdD]
theorem jhC{a b:List (vN)}(h:a.Perm b):jdD a=jdD b:=by
 have z:∀ a b c:vN,decide (a<=b)=true->decide (b<=c)=true->decide (a<=c)=true:=fun a b c e o=>by simp only[decide_eq_true_eq]at *;exact List.le_trans e o
 have to:∀ a b:vN,(decide (a<=b) || decide (b<=a))=true:=fun a b=>by simp only[Bool.or_eq_true,decide_eq_true_eq];exact List.le_total a b
 refine List.Perm.eq_of_pairwise (le:=fun x y=>decide (x<=y)=true) (fun x y _ _ e o=>by simp only[decide_eq_true_eq]at e o;exact List.le_antisymm e o) (List.pairwise_mergeSort z to a) (List.pairwise_mergeSort z to b) ?_;exact (iM a _).trans (h.trans (iM b _).symm)
theorem jnp(l:List (vN)):(baL l).map Value.string=l.map encStr:=by
 unfold baL;rw[dJ];rfl
theorem jt5{w0 w:vW}{v:vV}{n:Nat}{ks:List (vN)}(h:ORow 9 1 w0 w v n (ks.map encStr))(hn:n<=1000000) :
  vQ 31 #[v] w fun e w'=>e=.returned (.tuple #[])/\ORow 9 1 w0 w' v n ((jdD ks).map encStr):=by
 have o:ks.length=n:=by have:=h.len;simpa using this
 rcases h.own.2 with⟨e0,_⟩ |⟨g,cap,cur,e0,h3,h4,h5,h6,h7,h8⟩
 ·subst e0
  obtain⟨a,c,e⟩:=h.sl
  injection e with e1 e2 e3;subst e2
  have:ks=[]:=bD o
  subst this;refine (Tryz.slices_Sort_string_none none 0 w).mono ?_;rintro e w' ⟨rfl,rfl⟩
  exact⟨rfl,by simpa [jdD]using h⟩
 ·subst e0
  subst o;refine (Tryz.slices_Sort_string g 0 cap ks w (holds_of_block h4 (by simpa using h8)) (dK.1 h4).1 vO).mono ?_;rintro e w' ⟨rfl,q,A,rfl⟩
  refine⟨rfl,⟨_,_,rfl⟩,ownsRow_sorted (jfs ks) (cE _) h4 h5 h6 h7,?_,h.new⟩
  exact h.ext.trans' (jaf.of_grown (F:=fun b=>b=g) (grownBy_sorted _) (fun r z _=>by cases z;rfl)) (fun x E e=>by have:=h.new g rfl;omega)
theorem Tryz.infoS1:(Tryz.prog.info? 9).map (fun i=>(i.zero,i.size,i.bytes))=some (some (.string ⟨#[]⟩),1,16):=vY
theorem MapV.lenL{es:List EntK}{ck:Nat}{L:vT}(h:MapV es ck (L.map kvN)):es.length=L.length:=by rw[h.len];simp
theorem jyK(w:vW)(s bm:Nat)(room:Int)(L:vT)(h:jaS w s bm room L)(h0:0<=room)(e:room<=9223372036854775807)(hl:L.length<=1000000):vR 58 #[.pointer (some ⟨s,0,none⟩)] w (.int .i64 (room - L.length)):=by
 have Q:=Hd (h.st.cell (i:=1) (v:=.map (some bm)) vF);have X:=Hd (h.st.cell (i:=0) (v:=.int .i64 room) vF)
 obtain⟨J,ck,K,z⟩:=h.mp.mp
 have Z:=Hd K
 obtain⟨n,E⟩:=vE L.length
 have A:J.length=n:=by rw[z.lenL,E]
 have H:=Hd A;rw[<-E]at hl ⊢;clear h K z A E;unfold vR vQ;go_in;go_wp2_with fail
 refine jag [0,1,2,3,4,5,6,7,8,9,10] Ext ExtR ExtT vY vY vY ?_
 refine vK ?_
 refine jcu _ (.pointer (some ⟨s,0,none⟩)) rfl vY rfl (fun w1 _=>by kernel_rfl) ?_;refine vS ?_
 refine vK ?_
 refine qKL ⟨s,0,none⟩ _ rfl (fun w1 e=>jab Tryz.underlying3 rfl (jaa X.o ((jah _).trans e))) ?_;refine vS ?_
 refine vK ?_
 refine jcu _ (.pointer (some ⟨s,0,none⟩)) rfl vY rfl (fun w1 _=>by kernel_rfl) ?_;refine vS ?_
 refine vK ?_
 refine qKL ⟨s,1,none⟩ _ rfl (fun w1 e=>jab Tryz.underlying70 rfl (jaa Q.o ((jah _).trans e))) ?_;refine vS ?_;refine jcu _ (.int .i64 J.length) rfl vY rfl (fun w1 e=>by
  have hx:=jgk Tryz.ES Tryz.uMapIt (Z.o.keeps ((jah _).trans e) (fun h=>h)) 3;simp[execOp,Act.eval,resolve,invoke,builtin,hx,bX,Result.andThen,cO]) ?_
 refine vS ?_;rw[H.o];iterate 2 refine vK ?_
 refine qKE (fun w3 O=>?_);have HE:=Hd ((jah _).trans O);clear O;go_wp2_with fail
 go_ret
 exact⟨rfl,HE.o⟩
theorem Tryz.makeMapIt(W:vW):(Instr.makeMap 70 none).run Tryz.prog W=.ok (.map (some W.heap.size)) (W.alloc (.map #[] 0)):=vY
theorem jw2(w:vW)(room:Int):vQ 42 #[.int .i64 room] w fun e w'=>∃ s bm,e=.returned (.pointer (some ⟨s,0,none⟩))/\Ext w w'/\jaS w' s bm (max room 0) []/\w.heap.size<=bm/\w.heap.size<=s/\s≠bm:=by
 have o:=Tryz.makeMapIt;unfold vQ;go_in;go_wp2_with fail
 go_ret
 refine⟨_,_,rfl,((ExtR w).alloc _).alloc _,⟨?_,⟨[],0,?_,MapV.nil 0⟩,by simp,fun x z=>by cases z⟩,bL _,Nat.le_succ _,by omega⟩
 ·exact (by simpa using Blk.new (w.alloc (.map #[] 0)) (.cells #[.int .i64 (max room 0),.map (some w.heap.size)] 72))
 ·exact (Blk.new w (.map #[] 0)).alloc _
def slN(v:vV):Nat:=match v with | .slice _ n _=>n | _=>0
def jgu(s:List EntK):Array Nat:=(s.map (·.2.2)).toArray
def keyS(s:List EntK):List vV:=(s.map (·.1)).map encStr
structure HaS(w:World)(r bm ck:Nat)(es s:List EntK)(v:Value)(W:World):Prop where
 row:ORow 9 1 w W v s.length (keyS s)
 it:Blk W r (.mapIter (some bm) ck (jgu s) ck)
 sub:∀ x∈s,x∈es
 nd:(s.map (·.2.2)).Nodup
 ne:∀ b,v.ownBlock=some b->b≠r
theorem jfI{α β:Type}(f:α->β):∀ {l:List α},(l.map f).Nodup->l.Nodup
 | [],_=>gZ
 | x :: r,h=>by
  rw[bV,dV]at h;exact dV.2 ⟨fun e=>h.1 (bJ.2 ⟨x,e,rfl⟩),jfI f h.2⟩
theorem HaS.len{w:vW}{r bm ck:Nat}{es s:List EntK}{v:vV}{W:vW}(h:HaS w r bm ck es s v W):s.length<=es.length:=
 gI (jfI _ h.nd) (fun x e=>h.sub x e)
theorem HaS.done{w:vW}{r bm ck:Nat}{es s:List EntK}{v:vV}{W:vW}(h:HaS w r bm ck es s v W)(h0:ja1 es (jgu s)=[])(hb:(es.map (·.2.2)).Nodup):s.Perm es:=by
 refine (List.perm_ext_iff_of_nodup (jfI _ h.nd) (jfI _ hb)).2 fun x=>⟨fun o=>h.sub x o,fun o=>?_⟩
 by_cases hc:x.2.2∈s.map (·.2.2)
 ·obtain⟨y,z,e⟩:=bJ.1 hc
  have:y=x:=jbH hb (h.sub y z) o e
  exact this ▸ z
 ·have:x∈ja1 es (jgu s):=cM.2 ⟨o,by unfold jgu;simpa using hc⟩
  rw[h0]at this;cases this
theorem MapV.keysL{es:List EntK}{ck:Nat}{L:vT}(h:MapV es ck (L.map kvN)):es.map (·.1)=L.map (·.1):=by
 have:=congrArg (List.map Prod.fst) h.same
 rw[dJ,dJ]at this;exact this
def jy9(w:vW)(r bm ck:Nat)(es:List EntK)(v:vV)(W:vW):Prop:=∃ s,HaS w r bm ck es s v W
end
noncomputable def itOf(t:vB):It:=⟨t,jaM (nodeOf t),0,0⟩
noncomputable def ky(t:vB):Key:=(shaB t).data.toList
noncomputable def addG(m:List (Key × It))(t:vB):List (Key × It):=if m.any (fun x=>decide (ky t=x.1))then m else m++[(ky t,itOf t)]
noncomputable def readG(L:vM):List (Key × It):=L.foldl addG []
def kvI(x:Nd5):Key × It:=(x.1,x.2.2)
theorem jkj{L:vT}{k:Key}:atL L k=none↔∀ x∈L,k≠x.1:=by
 unfold atL;rw[List.find?_eq_none];simp
theorem jxn{L:vT}{k:Key}:(L.map kvI).any (fun x=>decide (k=x.1))=(atL L k).isSome:=by
 rw[List.any_map];unfold atL;rw[List.isSome_find?];rfl
theorem jiy(k:Key)(v:vV)(n:Nat):∀ es:List EntK,jaZ es k=none->jbs es k v n=es++[(k,v,n)]
 | [],_=>rfl
 | x :: r,h=>by
  rw[jl3]at h;unfold jbs
  by_cases hk:k=x.1
  ·rw[if_pos hk]at h;cases h
  ·rw[if_neg hk]at h ⊢
   rw[jiy k v n r h];rfl
theorem jdr.put{W:vW}{bm:Nat}{L:vT}(h:jdr W bm L)(k:vB)(hk:atL L k.data.toList=none){b:Nat}{it:It}(hb:jeY W b it)(hn:∀ x∈L,x.2.1≠b) :
  ∃ o,(Instr.mapUpdate 70 (.map (some bm)) (.string k) (.pointer (some ⟨b,0,none⟩))).run Tryz.prog W=.ok () (W.putObj bm o)/\jdr (W.putObj bm o) bm (L++[(k.data.toList,b,it)]):=by
 obtain⟨Z,O,J,Q⟩:=h.mp
 have hg:jaZ Z k.data.toList=none:=by rw[Q.get,jsm,hk];rfl
 have E:=jb2 Tryz.ES Tryz.uMapIt J k.data.toList (.pointer (some ⟨b,0,none⟩));have X:=Q.put k.data.toList (.pointer (some ⟨b,0,none⟩));rw[hg]at E X;simp only[Option.isSome_none,cI,if_false]at E X;have hK:jaf (fun z=>z=bm) W (W.putObj bm (.map (Tryz.ES.arr (jbs Z k.data.toList (.pointer (some ⟨b,0,none⟩)) O)) (O+1))):=jaf.onePut W bm _;have hN:jjk W (fun z=>z=bm):=fun z a0 fz e hz=>by
  have e:z=bm:=e;subst e
  have:=J.uniq hz;cases this
 have H:∀ {c:Nat} {i:It},jeY W c i->¬ c=bm:=fun hi e=>by
  obtain⟨_,K,_⟩:=hi.cells
  subst e
  have:=J.uniq K;cases this
 refine⟨_,E,⟨_,_,J.put_same _,?_⟩,?_,?_⟩
 ·have e:putV (L.map kvN) k.data.toList (.pointer (some ⟨b,0,none⟩))=(L++[(k.data.toList,b,it)]).map kvN:=by
   rw[cB, <-Q.same, <-jtu,jiy _ _ O _ hg,cB];rfl
  rw[<-e];exact X
 ·rw[cB,fD]
  exact⟨h.blks,by simp,fun a ha c K e=>by
   simp at K;subst K;subst e
   obtain⟨x,A,e⟩:=bJ.1 ha
   exact hn x A e⟩
 ·intro x A
  rcases bT.1 A with A | A
  ·exact (h.items x A).keeps hK (H (h.items x A)) hN
  ·simp only[bZ]at A
   subst A;exact hb.keeps hK (H hb) hN
structure ReS(w:World)(bg:Nat)(G:vT)(T:vM)(W:World):Prop where
 ext:Ext w W
 at':jdr W bg G
 is:G.map kvI=readG T
 new:w.heap.size<=bg
 news:∀ x∈G,w.heap.size<=x.2.1
theorem ReS.keeps{w:vW}{bg:Nat}{G:vT}{T:vM}{W W':vW}(h:ReS w bg G T W)(e:Ext W W'):ReS w bg G T W':=⟨h.ext.trans e,h.at'.ext e,h.is,h.new,h.news⟩
theorem jqW{L:vM}{i:Nat}{t:vB}(h:L[i]?=some t):readG (L.take (i+1))=addG (readG (L.take i)) t:=by
 unfold readG;rw[bY,h,dX];rfl
section
attribute [local go_sem] Oper.semAt_some
def frK(S:vT)(M:vM):vM:=(jbf M).filter fun y=>(atL S y.data.toList).isNone
structure Meet(w0:World)(s:Nat)(S:vT)(bg b:Nat)(M:vM)(W:World):Prop where
 ext:Ext w0 W
 lo:w0.heap.size<=b
 c3:Blk W b (.cells #[.pointer (some ⟨s,0,none⟩)] 31)
 c5:Blk W (b+1) (.cells #[.map (some bg)] 70)
 c9:Blk W (b+4) (.cells #[.map (some (b+3))] 61)
 tab:∃ es ck,Blk W (b+3) (.map (Tryz.ES.arr es) ck)/\∀ y:vB,jaZ es y.data.toList=cntV (cntB M y)
 var:∃ v n,Blk W (b+2) (.cells #[v] 28)/\W.ownsRow 0 9 1 v n ((frK S M).map Value.string)/\n<=M.length/\∀ z,v.ownBlock=some z->b+5<=z
theorem Meet.keeps{w0:vW}{s:Nat}{S:vT}{bg b:Nat}{M:vM}{W W':vW}(h:Meet w0 s S bg b M W)(e:Ext W W'):Meet w0 s S bg b M W':=by
 obtain⟨o,z,A,E⟩:=h.tab
 obtain⟨v,n,H,J,K,O⟩:=h.var
 exact⟨h.ext.trans e,h.lo,h.c3.keeps e (fun g=>g),h.c5.keeps e (fun g=>g),h.c9.keeps e (fun g=>g),⟨o,z,A.keeps e (fun g=>g),E⟩,v,n,H.keeps e (fun g=>g),jbo J e,K,O⟩
theorem joU(S:vT)(M:vM)(x:vB):frK S (M++[x])=if memB (jbf M) x=true then frK S M else if (atL S x.data.toList).isNone then frK S M++[x]else frK S M:=by
 unfold frK;rw[jga];unfold addF;split
 ·rfl
 ·rw[gM]
  split
  ·rename_i h;rw[List.filter_cons_of_pos (by simpa using h)];rfl
  ·rename_i h;rw[List.filter_cons_of_neg (by simpa using h)];simp
theorem jrV(M:vM)(x y:vB):cntB (M++[x]) y=cntB M y+(if x.data.toList=y.data.toList then 1 else 0):=by
 unfold cntB;rw[cB,List.count_append,bV,iO,List.count_singleton]
 simp
def jcc(G:vT)(x:vB):vM:=match atL G x.data.toList with | some y=>y.2.2.refs | none=>[]
theorem jfN{G:vT}{x:vB}{y:Nd5}(h:atL G x.data.toList=some y):jcc G x=y.2.2.refs:=by unfold jcc;rw[h]
theorem jl1(S:vT)(M:vM):(frK S M).Nodup:=(jhI M).sublist jK
theorem jgb{S:vT}{M:vM}{x:vB}:x∈frK S M↔x∈M/\atL S x.data.toList=none:=by
 unfold frK;rw[cM,jaX];simp
theorem jnq{x y:vB}(h:x.data.toList=y.data.toList):x=y:=ByteArray.ext (Array.ext' h)
theorem joT(S:vT)(M:vM):∀ T:vM,∃ X,frK S (M++T)=frK S M++X
 | []=>⟨[],by simp⟩
 | x :: T=>by
  obtain⟨X,o⟩:=joT S (M++[x]) T
  have e:M++x :: T=M++[x]++T:=by simp
  rw[e,o,joU];split
  ·exact⟨X,rfl⟩
  ·split
   ·exact⟨x :: X,by simp⟩
   ·exact⟨X,rfl⟩
theorem jsT(w0:vW)(s:Nat)(S:vT)(bg:Nat):Meet w0 s S bg w0.heap.size [] (((((w0.alloc (.cells #[.pointer (some ⟨s,0,none⟩)] 31)).alloc (.cells #[.map (some bg)] 70)).alloc (.cells #[.slice none 0 0] 28)).alloc (.map #[] 0)).alloc (.cells #[.map (some (w0.heap.size+3))] 61)):=by
 obtain⟨e,J⟩:=vE (w0.alloc (.cells #[.pointer (some ⟨s,0,none⟩)] 31))
 obtain⟨o,K⟩:=vE (e.alloc (.cells #[.map (some bg)] 70))
 obtain⟨A,O⟩:=vE (o.alloc (.cells #[.slice none 0 0] 28))
 obtain⟨E,Q⟩:=vE (A.alloc (.map #[] 0))
 obtain⟨W5,Z⟩:=vE (E.alloc (.cells #[.map (some (w0.heap.size+3))] 61))
 rw[<-J, <-K, <-O, <-Q, <-Z];have z1:e.heap.size=w0.heap.size+1:=by rw[J,bR]
 have z2:o.heap.size=w0.heap.size+2:=by rw[K,bR,z1]
 have z3:A.heap.size=w0.heap.size+3:=by rw[O,bR,z2]
 have z4:E.heap.size=w0.heap.size+4:=by rw[Q,bR,z3]
 have e1:Ext w0 e:=by rw[J];exact (ExtR w0).alloc _
 have e2:Ext e o:=by rw[K];exact (ExtR e).alloc _
 have e3:Ext o A:=by rw[O];exact (ExtR o).alloc _
 have X:Ext A E:=by rw[Q];exact (ExtR A).alloc _
 have H:Ext E W5:=by rw[Z];exact (ExtR E).alloc _
 have b1:=by have:=Blk.new w0 (.cells #[.pointer (some ⟨s,0,none⟩)] 31);rw[<-J]at this;exact this
 have b2:=by have:=Blk.new e (.cells #[.map (some bg)] 70);rw[<-K,z1]at this;exact this
 have b3:=by have:=Blk.new o (.cells #[.slice none 0 0] 28);rw[<-O,z2]at this;exact this
 have b4:=by have:=Blk.new A (.map #[] 0);rw[<-Q,z3]at this;exact this
 have b5:=by have:=Blk.new E (.cells #[.map (some (w0.heap.size+3))] 61);rw[<-Z,z4]at this;exact this
 exact⟨(((e1.trans e2).trans e3).trans X).trans H,bL _,b1.keeps (((e2.trans e3).trans X).trans H) (fun g=>g),b2.keeps ((e3.trans X).trans H) (fun g=>g),b5,
  ⟨[],0,b4.keeps H (fun g=>g),fun y=>rfl⟩,.slice none 0 0,0,b3.keeps (X.trans H) (fun g=>g),gA _ _ _ _,bL _,fun z hz=>by cases hz⟩
theorem jj0{w:vW}{v:vV}{n:Nat}{xs:vM}(h:w.ownsRow 0 9 1 v n (xs.map Value.string)):RdS w v xs:=by
 have z:xs.length=n:=by have:=h.1;simpa using this
 obtain⟨_,⟨rfl,J⟩ |⟨g,e,A,rfl,K,E,H,O,Q⟩⟩:=id h
 ·exact .inl ⟨none,0,rfl,bD vO⟩
 ·subst z
  refine .inr ⟨g,0,e,rfl,(dK.1 E).1,H,fun j x o=>?_⟩;have X:=(bP.1 o).1
  have:=h.cellAt j vO
  rw[cG,this,cA,o];rfl
theorem jqV(L:vM)(t:vB):readG (L++[t])=addG (readG L) t:=by unfold readG;rw[dX];rfl
theorem jfl(L:vM):(∀ p∈readG L,∃ t∈L,p=(ky t,itOf t))/\(∀ t∈L,∃ p∈readG L,p.1=ky t)/\(readG L).length<=L.length:=by
 suffices h:∀ (R o:vM),((∀ p∈readG o,∃ t∈o,p=(ky t,itOf t))/\(∀ t∈o,∃ p∈readG o,p.1=ky t)/\(readG o).length<=o.length)->(∀ p∈readG (o++R),∃ t∈o++R,p=(ky t,itOf t))/\(∀ t∈o++R,∃ p∈readG (o++R),p.1=ky t)/\(readG (o++R)).length<=(o++R).length from by
  have:=h L [] ⟨fun p A=>(by cases A),fun t E=>(by cases E),bL _⟩
  simpa using this
 intro R;induction R with
 | nil=>intro o h;simpa using h
 | cons t R ih =>
  intro o ⟨h1,h2,h3⟩
  have:=ih (o++[t]) (by
   rw[jqV];unfold addG;split
   ·rename_i hb
    obtain⟨p,A,e⟩:=fO.1 hb
    refine⟨fun p A=>by obtain⟨x,z,e⟩:=h1 p A;exact⟨x,bT.2 (.inl z),e⟩,fun x z=>?_,by rw[bC];exact bK h3 (Nat.le_add_right _ _)⟩
    rcases bT.1 z with z | z
    ·exact h2 x z
    ·simp only[bZ]at z;subst z;exact⟨p,A,(of_decide_eq_true e).symm⟩
   ·refine⟨fun p A=>?_,fun x z=>?_,by rw[bC,bC];exact Nat.add_le_add_right h3 1⟩
    ·rcases bT.1 A with A | A
     ·obtain⟨x,z,e⟩:=h1 p A;exact⟨x,bT.2 (.inl z),e⟩
     ·simp only[bZ]at A;subst A;exact⟨t,by simp,rfl⟩
    ·rcases bT.1 z with z | z
     ·obtain⟨p,A,e⟩:=h2 x z;exact⟨p,bT.2 (.inl A),e⟩
     ·simp only[bZ]at z;subst z;exact⟨(ky x,itOf x),by simp,rfl⟩)
  simpa using this
structure jzu(L:vM):Prop where
 node:∀ t∈L,∃ n,jbr t n
 shut:∀ t∈L,∀ h∈jaM (nodeOf t),∃ t'∈L,h=shaB t'
 few:L.length<=1000
theorem jl5{L:vM}{G:vT}(h:G.map kvI=readG L){t:vB}(ht:t∈L):(atL G (shaB t).data.toList).isSome=true:=by
 obtain⟨p,o,e⟩:=(jfl L).2.1 t ht
 rw[<-h]at o
 obtain⟨x,z,rfl⟩:=bJ.1 o
 cases ha:atL G (shaB t).data.toList with
 | some y=>rfl
 | none=>exact absurd e.symm (jkj.1 ha x z)
theorem jc6{L:vM}{G:vT}(h:G.map kvI=readG L){x:Nd5}(hx:x∈G):∃ t∈L,x.1=ky t/\x.2.2=itOf t:=by
 obtain⟨t,o,e⟩:=(jfl L).1 (kvI x) (by rw[<-h];exact bJ.2 ⟨x,hx,rfl⟩)
 exact⟨t,o,congrArg Prod.fst e,congrArg Prod.snd e⟩
def putF(f:Nat)(v:Int)(it:It):It:=if f=2 then { it with used:=v }else { it with held:=v }
def setB(f c:Nat)(v:Int)(x:Nd5):Nd5:=if x.2.1=c then (x.1,x.2.1,putF f v x.2.2)else x
theorem jwm(f c:Nat)(v:Int)(L:vT):(L.map (setB f c v)).map kvN=L.map kvN:=by
 rw[dJ];refine dI (fun x _=>?_);simp only[Function.comp,setB];split <;> rfl
theorem jwl(f c:Nat)(v:Int)(L:vT):(L.map (setB f c v)).map (·.2.1)=L.map (·.2.1):=by
 rw[dJ];refine dI (fun x _=>?_);simp only[Function.comp,setB];split <;> rfl
theorem jdr.setF{W:vW}{bm:Nat}{L:vT}(h:jdr W bm L){c:Nat}{it:It}(hc:jeY W c it){f:Nat}(hf:f=2\/f=3)(v:Int):jdr (W.setCell ⟨c,f,none⟩ (.int .i64 v)) bm (L.map (setB f c v)):=by
 obtain⟨rv,o,Q⟩:=hc.cells
 have A:jaf (fun z=>z=c) W (W.setCell ⟨c,f,none⟩ (.int .i64 v)):=jaf.oneSet W ⟨c,f,none⟩ _;have hN:jjk W (fun z=>z=c):=fun z X fz e Z=>by
  have e:z=c:=e;subst e
  have:=o.uniq Z;injection this with _ E;exact absurd E vI
 obtain⟨es,ck,K,E⟩:=h.mp
 have H:bm≠c:=fun e=>by subst e;have:=K.uniq o;cases this
 refine⟨⟨es,ck,K.keeps A H,by rw[jwm];exact E⟩,by rw[jwl];exact h.blks,fun x hx=>?_⟩
 obtain⟨y,hy,rfl⟩:=bJ.1 hx
 have O:=h.items y hy;unfold setB;split
 ·rename_i e
  obtain⟨J,hb,hr⟩:=O.cells
  rw[e]at hb
  refine⟨J,?_,?_⟩
  ·show Blk _ y.2.1 _
   rw[e];rcases hf with rfl | rfl
   ·exact hb.set_same (i:=2) _
   ·exact hb.set_same (i:=3) _
  ·have:=jgW hr A hN
   rcases hf with rfl | rfl <;> exact this
 ·rename_i e
  exact O.keeps A e hN
end
def HasS(S:vT)(t:vB):Prop:=∃ x,atL S (ky t)=some x/\x.2.2.text=t
structure HasM(S:vT)(l:vL):Prop where
 ok:jaw l=0
 has:∀ x∈jax (jaF l),HasS S x
def AllN(S:vT):Prop:=∀ x∈S,∃ n,jbr x.2.2.text n
def jg4(S:vT)(r:vB)(o:Option jad):Prop:=
 (∃ d m,InlD d r m/\o=some m)\/∃ h:vB,h.size=32/\r=jan h/\((atL S h.data.toList=none/\o=none)\/∃ y n,atL S h.data.toList=some y/\jbr y.2.2.text n/\o=some n)
theorem jg4.good{S:vT}{r:vB}{n:jad}(h:jg4 S r (some n)):∃ d,jbT (InlD d) n:=by
 rcases h with⟨d,m,h1,h2⟩ |⟨h,_,_,⟨_,h2⟩ |⟨y,m,_,h1,h2⟩⟩
 ·cases d with
  | zero=>exact h1.elim
  | succ d=>cases h2;exact⟨d,h1.1⟩
 ·cases h2
 ·cases h2;exact h1.2
theorem jxO{S:vT}{f:Nat}{T:PT}{n:jad}(hSt:jdO f T n)(hH:32<=T.text.size->HasS S T.text):jg4 S (refB T.text) (some n):=by
 by_cases hz:T.text.size < 32
 ·exact .inl ⟨f+1,n,hSt.may.2 hz,rfl⟩
 ·obtain⟨y,e,o⟩:=hH vO
  refine .inr ⟨shaB T.text,jbk _,jgS hz,.inr ⟨y,n,e,?_,rfl⟩⟩;rw[o]
  exact⟨hSt.text,f,hSt.good⟩
def Inf(v t:vB):Prop:=v.data.toList <:+: t.data.toList
theorem Inf.trans{a b c:vB}(h:Inf a b)(k:Inf b c):Inf a c:=List.IsInfix.trans h k
theorem Inf.rfl'(a:vB):Inf a a:=List.infix_refl _
theorem je2(a b:vB):Inf b (a++b):=⟨a.data.toList,[],by rw[cY,fW,bW]⟩
theorem jo3(v:vB):Inf v (jan v):=by
 unfold jan;split
 ·exact Inf.rfl' v
 ·exact je2 _ _
theorem jsy{x:vB}:∀ {l:vM},x∈l->Inf x (catB l)
 | y :: l,h=>by
  rcases bM.1 h with rfl | h
  ·refine⟨[],(l.map (·.data.toList)).flatten,?_⟩
   show _=x.data.toList++(l.map (·.data.toList)).flatten
   simp
  ·obtain⟨s,t,e⟩:=jsy h
   have e:s++x.data.toList++t=(l.map (·.data.toList)).flatten:=e
   refine⟨y.data.toList++s,t,?_⟩
   show _=y.data.toList++(l.map (·.data.toList)).flatten;rw[<-e];simp
theorem jh3{x:vB}{l:vM}(h:x∈l):Inf x (jbb l):=(jsy h).trans (je2 _ _)
theorem jdO.inf{f:Nat}{T:PT}{n:jad}(h:jdO f T n){v t:vB}(ht:t∈jax T)(hv:Inf v t):(∃ t∈jaH (jbF T),Inf v t)\/Inf v (refB T.text):=by
 by_cases hs:T.text.size < 32
 ·have e:=h.small hs
  obtain⟨x,ks⟩:=T
  have e:ks=[]:=e;subst e;unfold jax jaH at ht;rw[bZ]at ht;right;unfold refB;rw[if_pos hs, <-(show t=(PT.mk x []).text from ht)];exact hv
 ·left
  refine⟨t,?_,hv⟩
  unfold jbF;rw[if_neg hs,jbD]
  exact⟨T,bZ.2 rfl,ht⟩
def jdv(l:vL):Nat->Nat
 | 0=>0
 | n+1=>jdv l n+(if (cutL n l).length=0 then 0 else 1)
theorem jhv(l:vL)(n:Nat):∀ d,jdv l n<=jdv l (n+d)
 | 0=>bL _
 | d+1=>by have:=jhv l n d;rw[show n+(d+1)=(n+d)+1 from rfl,jdv];omega
theorem jiV{l:vL}{i n:Nat}(h:(cutL i l).length≠0)(hi:i < n):1<=jdv l n:=by
 have:=jhv l (i+1) (n - (i+1))
 rw[show i+1+(n - (i+1))=n by omega,jdv,if_neg h]at this;omega
theorem jgO{l:vL}{i j n:Nat}(h:(cutL i l).length≠0)(hj:(cutL j l).length≠0)(hij:i < j)(hn:j < n):2<=jdv l n:=by
 have e:=jiV h hij
 have:=jhv l (j+1) (n - (j+1))
 rw[show j+1+(n - (j+1))=n by omega,jdv,if_neg hj]at this;omega
theorem jsF(B:vL->PT)(l:vL)(hB:∀ i,(cutL i l).length≠0->(jax (B (jak 1 (cutL i l)))).length+2<=3 * (cutL i l).length):∀ n,(jaH (ksK B l n)).length+2 * jdv l n<=3 * jdf l n
 | 0=>by simp[ksK,jaH,jdf,jdv]
 | n+1=>by
  rw[jh5,jdy,bC,jdf,jdv]
  have:=jsF B l hB n
  by_cases h0:(cutL n l).length=0
  ·rw[if_pos h0,if_pos h0];simp[jaH];omega
  ·rw[if_neg h0,if_neg h0]
   have e:=hB n h0;have o:=jiI (B (jak 1 (cutL n l)));omega
theorem jlP{l:vL}(h:∃ p∈l,p.l=[])(n:Nat):jdf l n+1<=l.length:=by
 obtain⟨p,o,e⟩:=h
 induction l with
 | nil=>cases o
 | cons q r ih =>
  rw[jf5,bF];rcases bM.1 o with rfl | o
  ·have:=je9 r n
   rw[e]
   have:hN [] n=0:=rfl
   omega
  ·have:=ih o
   have:=jz6 q.l n
   omega
theorem jr5{l:vL}{p:Pair}{x:vU}{r:vN}(hp:p∈l)(hpx:p.l=x :: r):p∈cutL x.toNat l:=cM.2 ⟨hp,by unfold jeU;rw[show p.1.data.toList=x :: r from hpx];simp⟩
theorem jf6{l:vL}{p:Pair}{x:vU}{r:vN}(hp:p∈l)(hpx:p.l=x :: r):(cutL x.toNat l).length≠0:=fun e=>by
 have:=jr5 hp hpx
 rw[bD e]at this;cases this
theorem joM{k:Nat}{l:vL}{p:Pair}(h:p∈l):∃ q∈jak k l,q.2=p.2:=⟨_,jJ h,rfl⟩
structure jxa(T:PT)(l:vL):Prop where
 all:(jax T).length+2<=3 * l.length
 two:2<=l.length->comK l=0->(jax T).length+3<=3 * l.length
 inf:∀ p∈l,∃ t∈jax T,Inf p.2 t
theorem jo1(f:Nat){l:vL}(h:l.length=1):jxa (jac (f+1) l) l:=by
 obtain⟨p,rfl⟩:=fN.1 h
 have e:jax (jac (f+1) [p])=[jme ⟨1,p.1,p.2,jam 16⟩]:=by
  show jax (.mk (jaP (jap (jac f) [p])) (jav (jac f) [p]))=_;have A:jap (jac f) [p]=⟨1,p.1,p.2,jam 16⟩:=rfl;have o:jav (jac f) [p]=[]:=rfl;rw[A,o];rfl
 refine⟨by rw[e];simp,fun o=>by simp at o,fun q z=>?_⟩
 rw[bZ]at z;subst z;rw[e]
 refine⟨_,bZ.2 rfl,(jo3 q.2).trans ?_⟩
 unfold jme;exact jh3 (by simp)
theorem grow:∀ (f:Nat) (l:vL),jas f l->l≠[]->jxa (jac (f+1) l) l:=by
 intro f;induction f with
 | zero =>
  intro l h hn;have h0:l.length≠0:=fun e=>hn (bD e);have hl:l.length<=1:=by
   rcases fQ l.length 2 with h2 | h2
   ·omega
   ·obtain⟨a,O⟩:∃ a,l[0]?=some a:=⟨_,bA vO⟩
    obtain⟨b,hb⟩:∃ b,l[1]?=some b:=⟨_,bA vO⟩
    have o:=jca h.rise vO O hb
    have:=(h.size b (bI hb)).1
    rw[show b.l=[]from bD (by show b.1.size=0;omega)]at o;exact absurd o (not_lt_nil _)
  exact jo1 0 vO
 | succ f ih =>
  intro l h hn;have h0:l.length≠0:=fun e=>hn (bD e)
  by_cases h1:l.length=1
  ·exact jo1 (f+1) h1
  have h2:2<=l.length:=vO
  have z:=jbl h h2;have eT:jax (jac (f+1+1) l)=jaP (jap (jac (f+1)) l) :: jaH (jav (jac (f+1)) l):=by
   show jax (.mk (jaP (jap (jac (f+1)) l)) (jav (jac (f+1)) l))=_;rw[jax]
  by_cases hk:0 < comK l
  ·have a0:jas f (jak (comK l) l):=(jb9 (comK l) h (fun p A q hq=>(z p A).1.trans (z q hq).1.symm) (fun p A=>(z p A).2)).mono vO
   have Q:jak (comK l) l≠[]:=fun e=>by have:=jaJ (comK l) l;rw[e]at this;simp at this;omega
   have hg:=ih _ a0 Q
   obtain⟨_,i2,_⟩:=good f _ a0
   have H:=i2 Q;have eB:jav (jac (f+1)) l=jbF (jac (f+1) (jak (comK l) l)):=by
    unfold jav;rw[if_neg vO,if_pos hk]
   have eN:jap (jac (f+1)) l=⟨2,(l.getD 0 pd).1.extract 0 (comK l),⟨#[]⟩,refB (jac (f+1) (jak (comK l) l)).text :: jam 15⟩:=by unfold jap;rw[if_neg h0,if_neg h1,if_pos hk]
   have J:=hg.two (by rw[jaJ];omega) (jgz vO);rw[jaJ]at J;have hh:=jiI (jac (f+1) (jak (comK l) l))
   refine⟨by rw[eT,eB,bF];omega,fun _ hz=>by omega,fun p A=>?_⟩
   obtain⟨q,hq,e2⟩:=joM (k:=comK l) A
   obtain⟨t,ht,hv⟩:=hg.inf q hq
   rw[e2]at hv;rw[eT,eB];rcases H.inf ht hv with⟨t',ht',hv'⟩ | hv'
   ·exact⟨t',bE _ ht',hv'⟩
   ·refine⟨_,bH,hv'.trans ?_⟩
    have:jaP (jap (jac (f+1)) l)=extB (jap (jac (f+1)) l):=by rw[eN];rfl
    rw[this,eN];unfold extB;exact jh3 (by simp)
  ·have K:∀ i,(cutL i l).length≠0->jak 1 (cutL i l)≠[]:=fun i E e=>by have:=jaJ 1 (cutL i l);rw[e]at this;simp at this;omega
   have hg:∀ i,(cutL i l).length≠0->jxa (jac (f+1) (jak 1 (cutL i l))) (jak 1 (cutL i l)):=fun i E=>ih _ (jdq i h) (K i E);have H:∀ i,(cutL i l).length≠0->jdO f (jac (f+1) (jak 1 (cutL i l))) (jap (jac f) (jak 1 (cutL i l))):=fun i E=>(good f _ (jdq i h)).2.1 (K i E);have eB:jav (jac (f+1)) l=ksK (jac (f+1)) l 16:=by
    unfold jav;rw[if_neg vO,if_neg hk];rfl
   obtain⟨a,O⟩:∃ a,l[0]?=some a:=⟨_,bA vO⟩
   obtain⟨b,hb⟩:∃ b,l[l.length - 1]?=some b:=⟨_,bA vO⟩
   have ga:l.getD 0 pd=a:=by rw[bG,O];rfl
   have gb:l.getD (l.length - 1) pd=b:=by rw[bG,hb];rfl
   have X:=bI O;have a1:=bI hb;have o:=jca h.rise vO O hb
   obtain⟨rs,Z⟩:=vE ((List.range 16).map fun i=>if (cutL i l).length=0 then (⟨#[]⟩:vB)else refB (jac (f+1) (jak 1 (cutL i l))).text)
   have eN:jap (jac (f+1)) l=⟨3,⟨#[]⟩,if a.1.size=0 then a.2 else ⟨#[]⟩,rs⟩:=by unfold jap;rw[if_neg h0,if_neg h1,if_neg hk,ga,Z]
   have J:(jaH (jav (jac (f+1)) l)).length+4<=3 * l.length:=by
    rw[eB];have b0:=jsF (jac (f+1)) l (fun i E=>by have:=(hg i E).all;rwa [jaJ]at this) 16;have a2:ja0 a.l b.l=0:=by have:comK l=ja0 a.l b.l:=(by unfold comK jal;rw[ga,gb]);omega
    cases hbl:b.l with
    | nil=>rw[hbl]at o;exact absurd o (not_lt_nil _)
    | cons y t =>
     have hy:=jfi (h.size b a1).2.2.1 hbl;have cb:=jf6 a1 hbl;cases hal:a.l with
     | nil =>
      have:=jlP ⟨a,X,hal⟩ 16
      have:=jiV cb hy
      omega
     | cons x r =>
      have hx:=jfi (h.size a X).2.2.1 hal;have ca:=jf6 X hal;have a5:x≠y:=by
       intro e;rw[hal,hbl,e]at a2;simp[ja0]at a2
      have Q:x.toNat≠y.toNat:=fun e=>a5 (dP.1 e)
      have:=je9 l 16
      have:2<=jdv l 16:=by
       rcases fQ x.toNat y.toNat with e | e
       ·exact jgO ca cb e hy
       ·exact jgO cb ca vO hx
      omega
   refine⟨by rw[eT,bF];omega,fun _ _=>by rw[eT,bF];omega,fun p A=>?_⟩
   have a3:jaP (jap (jac (f+1)) l)=jec (jap (jac (f+1)) l):=by rw[eN];rfl
   have a4:jbP (jap (jac (f+1)) l)=ja7 rs (if a.1.size=0 then a.2 else ⟨#[]⟩):=by
    rw[jdF _ (by rw[eN,Z];simp),eN]
   cases hpl:p.l with
   | nil =>
    have a6:p=a:=by
     obtain⟨i,E⟩:=gR A
     by_cases h00:i=0
     ·subst h00;rw[O]at E;exact (bS E).symm
     ·have:=jca h.rise vO O E
      rw[hpl]at this;exact absurd this (not_lt_nil _)
    subst a6;have hz:p.1.size=0:=by show p.1.data.toList.length=0;rw[show p.1.data.toList=[]from hpl];rfl
    rw[eT]
    refine⟨_,bH,(jo3 p.2).trans ?_⟩
    rw[a3];unfold jec;rw[a4,if_pos hz];refine jh3 ?_;unfold ja7;simp
   | cons x r =>
    have hx:=jfi (h.size p A).2.2.1 hpl;have hc:=jf6 A hpl
    obtain⟨q,hq,e2⟩:=joM (k:=1) (jr5 A hpl)
    obtain⟨t,ht,hv⟩:=(hg _ hc).inf q hq
    rw[e2]at hv;rw[eT,eB];rcases (H _ hc).inf ht hv with⟨t',ht',hv'⟩ | hv'
    ·refine⟨t',bE _ ?_,hv'⟩
     obtain⟨T',a7,a8⟩:=jbD.1 ht'
     refine jbD.2 ⟨T',?_,a8⟩;unfold ksK;refine cR.2 ⟨x.toNat,dW.2 hx,?_⟩;rw[if_neg hc];exact a7
    ·refine⟨_,bH,hv'.trans ?_⟩
     rw[a3];unfold jec;rw[a4];refine jh3 ?_;unfold ja7;refine bT.2 (.inl ?_);have a9:refB (jac (f+1) (jak 1 (cutL x.toNat l))).text∈rs:=by
      rw[Z];refine bJ.2 ⟨x.toNat,dW.2 hx,?_⟩;rw[if_neg hc]
     refine bJ.2 ⟨_,a9,?_⟩;rw[if_neg (H _ hc).may.1.pos]
theorem jq9{l:vL}(h:jaw l=0):(jbf (jax (jaF l))).length<=1+3 * l.length/\∀ p∈l,∃ t∈jbf (jax (jaF l)),Inf p.2 t:=by
 by_cases h0:l=[]
 ·subst h0
  refine⟨?_,by simp⟩
  have:=jhj (jax (jaF []))
  have E:=jpW (jaA h);simp at E ⊢;omega
 ·have H:=jbw (jaA h)
  have o:jaR l≠[]:=fun e=>h0 (by unfold jaR at e;simpa using e);have z:=grow 12 (jaR l) H o;have J:(jaR l).length=l.length:=by unfold jaR;rw[cC]
  have A:=z.all;rw[J]at A;have Z:=jhj (jax (jaF l));have K:jaF l=jac (12+1) (jaR l):=rfl;rw[<-K]at A
  refine⟨by omega,fun p O=>?_⟩
  obtain⟨t,Q,X⟩:=z.inf _ (jJ O)
  exact⟨t,(jaX _ _).2 Q,X⟩
theorem jk6{f:Nat}{l:vL}(h:jas f l)(hn:l≠[]):(refB (jac (f+1) l).text).size≠0:=((good f l h).2.1 hn).may.1.pos
theorem jfF(g:Nat->vB){i n:Nat}(h:i < n):((List.range n).map g).getD i ⟨#[]⟩=g i:=by
 rw[bG,cA,fA h];rfl
theorem jhX{f:Nat}{l m:vL}(hm:m≠[])(ho:jas f m)(hk:jbF (jac (f+1) m) ⊆ jav (jac (f+1)) l):∀ x∈jax (jac (f+1) m),32<=x.size->x∈jax (jac (f+1+1) l):=fun x e z=>by
 have A:jax (jac (f+1+1) l)=jaP (jap (jac (f+1)) l) :: jaH (jav (jac (f+1)) l):=by
  show jax (.mk (jaP (jap (jac (f+1)) l)) (jav (jac (f+1)) l))=_;rw[jax]
 rw[A];have o:=(good f m ho).2.1 hm
 by_cases hs:(jac (f+1) m).text.size < 32
 ·rw[jhm o hs,bZ]at e
  subst e;omega
 ·refine bE _ (jbD.2 ⟨jac (f+1) m,hk ?_,e⟩)
  unfold jbF;rw[if_neg hs];exact bZ.2 rfl
section
attribute [local go_sem] Oper.semAt_some
def preB(p s:vB):Bool:=p.data.toList.isPrefixOf s.data.toList
theorem jpT:∀ (p s:vN),p.isPrefixOf s=(decide (p.length<=s.length) && (s.take p.length == p))
 | [],s=>by simp
 | x :: p,[]=>by simp
 | x :: p,y :: s=>by
  have o:=jpT p s;simp only[List.isPrefixOf,bF,dZ,o,Nat.add_le_add_iff_right]
  by_cases h:x=y
  ·subst h;simp
  ·have:(y == x)=false:=by simpa using fun e=>h e.symm
   simp[h,this]
theorem jwv(s:vB)(n:Nat):(s.extract 0 n).toList=s.data.toList.take n:=by
 rw[bO,dA,fL,dU];simp
theorem jpy(w:vW)(s p:vB)(hs:s.size<=1000000)(hp:p.size<=1000000):vQ 246 #[.string s,.string p] w fun e w'=>e=.returned (.bool (preB p s))/\w'=w:=by
 have o:=jpT p.data.toList s.data.toList;have z:p.data.toList.length=p.size:=rfl;have A:s.data.toList.length=s.size:=rfl;rw[z,A, <-jwv]at o;have o:preB p s=_:=o
 by_cases hl:p.size<=s.size
 ·have E:(p.size:Int)<=(s.size:Int):=vO
  have H:¬(s.size:Int) < (p.size:Int):=vO
  have J:((p.size:Int)).toNat=p.size:=vO
  rw[decide_eq_true hl,Bool.true_and, <-bO]at o;rw[o];clear o z A;unfold vQ;go_in;go_wp2_with fail
  go_ret
  exact⟨rfl,rfl⟩
 ·have E:(s.size:Int) < (p.size:Int):=vO
  rw[decide_eq_false hl,Bool.false_and]at o;rw[o];clear o z A;unfold vQ;go_in;go_wp2_with fail
  go_ret
  exact⟨rfl,rfl⟩
theorem jAq{W:vW}{B:Nat}{T:TypeId}{sz:Nat}{v:vV}{n:Nat}{xs:List vV}(h:W.ownsRow B T sz v n xs){b:Nat}(hb:v.ownBlock=some b):b < W.heap.size:=by
 obtain⟨H,o |⟨g,z,A,o,J,E,K⟩⟩:=h
 ·rw[o.1]at hb;cases hb
 ·rw[o]at hb
  have e:some g=some b:=hb;obtain rfl:=bS e;exact (dK.1 E).1
end
