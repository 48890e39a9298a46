/- Lemmas; each is under no condition but those that it states. -/
import Derived.Test.YtmobgkphhbmhbaaGreatDoorPb15
import Derived.Test.YtmobgkphhbmhbaaGreatDoorPb16
import Derived.Sort.OwnSorted
namespace Go.Proofs.YtmobgkphhbmhbaaGreatDoor
set_option linter.unusedSimpArgs false
set_option linter.unusedVariables false
set_option maxRecDepth 100000
set_option maxHeartbeats 16000000
open Go Go.RowKit
section
attribute [local go_sem] Oper.semAt_some
def jej(l:List (vN)):List (vN):=l.mergeSort fun x y=>decide (x<=y)
def baL(l:List (vN)):vM:=l.map fun x=>⟨x.toArray⟩
theorem jgE(l:List (vN)):(jej l).length=l.length:=by simp[jej]
theorem jjG{a b:List (vN)}(h:a.Perm b):jej a=jej b:=by
 have q:∀ a b c:vN,decide (a<=b)=true->decide (b<=c)=true->decide (a<=c)=true:=fun a b c e o=>by simp only[decide_eq_true_eq]at *;exact List.le_trans e o
 have to:∀ a b:vN,(decide (a<=b) || decide (b<=a))=true:=fun a b=>by simp only[Bool.or_eq_true,decide_eq_true_eq];exact List.le_total a b
 refine List.Perm.eq_of_pairwise (le:=fun x y=>decide (x<=y)=true) (fun x y _ _ e o=>by simp only[decide_eq_true_eq]at e o;exact List.le_antisymm e o) (List.pairwise_mergeSort q to a) (List.pairwise_mergeSort q to b) ?_;exact (iC a _).trans (h.trans (iC b _).symm)
theorem jqq(l:List (vN)):(baL l).map Value.string=l.map encStr:=by
 unfold baL;rw[dE];rfl
theorem ju6{w0 w:vW}{v:vV}{n:Nat}{ks:List (vN)}(h:ORow 9 1 w0 w v n (ks.map encStr))(hn:n<=1000000) :
  vQ 60 #[v] w fun e w'=>e=.returned (.tuple #[])/\ORow 9 1 w0 w' v n ((jej ks).map encStr):=by
 have o:ks.length=n:=by have:=h.len;simpa using this
 rcases h.own.2 with⟨e0,_⟩ |⟨g,cap,cur,e0,h3,h4,h5,h6,h7,h8⟩
 ·subst e0
  obtain⟨a,c,e⟩:=h.sl
  injection e with e1 e2 e3;subst e2
  have:ks=[]:=bE o
  subst this;refine (Tryz.slices_Sort_string_none none 0 w).mono ?_;rintro e w' ⟨rfl,rfl⟩
  exact⟨rfl,by simpa [jej]using h⟩
 ·subst e0
  subst o;refine (Tryz.slices_Sort_string g 0 cap ks w (holds_of_block h4 (by simpa using h8)) (dA.1 h4).1 vO).mono ?_;rintro e w' ⟨rfl,q,A,rfl⟩
  refine⟨rfl,⟨_,_,rfl⟩,ownsRow_sorted (jgE ks) (cB _) h4 h5 h6 h7,?_,h.new⟩
  exact h.ext.trans' (jad.of_grown (F:=fun b=>b=g) (grownBy_sorted _) (fun r z _=>by cases z;rfl)) (fun x E e=>by have:=h.new g rfl;omega)
theorem MapV.lenL{es:List EntK}{ck:Nat}{L:vT}(h:MapV es ck (L.map kvN)):es.length=L.length:=by rw[h.len];simp
theorem jwx(w:vW)(s bm:Nat)(room:Int)(L:vT)(h:jaL w s bm room L)(h0:0<=room)(e:room<=9223372036854775807)(hl:L.length<=1000000):vR 45 #[.pointer (some ⟨s,0,none⟩)] w (.int .i64 (room - L.length)):=by
 have O:=Hd (h.st.cell (i:=1) (v:=.map (some bm)) vF);have Q:=Hd (h.st.cell (i:=0) (v:=.int .i64 room) vF)
 obtain⟨H,ck,J,q⟩:=h.mp.mp
 have X:=Hd J
 obtain⟨n,A⟩:=vE L.length
 have z:H.length=n:=by rw[q.lenL,A]
 have E:=Hd z;rw[<-A]at hl ⊢;clear h J q z A;go_enter Tryz.func45,Tryz.ntmps45;go_wp2_with fail
 refine jak [0,1,2,3,4,5,6,7,8,9,10] Ext ExtR ExtT vY vY vY ?_
 refine vK ?_
 refine jcp _ (.pointer (some ⟨s,0,none⟩)) rfl vY rfl (fun w1 _=>by kernel_rfl) ?_;refine vS ?_
 refine vK ?_
 refine qKL ⟨s,0,none⟩ _ rfl (fun w1 e=>jac Tryz.underlying3 rfl (jaa Q.o ((jam _).trans e))) ?_;refine vS ?_
 refine vK ?_
 refine jcp _ (.pointer (some ⟨s,0,none⟩)) rfl vY rfl (fun w1 _=>by kernel_rfl) ?_;refine vS ?_
 refine vK ?_
 refine qKL ⟨s,1,none⟩ _ rfl (fun w1 e=>jac Tryz.underlying73 rfl (jaa O.o ((jam _).trans e))) ?_;refine vS ?_;refine jcp _ (.int .i64 H.length) rfl vY rfl (fun w1 e=>by
  have Z:=jiz Tryz.ES Tryz.uMapIt (X.o.keeps ((jam _).trans e) (fun h=>h)) 3;simp[execOp,Act.eval,resolve,invoke,builtin,Z,bT,Result.andThen,cI]) ?_
 refine vS ?_;rw[E.o];iterate 2 refine vK ?_
 refine qKE (fun w3 K=>?_);have HE:=Hd ((jam _).trans K);clear K;go_wp2_with fail
 go_ret
 exact⟨rfl,HE.o⟩
theorem Tryz.makeMapIt(W:vW):(Instr.makeMap 73 none).run Tryz.prog W=.ok (.map (some W.heap.size)) (W.alloc (.map #[] 0)):=vY
theorem ju5(w:vW)(room:Int):vQ 12 #[.int .i64 room] w fun e w'=>∃ s bm,e=.returned (.pointer (some ⟨s,0,none⟩))/\Ext w w'/\jaL w' s bm (max room 0) []/\w.heap.size<=bm/\w.heap.size<=s/\s≠bm:=by
 have o:=Tryz.makeMapIt;go_enter Tryz.func12,Tryz.ntmps12;go_wp2_with fail
 go_ret
 refine⟨_,_,rfl,((ExtR w).alloc _).alloc _,⟨?_,⟨[],0,?_,MapV.nil 0⟩,by simp,fun x q=>by cases q⟩,bM _,Nat.le_succ _,by omega⟩
 ·exact (by simpa using Blk.new (w.alloc (.map #[] 0)) (.cells #[.int .i64 (max room 0),.map (some w.heap.size)] 75))
 ·exact (Blk.new w (.map #[] 0)).alloc _
def slN(v:vV):Nat:=match v with | .slice _ n _=>n | _=>0
def jjR(s:List EntK):Array Nat:=(s.map (·.2.2)).toArray
def keyS(s:List EntK):List vV:=(s.map (·.1)).map encStr
structure HaS(w:World)(r bm ck:Nat)(es s:List EntK)(v:Value)(W:World):Prop where
 row:ORow 9 1 w W v s.length (keyS s)
 it:Blk W r (.mapIter (some bm) ck (jjR s) ck)
 sub:∀ x∈s,x∈es
 nd:(s.map (·.2.2)).Nodup
 ne:∀ b,v.ownBlock=some b->b≠r
theorem jgt{α β:Type}(f:α->β):∀ {l:List α},(l.map f).Nodup->l.Nodup
 | [],_=>iF
 | x :: r,h=>by
  rw[bL,dH]at h;exact dH.2 ⟨fun e=>h.1 (bH.2 ⟨x,e,rfl⟩),jgt f h.2⟩
theorem HaS.len{w:vW}{r bm ck:Nat}{es s:List EntK}{v:vV}{W:vW}(h:HaS w r bm ck es s v W):s.length<=es.length:=
 gD (jgt _ h.nd) (fun x e=>h.sub x e)
theorem HaS.done{w:vW}{r bm ck:Nat}{es s:List EntK}{v:vV}{W:vW}(h:HaS w r bm ck es s v W)(h0:jaX es (jjR s)=[])(hb:(es.map (·.2.2)).Nodup):s.Perm es:=by
 refine (List.perm_ext_iff_of_nodup (jgt _ h.nd) (jgt _ hb)).2 fun x=>⟨fun o=>h.sub x o,fun o=>?_⟩
 by_cases hc:x.2.2∈s.map (·.2.2)
 ·obtain⟨y,q,e⟩:=bH.1 hc
  have:y=x:=jbz hb (h.sub y q) o e
  exact this ▸ q
 ·have:x∈jaX es (jjR s):=cH.2 ⟨o,by unfold jjR;simpa using hc⟩
  rw[h0]at this;cases this
def jym(w:vW)(r bm ck:Nat)(es:List EntK)(v:vV)(W:vW):Prop:=∃ s,HaS w r bm ck es s v W
end
noncomputable def itOf(t:vB):It:=⟨t,jaF (nodeOf t),0,0⟩
noncomputable def ky(t:vB):Key:=(shaB t).data.toList
noncomputable def addG(m:List (Key × It))(t:vB):List (Key × It):=if m.any (fun x=>decide (ky t=x.1))then m else m++[(ky t,itOf t)]
noncomputable def readG(L:vM):List (Key × It):=L.foldl addG []
def kvI(x:Nd5):Key × It:=(x.1,x.2.2)
theorem jjO{L:vT}{k:Key}:atL L k=none↔∀ x∈L,k≠x.1:=by
 unfold atL;rw[List.find?_eq_none];simp
theorem jvr{L:vT}{k:Key}:(L.map kvI).any (fun x=>decide (k=x.1))=(atL L k).isSome:=by
 rw[List.any_map];unfold atL;rw[List.isSome_find?];rfl
theorem jh8(k:Key)(v:vV)(n:Nat):∀ es:List EntK,jaS es k=none->jbj es k v n=es++[(k,v,n)]
 | [],_=>rfl
 | x :: r,h=>by
  rw[jlw]at h;unfold jbj
  by_cases hk:k=x.1
  ·rw[if_pos hk]at h;cases h
  ·rw[if_neg hk]at h ⊢
   rw[jh8 k v n r h];rfl
theorem jdg.put{W:vW}{bm:Nat}{L:vT}(h:jdg W bm L)(k:vB)(hk:atL L k.data.toList=none){b:Nat}{it:It}(hb:jeI W b it)(hn:∀ x∈L,x.2.1≠b) :
  ∃ o,(Instr.mapUpdate 73 (.map (some bm)) (.string k) (.pointer (some ⟨b,0,none⟩))).run Tryz.prog W=.ok () (W.putObj bm o)/\jdg (W.putObj bm o) bm (L++[(k.data.toList,b,it)]):=by
 obtain⟨X,K,H,O⟩:=h.mp
 have Z:jaS X k.data.toList=none:=by rw[O.get,jq7,hk];rfl
 have A:=jb1 Tryz.ES Tryz.uMapIt H k.data.toList (.pointer (some ⟨b,0,none⟩));have Q:=O.put k.data.toList (.pointer (some ⟨b,0,none⟩));rw[Z]at A Q;simp only[Option.isSome_none,cL,if_false]at A Q;have hK:jad (fun z=>z=bm) W (W.putObj bm (.map (Tryz.ES.arr (jbj X k.data.toList (.pointer (some ⟨b,0,none⟩)) K)) (K+1))):=jad.onePut W bm _;have hN:jiL W (fun z=>z=bm):=fun z a0 fz e hz=>by
  have e:z=bm:=e;subst e
  have:=H.uniq hz;cases this
 have E:∀ {c:Nat} {i:It},jeI W c i->¬ c=bm:=fun hi e=>by
  obtain⟨_,J,_⟩:=hi.cells
  subst e
  have:=H.uniq J;cases this
 refine⟨_,A,⟨_,_,H.put_same _,?_⟩,?_,?_⟩
 ·have e:putV (L.map kvN) k.data.toList (.pointer (some ⟨b,0,none⟩))=(L++[(k.data.toList,b,it)]).map kvN:=by
   rw[bY, <-O.same, <-jr9,jh8 _ _ K _ Z,bY];rfl
  rw[<-e];exact Q
 ·rw[bY,dY]
  exact⟨h.blks,by simp,fun a ha c J e=>by
   simp at J;subst J;subst e
   obtain⟨x,q,e⟩:=bH.1 ha
   exact hn x q e⟩
 ·intro x q
  rcases bR.1 q with q | q
  ·exact (h.items x q).keeps hK (E (h.items x q)) hN
  ·simp only[bO]at q
   subst q;exact hb.keeps hK (E hb) hN
structure ReS(w:World)(bg:Nat)(G:vT)(T:vM)(W:World):Prop where
 ext:Ext w W
 at':jdg W bg G
 is:G.map kvI=readG T
 new:w.heap.size<=bg
 news:∀ x∈G,w.heap.size<=x.2.1
theorem ReS.keeps{w:vW}{bg:Nat}{G:vT}{T:vM}{W W':vW}(h:ReS w bg G T W)(e:Ext W W'):ReS w bg G T W':=⟨h.ext.trans e,h.at'.ext e,h.is,h.new,h.news⟩
theorem jpN{L:vM}{i:Nat}{t:vB}(h:L[i]?=some t):readG (L.take (i+1))=addG (readG (L.take i)) t:=by
 unfold readG;rw[cE,h,fN];rfl
section
attribute [local go_sem] Oper.semAt_some
def frK(S:vT)(M:vM):vM:=(ja8 M).filter fun y=>(atL S y.data.toList).isNone
structure Meet(w0:World)(s:Nat)(S:vT)(bg b:Nat)(M:vM)(W:World):Prop where
 ext:Ext w0 W
 lo:w0.heap.size<=b
 c3:Blk W b (.cells #[.pointer (some ⟨s,0,none⟩)] 25)
 c5:Blk W (b+1) (.cells #[.map (some bg)] 73)
 c9:Blk W (b+4) (.cells #[.map (some (b+3))] 98)
 tab:∃ es ck,Blk W (b+3) (.map (Tryz.ES.arr es) ck)/\∀ y:vB,jaS es y.data.toList=cntV (cntB M y)
 var:∃ v n,Blk W (b+2) (.cells #[v] 22)/\W.ownsRow 0 9 1 v n ((frK S M).map Value.string)/\n<=M.length/\∀ z,v.ownBlock=some z->b+5<=z
theorem Meet.keeps{w0:vW}{s:Nat}{S:vT}{bg b:Nat}{M:vM}{W W':vW}(h:Meet w0 s S bg b M W)(e:Ext W W'):Meet w0 s S bg b M W':=by
 obtain⟨o,q,z,A⟩:=h.tab
 obtain⟨v,n,E,H,J,K⟩:=h.var
 exact⟨h.ext.trans e,h.lo,h.c3.keeps e (fun g=>g),h.c5.keeps e (fun g=>g),h.c9.keeps e (fun g=>g),⟨o,q,z.keeps e (fun g=>g),A⟩,v,n,E.keeps e (fun g=>g),jbl H e,J,K⟩
theorem jnZ(S:vT)(M:vM)(x:vB):frK S (M++[x])=if memB (ja8 M) x=true then frK S M else if (atL S x.data.toList).isNone then frK S M++[x]else frK S M:=by
 unfold frK;rw[jfV];unfold addF;split
 ·rfl
 ·rw[gR]
  split
  ·rename_i h;rw[List.filter_cons_of_pos (by simpa using h)];rfl
  ·rename_i h;rw[List.filter_cons_of_neg (by simpa using h)];simp
theorem jqI(M:vM)(x y:vB):cntB (M++[x]) y=cntB M y+(if x.data.toList=y.data.toList then 1 else 0):=by
 unfold cntB;rw[bY,List.count_append,bL,iD,List.count_singleton]
 simp
def jca(G:vT)(x:vB):vM:=match atL G x.data.toList with | some y=>y.2.2.refs | none=>[]
theorem jfx{G:vT}{x:vB}{y:Nd5}(h:atL G x.data.toList=some y):jca G x=y.2.2.refs:=by unfold jca;rw[h]
theorem jlt(S:vT)(M:vM):(frK S M).Nodup:=(jeT M).sublist List.filter_sublist
theorem jfW{S:vT}{M:vM}{x:vB}:x∈frK S M↔x∈M/\atL S x.data.toList=none:=by
 unfold frK;rw[cH,jaM];simp
theorem jmF{x y:vB}(h:x.data.toList=y.data.toList):x=y:=ByteArray.ext (Array.ext' h)
theorem jnY(S:vT)(M:vM):∀ T:vM,∃ X,frK S (M++T)=frK S M++X
 | []=>⟨[],by simp⟩
 | x :: T=>by
  obtain⟨X,o⟩:=jnY S (M++[x]) T
  have e:M++x :: T=M++[x]++T:=by simp
  rw[e,o,jnZ];split
  ·exact⟨X,rfl⟩
  ·split
   ·exact⟨x :: X,by simp⟩
   ·exact⟨X,rfl⟩
theorem jrC(w0:vW)(s:Nat)(S:vT)(bg:Nat):Meet w0 s S bg w0.heap.size [] (((((w0.alloc (.cells #[.pointer (some ⟨s,0,none⟩)] 25)).alloc (.cells #[.map (some bg)] 73)).alloc (.cells #[.slice none 0 0] 22)).alloc (.map #[] 0)).alloc (.cells #[.map (some (w0.heap.size+3))] 98)):=by
 obtain⟨e,H⟩:=vE (w0.alloc (.cells #[.pointer (some ⟨s,0,none⟩)] 25))
 obtain⟨o,J⟩:=vE (e.alloc (.cells #[.map (some bg)] 73))
 obtain⟨q,K⟩:=vE (o.alloc (.cells #[.slice none 0 0] 22))
 obtain⟨A,O⟩:=vE (q.alloc (.map #[] 0))
 obtain⟨W5,X⟩:=vE (A.alloc (.cells #[.map (some (w0.heap.size+3))] 98))
 rw[<-H, <-J, <-K, <-O, <-X];have z1:e.heap.size=w0.heap.size+1:=by rw[H,bN]
 have z2:o.heap.size=w0.heap.size+2:=by rw[J,bN,z1]
 have z3:q.heap.size=w0.heap.size+3:=by rw[K,bN,z2]
 have z4:A.heap.size=w0.heap.size+4:=by rw[O,bN,z3]
 have e1:Ext w0 e:=by rw[H];exact (ExtR w0).alloc _
 have e2:Ext e o:=by rw[J];exact (ExtR e).alloc _
 have Z:Ext o q:=by rw[K];exact (ExtR o).alloc _
 have Q:Ext q A:=by rw[O];exact (ExtR q).alloc _
 have E:Ext A W5:=by rw[X];exact (ExtR A).alloc _
 have b1:=by have:=Blk.new w0 (.cells #[.pointer (some ⟨s,0,none⟩)] 25);rw[<-H]at this;exact this
 have b2:=by have:=Blk.new e (.cells #[.map (some bg)] 73);rw[<-J,z1]at this;exact this
 have b3:=by have:=Blk.new o (.cells #[.slice none 0 0] 22);rw[<-K,z2]at this;exact this
 have b4:=by have:=Blk.new q (.map #[] 0);rw[<-O,z3]at this;exact this
 have b5:=by have:=Blk.new A (.cells #[.map (some (w0.heap.size+3))] 98);rw[<-X,z4]at this;exact this
 exact⟨(((e1.trans e2).trans Z).trans Q).trans E,bM _,b1.keeps (((e2.trans Z).trans Q).trans E) (fun g=>g),b2.keeps ((Z.trans Q).trans E) (fun g=>g),b5,
  ⟨[],0,b4.keeps E (fun g=>g),fun y=>rfl⟩,.slice none 0 0,0,b3.keeps (Q.trans E) (fun g=>g),fM _ _ _ _,bM _,fun z hz=>by cases hz⟩
theorem jjv{w:vW}{v:vV}{n:Nat}{xs:vM}(h:w.ownsRow 0 9 1 v n (xs.map Value.string)):RdS w v xs:=by
 have q:xs.length=n:=by have:=h.1;simpa using this
 obtain⟨_,⟨rfl,H⟩ |⟨g,e,z,rfl,J,A,E,K,O⟩⟩:=id h
 ·exact .inl ⟨none,0,rfl,bE vO⟩
 ·subst q
  refine .inr ⟨g,0,e,rfl,(dA.1 A).1,E,fun j x o=>?_⟩;have Q:=(bU.1 o).1
  have:=h.cellAt j vO
  rw[cM,this,bZ,o];rfl
theorem jpM(L:vM)(t:vB):readG (L++[t])=addG (readG L) t:=by unfold readG;rw[fN];rfl
theorem je6(L:vM):(∀ p∈readG L,∃ t∈L,p=(ky t,itOf t))/\(∀ t∈L,∃ p∈readG L,p.1=ky t)/\(readG L).length<=L.length:=by
 suffices h:∀ (R o:vM),((∀ p∈readG o,∃ t∈o,p=(ky t,itOf t))/\(∀ t∈o,∃ p∈readG o,p.1=ky t)/\(readG o).length<=o.length)->(∀ p∈readG (o++R),∃ t∈o++R,p=(ky t,itOf t))/\(∀ t∈o++R,∃ p∈readG (o++R),p.1=ky t)/\(readG (o++R)).length<=(o++R).length from by
  have:=h L [] ⟨fun p z=>(by cases z),fun t A=>(by cases A),bM _⟩
  simpa using this
 intro R;induction R with
 | nil=>intro o h;simpa using h
 | cons t R ih =>
  intro o ⟨h1,h2,h3⟩
  have:=ih (o++[t]) (by
   rw[jpM];unfold addG;split
   ·rename_i hb
    obtain⟨p,z,e⟩:=fE.1 hb
    refine⟨fun p z=>by obtain⟨x,q,e⟩:=h1 p z;exact⟨x,bR.2 (.inl q),e⟩,fun x q=>?_,by rw[bF];exact bK h3 (Nat.le_add_right _ _)⟩
    rcases bR.1 q with q | q
    ·exact h2 x q
    ·simp only[bO]at q;subst q;exact⟨p,z,(of_decide_eq_true e).symm⟩
   ·refine⟨fun p z=>?_,fun x q=>?_,by rw[bF,bF];exact Nat.add_le_add_right h3 1⟩
    ·rcases bR.1 z with z | z
     ·obtain⟨x,q,e⟩:=h1 p z;exact⟨x,bR.2 (.inl q),e⟩
     ·simp only[bO]at z;subst z;exact⟨t,by simp,rfl⟩
    ·rcases bR.1 q with q | q
     ·obtain⟨p,z,e⟩:=h2 x q;exact⟨p,bR.2 (.inl z),e⟩
     ·simp only[bO]at q;subst q;exact⟨(ky x,itOf x),by simp,rfl⟩)
  simpa using this
structure jxc(L:vM):Prop where
 node:∀ t∈L,∃ n,jbi t n
 shut:∀ t∈L,∀ h∈jaF (nodeOf t),∃ t'∈L,h=shaB t'
 few:L.length<=1000
theorem jly{L:vM}{G:vT}(h:G.map kvI=readG L){t:vB}(ht:t∈L):(atL G (shaB t).data.toList).isSome=true:=by
 obtain⟨p,o,e⟩:=(je6 L).2.1 t ht
 rw[<-h]at o
 obtain⟨x,q,rfl⟩:=bH.1 o
 cases ha:atL G (shaB t).data.toList with
 | some y=>rfl
 | none=>exact absurd e.symm (jjO.1 ha x q)
theorem jc0{L:vM}{G:vT}(h:G.map kvI=readG L){x:Nd5}(hx:x∈G):∃ t∈L,x.1=ky t/\x.2.2=itOf t:=by
 obtain⟨t,o,e⟩:=(je6 L).1 (kvI x) (by rw[<-h];exact bH.2 ⟨x,hx,rfl⟩)
 exact⟨t,o,congrArg Prod.fst e,congrArg Prod.snd e⟩
def putF(f:Nat)(v:Int)(it:It):It:=if f=2 then { it with used:=v }else { it with held:=v }
def setB(f c:Nat)(v:Int)(x:Nd5):Nd5:=if x.2.1=c then (x.1,x.2.1,putF f v x.2.2)else x
theorem juv(f c:Nat)(v:Int)(L:vT):(L.map (setB f c v)).map kvN=L.map kvN:=by
 rw[dE];refine cZ (fun x _=>?_);simp only[Function.comp,setB];split <;> rfl
theorem juu(f c:Nat)(v:Int)(L:vT):(L.map (setB f c v)).map (·.2.1)=L.map (·.2.1):=by
 rw[dE];refine cZ (fun x _=>?_);simp only[Function.comp,setB];split <;> rfl
theorem jdg.setF{W:vW}{bm:Nat}{L:vT}(h:jdg W bm L){c:Nat}{it:It}(hc:jeI W c it){f:Nat}(hf:f=2\/f=3)(v:Int):jdg (W.setCell ⟨c,f,none⟩ (.int .i64 v)) bm (L.map (setB f c v)):=by
 obtain⟨rv,o,O⟩:=hc.cells
 have q:jad (fun z=>z=c) W (W.setCell ⟨c,f,none⟩ (.int .i64 v)):=jad.oneSet W ⟨c,f,none⟩ _;have hN:jiL W (fun z=>z=c):=fun z Q fz e X=>by
  have e:z=c:=e;subst e
  have:=o.uniq X;injection this with _ A;exact absurd A vI
 obtain⟨Z,ck,J,A⟩:=h.mp
 have E:bm≠c:=fun e=>by subst e;have:=J.uniq o;cases this
 refine⟨⟨Z,ck,J.keeps q E,by rw[juv];exact A⟩,by rw[juu];exact h.blks,fun x hx=>?_⟩
 obtain⟨y,hy,rfl⟩:=bH.1 hx
 have K:=h.items y hy;unfold setB;split
 ·rename_i e
  obtain⟨H,hb,hr⟩:=K.cells
  rw[e]at hb
  refine⟨H,?_,?_⟩
  ·show Blk _ y.2.1 _
   rw[e];rcases hf with rfl | rfl
   ·exact hb.set_same (i:=2) _
   ·exact hb.set_same (i:=3) _
  ·have:=jgB hr q hN
   rcases hf with rfl | rfl <;> exact this
 ·rename_i e
  exact K.keeps q e hN
end
def HasS(S:vT)(t:vB):Prop:=∃ x,atL S (ky t)=some x/\x.2.2.text=t
structure HasM(S:vT)(l:vL):Prop where
 ok:jap l=0
 has:∀ x∈jao (jav l),HasS S x
def AllN(S:vT):Prop:=∀ x∈S,∃ n,jbi x.2.2.text n
def jgK(S:vT)(r:vB)(o:Option jae):Prop:=
 (∃ d m,InlD d r m/\o=some m)\/∃ h:vB,h.size=32/\r=jaC h/\((atL S h.data.toList=none/\o=none)\/∃ y n,atL S h.data.toList=some y/\jbi y.2.2.text n/\o=some n)
theorem jgK.good{S:vT}{r:vB}{n:jae}(h:jgK S r (some n)):∃ d,jck (InlD d) n:=by
 rcases h with⟨d,m,h1,h2⟩ |⟨h,_,_,⟨_,h2⟩ |⟨y,m,_,h1,h2⟩⟩
 ·cases d with
  | zero=>exact h1.elim
  | succ d=>cases h2;exact⟨d,h1.1⟩
 ·cases h2
 ·cases h2;exact h1.2
theorem jvS{S:vT}{f:Nat}{T:PT}{n:jae}(hSt:jdA f T n)(hH:32<=T.text.size->HasS S T.text):jgK S (refB T.text) (some n):=by
 by_cases hz:T.text.size < 32
 ·exact .inl ⟨f+1,n,hSt.may.2 hz,rfl⟩
 ·obtain⟨y,e,o⟩:=hH vO
  refine .inr ⟨shaB T.text,jbg _,jgx hz,.inr ⟨y,n,e,?_,rfl⟩⟩;rw[o]
  exact⟨hSt.text,f,hSt.good⟩
def Inf(v t:vB):Prop:=v.data.toList <:+: t.data.toList
theorem Inf.trans{a b c:vB}(h:Inf a b)(k:Inf b c):Inf a c:=List.IsInfix.trans h k
theorem Inf.rfl'(a:vB):Inf a a:=List.infix_refl _
theorem jeK(a b:vB):Inf b (a++b):=⟨a.data.toList,[],by rw[dK,fQ,bS]⟩
theorem jn7(v:vB):Inf v (jaC v):=by
 unfold jaC;split
 ·exact Inf.rfl' v
 ·exact jeK _ _
theorem jri{x:vB}:∀ {l:vM},x∈l->Inf x (catB l)
 | y :: l,h=>by
  rcases bJ.1 h with rfl | h
  ·refine⟨[],(l.map (·.data.toList)).flatten,?_⟩
   show _=x.data.toList++(l.map (·.data.toList)).flatten
   simp
  ·obtain⟨s,t,e⟩:=jri h
   have e:s++x.data.toList++t=(l.map (·.data.toList)).flatten:=e
   refine⟨y.data.toList++s,t,?_⟩
   show _=y.data.toList++(l.map (·.data.toList)).flatten;rw[<-e];simp
theorem jhz{x:vB}{l:vM}(h:x∈l):Inf x (jb4 l):=(jri h).trans (jeK _ _)
theorem jdA.inf{f:Nat}{T:PT}{n:jae}(h:jdA f T n){v t:vB}(ht:t∈jao T)(hv:Inf v t):(∃ t∈jaz (jbt T),Inf v t)\/Inf v (refB T.text):=by
 by_cases hs:T.text.size < 32
 ·have e:=h.small hs
  obtain⟨x,ks⟩:=T
  have e:ks=[]:=e;subst e;unfold jao jaz at ht;rw[bO]at ht;right;unfold refB;rw[if_pos hs, <-(show t=(PT.mk x []).text from ht)];exact hv
 ·left
  refine⟨t,?_,hv⟩
  unfold jbt;rw[if_neg hs,jbs]
  exact⟨T,bO.2 rfl,ht⟩
def jdl(l:vL):Nat->Nat
 | 0=>0
 | n+1=>jdl l n+(if (cutL n l).length=0 then 0 else 1)
theorem jg6(l:vL)(n:Nat):∀ d,jdl l n<=jdl l (n+d)
 | 0=>bM _
 | d+1=>by have:=jg6 l n d;rw[show n+(d+1)=(n+d)+1 from rfl,jdl];omega
theorem jir{l:vL}{i n:Nat}(h:(cutL i l).length≠0)(hi:i < n):1<=jdl l n:=by
 have:=jg6 l (i+1) (n - (i+1))
 rw[show i+1+(n - (i+1))=n by omega,jdl,if_neg h]at this;omega
theorem jgv{l:vL}{i j n:Nat}(h:(cutL i l).length≠0)(hj:(cutL j l).length≠0)(hij:i < j)(hn:j < n):2<=jdl l n:=by
 have e:=jir h hij
 have:=jg6 l (j+1) (n - (j+1))
 rw[show j+1+(n - (j+1))=n by omega,jdl,if_neg hj]at this;omega
theorem jrp(B:vL->PT)(l:vL)(hB:∀ i,(cutL i l).length≠0->(jao (B (jag 1 (cutL i l)))).length+2<=3 * (cutL i l).length):∀ n,(jaz (ksK B l n)).length+2 * jdl l n<=3 * jc7 l n
 | 0=>by simp[ksK,jaz,jc7,jdl]
 | n+1=>by
  rw[jhA,jdn,bF,jc7,jdl]
  have:=jrp B l hB n
  by_cases h0:(cutL n l).length=0
  ·rw[if_pos h0,if_pos h0];simp[jaz];omega
  ·rw[if_neg h0,if_neg h0]
   have e:=hB n h0;have o:=jij (B (jag 1 (cutL n l)));omega
theorem jle{l:vL}(h:∃ p∈l,p.l=[])(n:Nat):jc7 l n+1<=l.length:=by
 obtain⟨p,o,e⟩:=h
 induction l with
 | nil=>cases o
 | cons q r ih =>
  rw[jfQ,bP];rcases bJ.1 o with rfl | o
  ·have:=jeP r n
   rw[e]
   have:hN [] n=0:=rfl
   omega
  ·have:=ih o
   have:=jxJ q.l n
   omega
theorem jqO{l:vL}{p:Pair}{x:vU}{r:vN}(hp:p∈l)(hpx:p.l=x :: r):p∈cutL x.toNat l:=cH.2 ⟨hp,by unfold je4;rw[show p.1.data.toList=x :: r from hpx];simp⟩
theorem jfR{l:vL}{p:Pair}{x:vU}{r:vN}(hp:p∈l)(hpx:p.l=x :: r):(cutL x.toNat l).length≠0:=fun e=>by
 have:=jqO hp hpx
 rw[bE e]at this;cases this
theorem jnQ{k:Nat}{l:vL}{p:Pair}(h:p∈l):∃ q∈jag k l,q.2=p.2:=⟨_,iU h,rfl⟩
structure jvd(T:PT)(l:vL):Prop where
 all:(jao T).length+2<=3 * l.length
 two:2<=l.length->comK l=0->(jao T).length+3<=3 * l.length
 inf:∀ p∈l,∃ t∈jao T,Inf p.2 t
theorem jn5(f:Nat){l:vL}(h:l.length=1):jvd (jab (f+1) l) l:=by
 obtain⟨p,rfl⟩:=fC.1 h
 have e:jao (jab (f+1) [p])=[jlG ⟨1,p.1,p.2,jat 16⟩]:=by
  show jao (.mk (jaU (jan (jab f) [p])) (jaq (jab f) [p]))=_;have A:jan (jab f) [p]=⟨1,p.1,p.2,jat 16⟩:=rfl;have o:jaq (jab f) [p]=[]:=rfl;rw[A,o];rfl
 refine⟨by rw[e];simp,fun o=>by simp at o,fun q z=>?_⟩
 rw[bO]at z;subst z;rw[e]
 refine⟨_,bO.2 rfl,(jn7 q.2).trans ?_⟩
 unfold jlG;exact jhz (by simp)
theorem grow:∀ (f:Nat) (l:vL),jar f l->l≠[]->jvd (jab (f+1) l) l:=by
 intro f;induction f with
 | zero =>
  intro l h hn;have h0:l.length≠0:=fun e=>hn (bE e);have hl:l.length<=1:=by
   rcases fK l.length 2 with h2 | h2
   ·omega
   ·obtain⟨a,O⟩:∃ a,l[0]?=some a:=⟨_,bA vO⟩
    obtain⟨b,hb⟩:∃ b,l[1]?=some b:=⟨_,bA vO⟩
    have o:=jcy h.rise vO O hb
    have:=(h.size b (bI hb)).1
    rw[show b.l=[]from bE (by show b.1.size=0;omega)]at o;exact absurd o (not_lt_nil _)
  exact jn5 0 vO
 | succ f ih =>
  intro l h hn;have h0:l.length≠0:=fun e=>hn (bE e)
  by_cases h1:l.length=1
  ·exact jn5 (f+1) h1
  have h2:2<=l.length:=vO
  have z:=jbr h h2;have eT:jao (jab (f+1+1) l)=jaU (jan (jab (f+1)) l) :: jaz (jaq (jab (f+1)) l):=by
   show jao (.mk (jaU (jan (jab (f+1)) l)) (jaq (jab (f+1)) l))=_;rw[jao]
  by_cases hk:0 < comK l
  ·have a0:jar f (jag (comK l) l):=(jcm (comK l) h (fun p A q hq=>(z p A).1.trans (z q hq).1.symm) (fun p A=>(z p A).2)).mono vO
   have Q:jag (comK l) l≠[]:=fun e=>by have:=jaA (comK l) l;rw[e]at this;simp at this;omega
   have hg:=ih _ a0 Q
   obtain⟨_,i2,_⟩:=good f _ a0
   have H:=i2 Q;have eB:jaq (jab (f+1)) l=jbt (jab (f+1) (jag (comK l) l)):=by
    unfold jaq;rw[if_neg vO,if_pos hk]
   have eN:jan (jab (f+1)) l=⟨2,(l.getD 0 pd).1.extract 0 (comK l),⟨#[]⟩,refB (jab (f+1) (jag (comK l) l)).text :: jat 15⟩:=by unfold jan;rw[if_neg h0,if_neg h1,if_pos hk]
   have J:=hg.two (by rw[jaA];omega) (jgd vO);rw[jaA]at J;have hh:=jij (jab (f+1) (jag (comK l) l))
   refine⟨by rw[eT,eB,bP];omega,fun _ hz=>by omega,fun p A=>?_⟩
   obtain⟨q,hq,e2⟩:=jnQ (k:=comK l) A
   obtain⟨t,ht,hv⟩:=hg.inf q hq
   rw[e2]at hv;rw[eT,eB];rcases H.inf ht hv with⟨t',ht',hv'⟩ | hv'
   ·exact⟨t',bC _ ht',hv'⟩
   ·refine⟨_,bD,hv'.trans ?_⟩
    have:jaU (jan (jab (f+1)) l)=extB (jan (jab (f+1)) l):=by rw[eN];rfl
    rw[this,eN];unfold extB;exact jhz (by simp)
  ·have K:∀ i,(cutL i l).length≠0->jag 1 (cutL i l)≠[]:=fun i E e=>by have:=jaA 1 (cutL i l);rw[e]at this;simp at this;omega
   have hg:∀ i,(cutL i l).length≠0->jvd (jab (f+1) (jag 1 (cutL i l))) (jag 1 (cutL i l)):=fun i E=>ih _ (jdJ i h) (K i E);have H:∀ i,(cutL i l).length≠0->jdA f (jab (f+1) (jag 1 (cutL i l))) (jan (jab f) (jag 1 (cutL i l))):=fun i E=>(good f _ (jdJ i h)).2.1 (K i E);have eB:jaq (jab (f+1)) l=ksK (jab (f+1)) l 16:=by
    unfold jaq;rw[if_neg vO,if_neg hk];rfl
   obtain⟨a,O⟩:∃ a,l[0]?=some a:=⟨_,bA vO⟩
   obtain⟨b,hb⟩:∃ b,l[l.length - 1]?=some b:=⟨_,bA vO⟩
   have ga:l.getD 0 pd=a:=by rw[bG,O];rfl
   have gb:l.getD (l.length - 1) pd=b:=by rw[bG,hb];rfl
   have X:=bI O;have a1:=bI hb;have o:=jcy h.rise vO O hb
   obtain⟨rs,Z⟩:=vE ((List.range 16).map fun i=>if (cutL i l).length=0 then (⟨#[]⟩:vB)else refB (jab (f+1) (jag 1 (cutL i l))).text)
   have eN:jan (jab (f+1)) l=⟨3,⟨#[]⟩,if a.1.size=0 then a.2 else ⟨#[]⟩,rs⟩:=by unfold jan;rw[if_neg h0,if_neg h1,if_neg hk,ga,Z]
   have J:(jaz (jaq (jab (f+1)) l)).length+4<=3 * l.length:=by
    rw[eB];have b0:=jrp (jab (f+1)) l (fun i E=>by have:=(hg i E).all;rwa [jaA]at this) 16;have a2:jbc a.l b.l=0:=by have:comK l=jbc a.l b.l:=(by unfold comK jaj;rw[ga,gb]);omega
    cases hbl:b.l with
    | nil=>rw[hbl]at o;exact absurd o (not_lt_nil _)
    | cons y t =>
     have hy:=je0 (h.size b a1).2.2.1 hbl;have cb:=jfR a1 hbl;cases hal:a.l with
     | nil =>
      have:=jle ⟨a,X,hal⟩ 16
      have:=jir cb hy
      omega
     | cons x r =>
      have hx:=je0 (h.size a X).2.2.1 hal;have ca:=jfR X hal;have a5:x≠y:=by
       intro e;rw[hal,hbl,e]at a2;simp[jbc]at a2
      have Q:x.toNat≠y.toNat:=fun e=>a5 (dR.1 e)
      have:=jeP l 16
      have:2<=jdl l 16:=by
       rcases fK x.toNat y.toNat with e | e
       ·exact jgv ca cb e hy
       ·exact jgv cb ca vO hx
      omega
   refine⟨by rw[eT,bP];omega,fun _ _=>by rw[eT,bP];omega,fun p A=>?_⟩
   have a3:jaU (jan (jab (f+1)) l)=jeO (jan (jab (f+1)) l):=by rw[eN];rfl
   have a4:jbN (jan (jab (f+1)) l)=jbG rs (if a.1.size=0 then a.2 else ⟨#[]⟩):=by
    rw[jfk _ (by rw[eN,Z];simp),eN]
   cases hpl:p.l with
   | nil =>
    have a6:p=a:=by
     obtain⟨i,E⟩:=fZ A
     by_cases h00:i=0
     ·subst h00;rw[O]at E;exact (bV E).symm
     ·have:=jcy h.rise vO O E
      rw[hpl]at this;exact absurd this (not_lt_nil _)
    subst a6;have hz:p.1.size=0:=by show p.1.data.toList.length=0;rw[show p.1.data.toList=[]from hpl];rfl
    rw[eT]
    refine⟨_,bD,(jn7 p.2).trans ?_⟩
    rw[a3];unfold jeO;rw[a4,if_pos hz];refine jhz ?_;unfold jbG;simp
   | cons x r =>
    have hx:=je0 (h.size p A).2.2.1 hpl;have hc:=jfR A hpl
    obtain⟨q,hq,e2⟩:=jnQ (k:=1) (jqO A hpl)
    obtain⟨t,ht,hv⟩:=(hg _ hc).inf q hq
    rw[e2]at hv;rw[eT,eB];rcases (H _ hc).inf ht hv with⟨t',ht',hv'⟩ | hv'
    ·refine⟨t',bC _ ?_,hv'⟩
     obtain⟨T',a7,a8⟩:=jbs.1 ht'
     refine jbs.2 ⟨T',?_,a8⟩;unfold ksK;refine cO.2 ⟨x.toNat,dJ.2 hx,?_⟩;rw[if_neg hc];exact a7
    ·refine⟨_,bD,hv'.trans ?_⟩
     rw[a3];unfold jeO;rw[a4];refine jhz ?_;unfold jbG;refine bR.2 (.inl ?_);have a9:refB (jab (f+1) (jag 1 (cutL x.toNat l))).text∈rs:=by
      rw[Z];refine bH.2 ⟨x.toNat,dJ.2 hx,?_⟩;rw[if_neg hc]
     refine bH.2 ⟨_,a9,?_⟩;rw[if_neg (H _ hc).may.1.pos]
theorem jpX{l:vL}(h:jap l=0):(ja8 (jao (jav l))).length<=1+3 * l.length/\∀ p∈l,∃ t∈ja8 (jao (jav l)),Inf p.2 t:=by
 by_cases h0:l=[]
 ·subst h0
  refine⟨?_,by simp⟩
  have:=jgV (jao (jav []))
  have A:=joR (jau h);simp at A ⊢;omega
 ·have E:=jbm (jau h)
  have o:jaP l≠[]:=fun e=>h0 (by unfold jaP at e;simpa using e);have q:=grow 12 (jaP l) E o;have H:(jaP l).length=l.length:=by unfold jaP;rw[cC]
  have z:=q.all;rw[H]at z;have X:=jgV (jao (jav l));have J:jav l=jab (12+1) (jaP l):=rfl;rw[<-J]at z
  refine⟨by omega,fun p K=>?_⟩
  obtain⟨t,O,Q⟩:=q.inf _ (iU K)
  exact⟨t,(jaM _ _).2 O,Q⟩
theorem jkD{f:Nat}{l:vL}(h:jar f l)(hn:l≠[]):(refB (jab (f+1) l).text).size≠0:=((good f l h).2.1 hn).may.1.pos
theorem jfq(g:Nat->vB){i n:Nat}(h:i < n):((List.range n).map g).getD i ⟨#[]⟩=g i:=by
 rw[bG,bZ,dV h];rfl
theorem jhu{f:Nat}{l m:vL}(hm:m≠[])(ho:jar f m)(hk:jbt (jab (f+1) m) ⊆ jaq (jab (f+1)) l):∀ x∈jao (jab (f+1) m),32<=x.size->x∈jao (jab (f+1+1) l):=fun x e q=>by
 have z:jao (jab (f+1+1) l)=jaU (jan (jab (f+1)) l) :: jaz (jaq (jab (f+1)) l):=by
  show jao (.mk (jaU (jan (jab (f+1)) l)) (jaq (jab (f+1)) l))=_;rw[jao]
 rw[z];have o:=(good f m ho).2.1 hm
 by_cases hs:(jab (f+1) m).text.size < 32
 ·rw[jgY o hs,bO]at e
  subst e;omega
 ·refine bC _ (jbs.2 ⟨jab (f+1) m,hk ?_,e⟩)
  unfold jbt;rw[if_neg hs];exact bO.2 rfl
section
attribute [local go_sem] Oper.semAt_some
def preB(p s:vB):Bool:=p.data.toList.isPrefixOf s.data.toList
theorem joO:∀ (p s:vN),p.isPrefixOf s=(decide (p.length<=s.length) && (s.take p.length == p))
 | [],s=>by simp
 | x :: p,[]=>by simp
 | x :: p,y :: s=>by
  have o:=joO p s;simp only[List.isPrefixOf,bP,fH,o,Nat.add_le_add_iff_right]
  by_cases h:x=y
  ·subst h;simp
  ·have:(y == x)=false:=by simpa using fun e=>h e.symm
   simp[h,this]
theorem juC(s:vB)(n:Nat):(s.extract 0 n).toList=s.data.toList.take n:=by
 rw[bX,fF,fV,fG];simp
theorem jox(w:vW)(s p:vB)(hs:s.size<=1000000)(hp:p.size<=1000000):vQ 124 #[.string s,.string p] w fun e w'=>e=.returned (.bool (preB p s))/\w'=w:=by
 have o:=joO p.data.toList s.data.toList;have q:p.data.toList.length=p.size:=rfl;have z:s.data.toList.length=s.size:=rfl;rw[q,z, <-juC]at o;have o:preB p s=_:=o
 by_cases hl:p.size<=s.size
 ·have A:(p.size:Int)<=(s.size:Int):=vO
  have E:¬(s.size:Int) < (p.size:Int):=vO
  have H:((p.size:Int)).toNat=p.size:=vO
  rw[decide_eq_true hl,Bool.true_and, <-bX]at o;rw[o];clear o q z;go_enter Tryz.func124,Tryz.ntmps124;go_wp2_with fail
  go_ret
  exact⟨rfl,rfl⟩
 ·have A:(s.size:Int) < (p.size:Int):=vO
  rw[decide_eq_false hl,Bool.false_and]at o;rw[o];clear o q z;go_enter Tryz.func124,Tryz.ntmps124;go_wp2_with fail
  go_ret
  exact⟨rfl,rfl⟩
theorem jx0{W:vW}{B:Nat}{T:TypeId}{sz:Nat}{v:vV}{n:Nat}{xs:List vV}(h:W.ownsRow B T sz v n xs){b:Nat}(hb:v.ownBlock=some b):b < W.heap.size:=by
 obtain⟨E,o |⟨g,q,z,o,H,A,J⟩⟩:=h
 ·rw[o.1]at hb;cases hb
 ·rw[o]at hb
  have e:some g=some b:=hb;obtain rfl:=bV e;exact (dA.1 A).1
end
end Go.Proofs.YtmobgkphhbmhbaaGreatDoor
