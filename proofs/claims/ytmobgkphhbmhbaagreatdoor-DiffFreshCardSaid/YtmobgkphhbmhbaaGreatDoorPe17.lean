/- Lemmas; each is under no condition but those that it states. -/
import Derived.Test.YtmobgkphhbmhbaaGreatDoorPe15
import Derived.Test.YtmobgkphhbmhbaaGreatDoorPe16
import Derived.Sort.OwnSorted
namespace Go.Proofs.YtmobgkphhbmhbaaGreatDoor
set_option linter.unusedSimpArgs false
set_option linter.unusedVariables false
set_option maxRecDepth 100000
set_option maxHeartbeats 16000000
open Go Go.RowKit
section
attribute [local go_sem] Oper.semAt_some
def jcS(l:List (vN)):List (vN):=l.mergeSort fun x y=>decide (x<=y)
def baL(l:List (vN)):vM:=l.map fun x=>⟨x.toArray⟩
theorem jff(l:List (vN)):(jcS l).length=l.length:=by simp[jcS]
theorem jhd{a b:List (vN)}(h:a.Perm b):jcS a=jcS b:=by
 have q:∀ a b c:vN,decide (a<=b)=true->decide (b<=c)=true->decide (a<=c)=true:=fun a b c e o=>by simp only[decide_eq_true_eq]at *;exact List.le_trans e o
 have to:∀ a b:vN,(decide (a<=b) || decide (b<=a))=true:=fun a b=>by simp only[Bool.or_eq_true,decide_eq_true_eq];exact List.le_total a b
 refine List.Perm.eq_of_pairwise (le:=fun x y=>decide (x<=y)=true) (fun x y _ _ e o=>by simp only[decide_eq_true_eq]at e o;exact List.le_antisymm e o) (List.pairwise_mergeSort q to a) (List.pairwise_mergeSort q to b) ?_;exact (gT a _).trans (h.trans (gT b _).symm)
theorem jmw(l:List (vN)):(baL l).map Value.string=l.map encStr:=by
 unfold baL;rw[cT];rfl
theorem jsJ{w0 w:vW}{v:vV}{n:Nat}{ks:List (vN)}(h:ORow 9 1 w0 w v n (ks.map encStr))(hn:n<=1000000) :
  vQ 60 #[v] w fun e w'=>e=.returned (.tuple #[])/\ORow 9 1 w0 w' v n ((jcS ks).map encStr):=by
 have o:ks.length=n:=by have:=h.len;simpa using this
 rcases h.own.2 with⟨e0,_⟩ |⟨g,cap,cur,e0,h3,h4,h5,h6,h7,h8⟩
 ·subst e0
  obtain⟨a,c,e⟩:=h.sl
  injection e with e1 e2 e3;subst e2
  have:ks=[]:=bE o
  subst this;refine (Tryz.slices_Sort_string_none none 0 w).mono ?_;rintro e w' ⟨rfl,rfl⟩
  exact⟨rfl,by simpa [jcS]using h⟩
 ·subst e0
  subst o;refine (Tryz.slices_Sort_string g 0 cap ks w (holds_of_block h4 (by simpa using h8)) (dD.1 h4).1 vO).mono ?_;rintro e w' ⟨rfl,q,E,rfl⟩
  refine⟨rfl,⟨_,_,rfl⟩,ownsRow_sorted (jff ks) (cC _) h4 h5 h6 h7,?_,h.new⟩
  exact h.ext.trans' (jad.of_grown (F:=fun b=>b=g) (grownBy_sorted _) (fun r z _=>by cases z;rfl)) (fun x H e=>by have:=h.new g rfl;omega)
theorem jiG{a:List (vN)}{x:vN}:x∈jcS a↔x∈a:=(gT a _).mem_iff
theorem Tryz.infoS1:(Tryz.prog.info? 9).map (fun i=>(i.zero,i.size,i.bytes))=some (some (.string ⟨#[]⟩),1,16):=vY
theorem MapV.lenL{es:List EntK}{ck:Nat}{L:vT}(h:MapV es ck (L.map kvN)):es.length=L.length:=by rw[h.len];simp
theorem jwV(w:vW)(s bm:Nat)(room:Int)(L:vT)(h:jaz w s bm room L)(h0:0<=room)(e:room<=9223372036854775807)(hl:L.length<=1000000):vR 45 #[.pointer (some ⟨s,0,none⟩)] w (.int .i64 (room - L.length)):=by
 have Q:=Hd (h.st.cell (i:=1) (v:=.map (some bm)) vF);have X:=Hd (h.st.cell (i:=0) (v:=.int .i64 room) vF)
 obtain⟨J,ck,K,q⟩:=h.mp.mp
 have Z:=Hd K
 obtain⟨n,E⟩:=vE L.length
 have z:J.length=n:=by rw[q.lenL,E]
 have H:=Hd z;rw[<-E]at hl ⊢;clear h K q z E;go_enter Tryz.func45,Tryz.ntmps45;go_wp2_with fail
 refine jai [0,1,2,3,4,5,6,7,8,9,10] Ext ExtR ExtT vY vY vY ?_
 refine vK ?_
 refine qKV _ (.pointer (some ⟨s,0,none⟩)) rfl (fun w1 _=>by kernel_rfl) ?_;refine vS ?_
 refine vK ?_
 refine qKL ⟨s,0,none⟩ _ rfl (fun w1 e=>jac Tryz.underlying3 rfl (jaa X.o ((jaj _).trans e))) ?_;refine vS ?_
 refine vK ?_
 refine qKV _ (.pointer (some ⟨s,0,none⟩)) rfl (fun w1 _=>by kernel_rfl) ?_;refine vS ?_
 refine vK ?_
 refine qKL ⟨s,1,none⟩ _ rfl (fun w1 e=>jac Tryz.underlying73 rfl (jaa Q.o ((jaj _).trans e))) ?_;refine vS ?_;refine qKV _ (.int .i64 J.length) rfl (fun w1 e=>by
  have hx:=jf3 Tryz.ES Tryz.uMapIt (Z.o.keeps ((jaj _).trans e) (fun h=>h)) 3;simp[execOp,Act.eval,resolve,invoke,builtin,hx,bT,Result.andThen,cJ]) ?_
 refine vS ?_;rw[H.o];iterate 2 refine vK ?_
 refine qKE (fun w3 O=>?_);have HE:=Hd ((jaj _).trans O);clear O;go_wp2_with fail
 go_ret
 exact⟨rfl,HE.o⟩
theorem Tryz.makeMapIt(W:vW):(Instr.makeMap 73 none).run Tryz.prog W=.ok (.map (some W.heap.size)) (W.alloc (.map #[] 0)):=vY
theorem jvm(w:vW)(room:Int):vQ 12 #[.int .i64 room] w fun e w'=>∃ s bm,e=.returned (.pointer (some ⟨s,0,none⟩))/\Ext w w'/\jaz w' s bm (max room 0) []/\w.heap.size<=bm/\w.heap.size<=s/\s≠bm:=by
 have o:=Tryz.makeMapIt;go_enter Tryz.func12,Tryz.ntmps12;go_wp2_with fail
 go_ret
 refine⟨_,_,rfl,((ExtR w).alloc _).alloc _,⟨?_,⟨[],0,?_,MapV.nil 0⟩,by simp,fun x q=>by cases q⟩,bM _,Nat.le_succ _,by omega⟩
 ·exact (by simpa using Blk.new (w.alloc (.map #[] 0)) (.cells #[.int .i64 (max room 0),.map (some w.heap.size)] 75))
 ·exact (Blk.new w (.map #[] 0)).alloc _
def slN(v:vV):Nat:=match v with | .slice _ n _=>n | _=>0
def jgd(s:List EntK):Array Nat:=(s.map (·.2.2)).toArray
def keyS(s:List EntK):List vV:=(s.map (·.1)).map encStr
structure HaS(w:World)(r bm ck:Nat)(es s:List EntK)(v:Value)(W:World):Prop where
 row:ORow 9 1 w W v s.length (keyS s)
 it:Blk W r (.mapIter (some bm) ck (jgd s) ck)
 sub:∀ x∈s,x∈es
 nd:(s.map (·.2.2)).Nodup
 ne:∀ b,v.ownBlock=some b->b≠r
theorem jfu{α β:Type}(f:α->β):∀ {l:List α},(l.map f).Nodup->l.Nodup
 | [],_=>gY
 | x :: r,h=>by
  rw[bJ,cZ]at h;exact cZ.2 ⟨fun e=>h.1 (bC.2 ⟨x,e,rfl⟩),jfu f h.2⟩
theorem HaS.len{w:vW}{r bm ck:Nat}{es s:List EntK}{v:vV}{W:vW}(h:HaS w r bm ck es s v W):s.length<=es.length:=
 gF (jfu _ h.nd) (fun x e=>h.sub x e)
theorem HaS.done{w:vW}{r bm ck:Nat}{es s:List EntK}{v:vV}{W:vW}(h:HaS w r bm ck es s v W)(h0:jaX es (jgd s)=[])(hb:(es.map (·.2.2)).Nodup):s.Perm es:=by
 refine (List.perm_ext_iff_of_nodup (jfu _ h.nd) (jfu _ hb)).2 fun x=>⟨fun o=>h.sub x o,fun o=>?_⟩
 by_cases hc:x.2.2∈s.map (·.2.2)
 ·obtain⟨y,q,e⟩:=bC.1 hc
  have:y=x:=jaQ hb (h.sub y q) o e
  exact this ▸ q
 ·have:x∈jaX es (jgd s):=cH.2 ⟨o,by unfold jgd;simpa using hc⟩
  rw[h0]at this;cases this
theorem MapV.keysL{es:List EntK}{ck:Nat}{L:vT}(h:MapV es ck (L.map kvN)):es.map (·.1)=L.map (·.1):=by
 have:=congrArg (List.map Prod.fst) h.same
 rw[cT,cT]at this;exact this
def jxl(w:vW)(r bm ck:Nat)(es:List EntK)(v:vV)(W:vW):Prop:=∃ s,HaS w r bm ck es s v W
end
noncomputable def itOf(t:vB):It:=⟨t,jaG (nodeOf t),0,0⟩
noncomputable def ky(t:vB):Key:=(shaB t).data.toList
noncomputable def addG(m:List (Key × It))(t:vB):List (Key × It):=if m.any (fun x=>decide (ky t=x.1))then m else m++[(ky t,itOf t)]
noncomputable def readG(L:vM):List (Key × It):=L.foldl addG []
def kvI(x:Nd5):Key × It:=(x.1,x.2.2)
theorem jhv{L:vT}{k:Key}:atL L k=none↔∀ x∈L,k≠x.1:=by
 unfold atL;rw[List.find?_eq_none];simp
theorem jvI{L:vT}{k:Key}:(L.map kvI).any (fun x=>decide (k=x.1))=(atL L k).isSome:=by
 rw[List.any_map];unfold atL;rw[List.isSome_find?];rfl
theorem jh8(k:Key)(v:vV)(n:Nat):∀ es:List EntK,jaU es k=none->jbk es k v n=es++[(k,v,n)]
 | [],_=>rfl
 | x :: r,h=>by
  rw[jll]at h;unfold jbk
  by_cases hk:k=x.1
  ·rw[if_pos hk]at h;cases h
  ·rw[if_neg hk]at h ⊢
   rw[jh8 k v n r h];rfl
theorem jcG.put{W:vW}{bm:Nat}{L:vT}(h:jcG W bm L)(k:vB)(hk:atL L k.data.toList=none){b:Nat}{it:It}(hb:jeJ W b it)(hn:∀ x∈L,x.2.1≠b) :
  ∃ o,(Instr.mapUpdate 73 (.map (some bm)) (.string k) (.pointer (some ⟨b,0,none⟩))).run Tryz.prog W=.ok () (W.putObj bm o)/\jcG (W.putObj bm o) bm (L++[(k.data.toList,b,it)]):=by
 obtain⟨Z,O,J,Q⟩:=h.mp
 have hg:jaU Z k.data.toList=none:=by rw[Q.get,jq8,hk];rfl
 have E:=jbV Tryz.ES Tryz.uMapIt J k.data.toList (.pointer (some ⟨b,0,none⟩));have X:=Q.put k.data.toList (.pointer (some ⟨b,0,none⟩));rw[hg]at E X;simp only[Option.isSome_none,cG,if_false]at E X;have hK:jad (fun z=>z=bm) W (W.putObj bm (.map (Tryz.ES.arr (jbk Z k.data.toList (.pointer (some ⟨b,0,none⟩)) O)) (O+1))):=jad.onePut W bm _;have hN:jhn W (fun z=>z=bm):=fun z a0 fz e hz=>by
  have e:z=bm:=e;subst e
  have:=J.uniq hz;cases this
 have H:∀ {c:Nat} {i:It},jeJ W c i->¬ c=bm:=fun hi e=>by
  obtain⟨_,K,_⟩:=hi.cells
  subst e
  have:=J.uniq K;cases this
 refine⟨_,E,⟨_,_,J.put_same _,?_⟩,?_,?_⟩
 ·have e:putV (L.map kvN) k.data.toList (.pointer (some ⟨b,0,none⟩))=(L++[(k.data.toList,b,it)]).map kvN:=by
   rw[bY, <-Q.same, <-jsi,jh8 _ _ O _ hg,bY];rfl
  rw[<-e];exact X
 ·rw[bY,dO]
  exact⟨h.blks,by simp,fun a ha c K e=>by
   simp at K;subst K;subst e
   obtain⟨x,q,e⟩:=bC.1 ha
   exact hn x q e⟩
 ·intro x q
  rcases bO.1 q with q | q
  ·exact (h.items x q).keeps hK (H (h.items x q)) hN
  ·simp only[bS]at q
   subst q;exact hb.keeps hK (H hb) hN
structure ReS(w:World)(bg:Nat)(G:vT)(T:vM)(W:World):Prop where
 ext:Ext w W
 at':jcG W bg G
 is:G.map kvI=readG T
 new:w.heap.size<=bg
 news:∀ x∈G,w.heap.size<=x.2.1
theorem ReS.keeps{w:vW}{bg:Nat}{G:vT}{T:vM}{W W':vW}(h:ReS w bg G T W)(e:Ext W W'):ReS w bg G T W':=⟨h.ext.trans e,h.at'.ext e,h.is,h.new,h.news⟩
theorem jpK{L:vM}{i:Nat}{t:vB}(h:L[i]?=some t):readG (L.take (i+1))=addG (readG (L.take i)) t:=by
 unfold readG;rw[cB,h,fO];rfl
section
attribute [local go_sem] Oper.semAt_some
def frK(S:vT)(M:vM):vM:=(ja6 M).filter fun y=>(atL S y.data.toList).isNone
structure Meet(w0:World)(s:Nat)(S:vT)(bg b:Nat)(M:vM)(W:World):Prop where
 ext:Ext w0 W
 lo:w0.heap.size<=b
 c3:Blk W b (.cells #[.pointer (some ⟨s,0,none⟩)] 25)
 c5:Blk W (b+1) (.cells #[.map (some bg)] 73)
 c9:Blk W (b+4) (.cells #[.map (some (b+3))] 98)
 tab:∃ es ck,Blk W (b+3) (.map (Tryz.ES.arr es) ck)/\∀ y:vB,jaU es y.data.toList=cntV (cntB M y)
 var:∃ v n,Blk W (b+2) (.cells #[v] 22)/\W.ownsRow 0 9 1 v n ((frK S M).map Value.string)/\n<=M.length/\∀ z,v.ownBlock=some z->b+5<=z
theorem Meet.keeps{w0:vW}{s:Nat}{S:vT}{bg b:Nat}{M:vM}{W W':vW}(h:Meet w0 s S bg b M W)(e:Ext W W'):Meet w0 s S bg b M W':=by
 obtain⟨o,q,z,E⟩:=h.tab
 obtain⟨v,n,H,J,K,O⟩:=h.var
 exact⟨h.ext.trans e,h.lo,h.c3.keeps e (fun g=>g),h.c5.keeps e (fun g=>g),h.c9.keeps e (fun g=>g),⟨o,q,z.keeps e (fun g=>g),E⟩,v,n,H.keeps e (fun g=>g),jbh J e,K,O⟩
theorem jnS(S:vT)(M:vM)(x:vB):frK S (M++[x])=if memB (ja6 M) x=true then frK S M else if (atL S x.data.toList).isNone then frK S M++[x]else frK S M:=by
 unfold frK;rw[jfU];unfold addF;split
 ·rfl
 ·rw[gW]
  split
  ·rename_i h;rw[iN (by simpa using h)];rfl
  ·rename_i h;rw[iO (by simpa using h)];simp
theorem jqF(M:vM)(x y:vB):cntB (M++[x]) y=cntB M y+(if x.data.toList=y.data.toList then 1 else 0):=by
 unfold cntB;rw[bY,List.count_append,bJ,iG,List.count_singleton]
 simp
def jb4(G:vT)(x:vB):vM:=match atL G x.data.toList with | some y=>y.2.2.refs | none=>[]
theorem jfz{G:vT}{x:vB}{y:Nd5}(h:atL G x.data.toList=some y):jb4 G x=y.2.2.refs:=by unfold jb4;rw[h]
theorem jlj(S:vT)(M:vM):(frK S M).Nodup:=(jhj M).sublist List.filter_sublist
theorem jfV{S:vT}{M:vM}{x:vB}:x∈frK S M↔x∈M/\atL S x.data.toList=none:=by
 unfold frK;rw[cH,jaN];simp
theorem jmy{x y:vB}(h:x.data.toList=y.data.toList):x=y:=ByteArray.ext (Array.ext' h)
theorem jnR(S:vT)(M:vM):∀ T:vM,∃ X,frK S (M++T)=frK S M++X
 | []=>⟨[],by simp⟩
 | x :: T=>by
  obtain⟨X,o⟩:=jnR S (M++[x]) T
  have e:M++x :: T=M++[x]++T:=by simp
  rw[e,o,jnS];split
  ·exact⟨X,rfl⟩
  ·split
   ·exact⟨x :: X,by simp⟩
   ·exact⟨X,rfl⟩
theorem jrK(w0:vW)(s:Nat)(S:vT)(bg:Nat):Meet w0 s S bg w0.heap.size [] (((((w0.alloc (.cells #[.pointer (some ⟨s,0,none⟩)] 25)).alloc (.cells #[.map (some bg)] 73)).alloc (.cells #[.slice none 0 0] 22)).alloc (.map #[] 0)).alloc (.cells #[.map (some (w0.heap.size+3))] 98)):=by
 obtain⟨e,J⟩:=vE (w0.alloc (.cells #[.pointer (some ⟨s,0,none⟩)] 25))
 obtain⟨o,K⟩:=vE (e.alloc (.cells #[.map (some bg)] 73))
 obtain⟨q,O⟩:=vE (o.alloc (.cells #[.slice none 0 0] 22))
 obtain⟨E,Q⟩:=vE (q.alloc (.map #[] 0))
 obtain⟨W5,Z⟩:=vE (E.alloc (.cells #[.map (some (w0.heap.size+3))] 98))
 rw[<-J, <-K, <-O, <-Q, <-Z];have z1:e.heap.size=w0.heap.size+1:=by rw[J,bN]
 have z2:o.heap.size=w0.heap.size+2:=by rw[K,bN,z1]
 have z3:q.heap.size=w0.heap.size+3:=by rw[O,bN,z2]
 have z4:E.heap.size=w0.heap.size+4:=by rw[Q,bN,z3]
 have e1:Ext w0 e:=by rw[J];exact (ExtR w0).alloc _
 have e2:Ext e o:=by rw[K];exact (ExtR e).alloc _
 have e3:Ext o q:=by rw[O];exact (ExtR o).alloc _
 have X:Ext q E:=by rw[Q];exact (ExtR q).alloc _
 have H:Ext E W5:=by rw[Z];exact (ExtR E).alloc _
 have b1:=by have:=Blk.new w0 (.cells #[.pointer (some ⟨s,0,none⟩)] 25);rw[<-J]at this;exact this
 have b2:=by have:=Blk.new e (.cells #[.map (some bg)] 73);rw[<-K,z1]at this;exact this
 have b3:=by have:=Blk.new o (.cells #[.slice none 0 0] 22);rw[<-O,z2]at this;exact this
 have b4:=by have:=Blk.new q (.map #[] 0);rw[<-Q,z3]at this;exact this
 have b5:=by have:=Blk.new E (.cells #[.map (some (w0.heap.size+3))] 98);rw[<-Z,z4]at this;exact this
 exact⟨(((e1.trans e2).trans e3).trans X).trans H,bM _,b1.keeps (((e2.trans e3).trans X).trans H) (fun g=>g),b2.keeps ((e3.trans X).trans H) (fun g=>g),b5,
  ⟨[],0,b4.keeps H (fun g=>g),fun y=>rfl⟩,.slice none 0 0,0,b3.keeps (X.trans H) (fun g=>g),fH _ _ _ _,bM _,fun z hz=>by cases hz⟩
theorem jhl{w:vW}{v:vV}{n:Nat}{xs:vM}(h:w.ownsRow 0 9 1 v n (xs.map Value.string)):RdS w v xs:=by
 have q:xs.length=n:=by have:=h.1;simpa using this
 obtain⟨_,⟨rfl,J⟩ |⟨g,e,z,rfl,K,E,H,O,Q⟩⟩:=id h
 ·exact .inl ⟨none,0,rfl,bE vO⟩
 ·subst q
  refine .inr ⟨g,0,e,rfl,(dD.1 E).1,H,fun j x o=>?_⟩;have X:=(bU.1 o).1
  have:=h.cellAt j vO
  rw[cL,this,cA,o];rfl
theorem jpJ(L:vM)(t:vB):readG (L++[t])=addG (readG L) t:=by unfold readG;rw[fO];rfl
theorem je6(L:vM):(∀ p∈readG L,∃ t∈L,p=(ky t,itOf t))/\(∀ t∈L,∃ p∈readG L,p.1=ky t)/\(readG L).length<=L.length:=by
 suffices h:∀ (R o:vM),((∀ p∈readG o,∃ t∈o,p=(ky t,itOf t))/\(∀ t∈o,∃ p∈readG o,p.1=ky t)/\(readG o).length<=o.length)->(∀ p∈readG (o++R),∃ t∈o++R,p=(ky t,itOf t))/\(∀ t∈o++R,∃ p∈readG (o++R),p.1=ky t)/\(readG (o++R)).length<=(o++R).length from by
  have:=h L [] ⟨fun p z=>(by cases z),fun t E=>(by cases E),bM _⟩
  simpa using this
 intro R;induction R with
 | nil=>intro o h;simpa using h
 | cons t R ih =>
  intro o ⟨h1,h2,h3⟩
  have:=ih (o++[t]) (by
   rw[jpJ];unfold addG;split
   ·rename_i hb
    obtain⟨p,z,e⟩:=fN.1 hb
    refine⟨fun p z=>by obtain⟨x,q,e⟩:=h1 p z;exact⟨x,bO.2 (.inl q),e⟩,fun x q=>?_,by rw[bG];exact bL h3 (Nat.le_add_right _ _)⟩
    rcases bO.1 q with q | q
    ·exact h2 x q
    ·simp only[bS]at q;subst q;exact⟨p,z,(of_decide_eq_true e).symm⟩
   ·refine⟨fun p z=>?_,fun x q=>?_,by rw[bG,bG];exact Nat.add_le_add_right h3 1⟩
    ·rcases bO.1 z with z | z
     ·obtain⟨x,q,e⟩:=h1 p z;exact⟨x,bO.2 (.inl q),e⟩
     ·simp only[bS]at z;subst z;exact⟨t,by simp,rfl⟩
    ·rcases bO.1 q with q | q
     ·obtain⟨p,z,e⟩:=h2 x q;exact⟨p,bO.2 (.inl z),e⟩
     ·simp only[bS]at q;subst q;exact⟨(ky x,itOf x),by simp,rfl⟩)
  simpa using this
structure jxF(L:vM):Prop where
 node:∀ t∈L,∃ n,jbj t n
 shut:∀ t∈L,∀ h∈jaG (nodeOf t),∃ t'∈L,h=shaB t'
 few:L.length<=1000
theorem jln{L:vM}{G:vT}(h:G.map kvI=readG L){t:vB}(ht:t∈L):(atL G (shaB t).data.toList).isSome=true:=by
 obtain⟨p,o,e⟩:=(je6 L).2.1 t ht
 rw[<-h]at o
 obtain⟨x,q,rfl⟩:=bC.1 o
 cases ha:atL G (shaB t).data.toList with
 | some y=>rfl
 | none=>exact absurd e.symm (jhv.1 ha x q)
theorem jc2{L:vM}{G:vT}(h:G.map kvI=readG L){x:Nd5}(hx:x∈G):∃ t∈L,x.1=ky t/\x.2.2=itOf t:=by
 obtain⟨t,o,e⟩:=(je6 L).1 (kvI x) (by rw[<-h];exact bC.2 ⟨x,hx,rfl⟩)
 exact⟨t,o,congrArg Prod.fst e,congrArg Prod.snd e⟩
def putF(f:Nat)(v:Int)(it:It):It:=if f=2 then { it with used:=v }else { it with held:=v }
def setB(f c:Nat)(v:Int)(x:Nd5):Nd5:=if x.2.1=c then (x.1,x.2.1,putF f v x.2.2)else x
theorem juL(f c:Nat)(v:Int)(L:vT):(L.map (setB f c v)).map kvN=L.map kvN:=by
 rw[cT];refine cS (fun x _=>?_);simp only[Function.comp,setB];split <;> rfl
theorem joC(f c:Nat)(v:Int)(L:vT):(L.map (setB f c v)).map (·.2.1)=L.map (·.2.1):=by
 rw[cT];refine cS (fun x _=>?_);simp only[Function.comp,setB];split <;> rfl
theorem jcG.setF{W:vW}{bm:Nat}{L:vT}(h:jcG W bm L){c:Nat}{it:It}(hc:jeJ W c it){f:Nat}(hf:f=2\/f=3)(v:Int):jcG (W.setCell ⟨c,f,none⟩ (.int .i64 v)) bm (L.map (setB f c v)):=by
 obtain⟨rv,o,Q⟩:=hc.cells
 have q:jad (fun z=>z=c) W (W.setCell ⟨c,f,none⟩ (.int .i64 v)):=jad.oneSet W ⟨c,f,none⟩ _;have hN:jhn W (fun z=>z=c):=fun z X fz e Z=>by
  have e:z=c:=e;subst e
  have:=o.uniq Z;injection this with _ E;exact absurd E vI
 obtain⟨es,ck,K,E⟩:=h.mp
 have H:bm≠c:=fun e=>by subst e;have:=K.uniq o;cases this
 refine⟨⟨es,ck,K.keeps q H,by rw[juL];exact E⟩,by rw[joC];exact h.blks,fun x hx=>?_⟩
 obtain⟨y,hy,rfl⟩:=bC.1 hx
 have O:=h.items y hy;unfold setB;split
 ·rename_i e
  obtain⟨J,hb,hr⟩:=O.cells
  rw[e]at hb
  refine⟨J,?_,?_⟩
  ·show Blk _ y.2.1 _
   rw[e];rcases hf with rfl | rfl
   ·exact hb.set_same (i:=2) _
   ·exact hb.set_same (i:=3) _
  ·have:=jcP hr q hN
   rcases hf with rfl | rfl <;> exact this
 ·rename_i e
  exact O.keeps q e hN
end
def HasS(S:vT)(t:vB):Prop:=∃ x,atL S (ky t)=some x/\x.2.2.text=t
structure HasM(S:vT)(l:vL):Prop where
 ok:jat l=0
 has:∀ x∈jam (jau l),HasS S x
def AllN(S:vT):Prop:=∀ x∈S,∃ n,jbj x.2.2.text n
def jgH(S:vT)(r:vB)(o:Option jae):Prop:=
 (∃ d m,InlD d r m/\o=some m)\/∃ h:vB,h.size=32/\r=jaC h/\((atL S h.data.toList=none/\o=none)\/∃ y n,atL S h.data.toList=some y/\jbj y.2.2.text n/\o=some n)
theorem jgH.good{S:vT}{r:vB}{n:jae}(h:jgH S r (some n)):∃ d,jcg (InlD d) n:=by
 rcases h with⟨d,m,h1,h2⟩ |⟨h,_,_,⟨_,h2⟩ |⟨y,m,_,h1,h2⟩⟩
 ·cases d with
  | zero=>exact h1.elim
  | succ d=>cases h2;exact⟨d,h1.1⟩
 ·cases h2
 ·cases h2;exact h1.2
theorem jwd{S:vT}{f:Nat}{T:PT}{n:jae}(hSt:jdC f T n)(hH:32<=T.text.size->HasS S T.text):jgH S (refB T.text) (some n):=by
 by_cases hz:T.text.size < 32
 ·exact .inl ⟨f+1,n,hSt.may.2 hz,rfl⟩
 ·obtain⟨y,e,o⟩:=hH vO
  refine .inr ⟨shaB T.text,jbi _,jgy hz,.inr ⟨y,n,e,?_,rfl⟩⟩;rw[o]
  exact⟨hSt.text,f,hSt.good⟩
def Inf(v t:vB):Prop:=v.data.toList <:+: t.data.toList
theorem Inf.trans{a b c:vB}(h:Inf a b)(k:Inf b c):Inf a c:=List.IsInfix.trans h k
theorem Inf.rfl'(a:vB):Inf a a:=List.infix_refl _
theorem jeN(a b:vB):Inf b (a++b):=⟨a.data.toList,[],by rw[dJ,fR,bR]⟩
theorem jn1(v:vB):Inf v (jaC v):=by
 unfold jaC;split
 ·exact Inf.rfl' v
 ·exact jeN _ _
theorem jrn{x:vB}:∀ {l:vM},x∈l->Inf x (catB l)
 | y :: l,h=>by
  rcases bK.1 h with rfl | h
  ·refine⟨[],(l.map (·.data.toList)).flatten,?_⟩
   show _=x.data.toList++(l.map (·.data.toList)).flatten
   simp
  ·obtain⟨s,t,e⟩:=jrn h
   have e:s++x.data.toList++t=(l.map (·.data.toList)).flatten:=e
   refine⟨y.data.toList++s,t,?_⟩
   show _=y.data.toList++(l.map (·.data.toList)).flatten;rw[<-e];simp
theorem jhE{x:vB}{l:vM}(h:x∈l):Inf x (jbY l):=(jrn h).trans (jeN _ _)
theorem jdC.inf{f:Nat}{T:PT}{n:jae}(h:jdC f T n){v t:vB}(ht:t∈jam T)(hv:Inf v t):(∃ t∈jay (jbw T),Inf v t)\/Inf v (refB T.text):=by
 by_cases hs:T.text.size < 32
 ·have e:=h.small hs
  obtain⟨x,ks⟩:=T
  have e:ks=[]:=e;subst e;unfold jam jay at ht;rw[bS]at ht;right;unfold refB;rw[if_pos hs, <-(show t=(PT.mk x []).text from ht)];exact hv
 ·left
  refine⟨t,?_,hv⟩
  unfold jbw;rw[if_neg hs,jbb]
  exact⟨T,bS.2 rfl,ht⟩
def jdn(l:vL):Nat->Nat
 | 0=>0
 | n+1=>jdn l n+(if (cutL n l).length=0 then 0 else 1)
theorem jg7(l:vL)(n:Nat):∀ d,jdn l n<=jdn l (n+d)
 | 0=>bM _
 | d+1=>by have:=jg7 l n d;rw[show n+(d+1)=(n+d)+1 from rfl,jdn];omega
theorem jis{l:vL}{i n:Nat}(h:(cutL i l).length≠0)(hi:i < n):1<=jdn l n:=by
 have:=jg7 l (i+1) (n - (i+1))
 rw[show i+1+(n - (i+1))=n by omega,jdn,if_neg h]at this;omega
theorem jgv{l:vL}{i j n:Nat}(h:(cutL i l).length≠0)(hj:(cutL j l).length≠0)(hij:i < j)(hn:j < n):2<=jdn l n:=by
 have e:=jis h hij
 have:=jg7 l (j+1) (n - (j+1))
 rw[show j+1+(n - (j+1))=n by omega,jdn,if_neg hj]at this;omega
theorem jrv(B:vL->PT)(l:vL)(hB:∀ i,(cutL i l).length≠0->(jam (B (jag 1 (cutL i l)))).length+2<=3 * (cutL i l).length):∀ n,(jay (ksK B l n)).length+2 * jdn l n<=3 * jc8 l n
 | 0=>by simp[ksK,jay,jc8,jdn]
 | n+1=>by
  rw[jhF,jdp,bG,jc8,jdn]
  have:=jrv B l hB n
  by_cases h0:(cutL n l).length=0
  ·rw[if_pos h0,if_pos h0];simp[jay];omega
  ·rw[if_neg h0,if_neg h0]
   have e:=hB n h0;have o:=jil (B (jag 1 (cutL n l)));omega
theorem jk4{l:vL}(h:∃ p∈l,p.l=[])(n:Nat):jc8 l n+1<=l.length:=by
 obtain⟨p,o,e⟩:=h
 induction l with
 | nil=>cases o
 | cons q r ih =>
  rw[jfP,bQ];rcases bK.1 o with rfl | o
  ·have:=jeS r n
   rw[e]
   have:hN [] n=0:=rfl
   omega
  ·have:=ih o
   have:=jyc q.l n
   omega
theorem jqL{l:vL}{p:Pair}{x:vU}{r:vN}(hp:p∈l)(hpx:p.l=x :: r):p∈cutL x.toNat l:=cH.2 ⟨hp,by unfold je4;rw[show p.1.data.toList=x :: r from hpx];simp⟩
theorem jfQ{l:vL}{p:Pair}{x:vU}{r:vN}(hp:p∈l)(hpx:p.l=x :: r):(cutL x.toNat l).length≠0:=fun e=>by
 have:=jqL hp hpx
 rw[bE e]at this;cases this
theorem jnK{k:Nat}{l:vL}{p:Pair}(h:p∈l):∃ q∈jag k l,q.2=p.2:=⟨_,jD h,rfl⟩
structure jvu(T:PT)(l:vL):Prop where
 all:(jam T).length+2<=3 * l.length
 two:2<=l.length->comK l=0->(jam T).length+3<=3 * l.length
 inf:∀ p∈l,∃ t∈jam T,Inf p.2 t
theorem jnZ(f:Nat){l:vL}(h:l.length=1):jvu (jab (f+1) l) l:=by
 obtain⟨p,rfl⟩:=fB.1 h
 have e:jam (jab (f+1) [p])=[jlw ⟨1,p.1,p.2,jav 16⟩]:=by
  show jam (.mk (jaS (jak (jab f) [p])) (jan (jab f) [p]))=_;have E:jak (jab f) [p]=⟨1,p.1,p.2,jav 16⟩:=rfl;have o:jan (jab f) [p]=[]:=rfl;rw[E,o];rfl
 refine⟨by rw[e];simp,fun o=>by simp at o,fun q z=>?_⟩
 rw[bS]at z;subst z;rw[e]
 refine⟨_,bS.2 rfl,(jn1 q.2).trans ?_⟩
 unfold jlw;exact jhE (by simp)
theorem grow:∀ (f:Nat) (l:vL),jaq f l->l≠[]->jvu (jab (f+1) l) l:=by
 intro f;induction f with
 | zero =>
  intro l h hn;have h0:l.length≠0:=fun e=>hn (bE e);have hl:l.length<=1:=by
   rcases fK l.length 2 with h2 | h2
   ·omega
   ·obtain⟨a,Q⟩:∃ a,l[0]?=some a:=⟨_,bA vO⟩
    obtain⟨b,hb⟩:∃ b,l[1]?=some b:=⟨_,bA vO⟩
    have o:=jcy h.rise vO Q hb
    have:=(h.size b (bI hb)).1
    rw[show b.l=[]from bE (by show b.1.size=0;omega)]at o;exact absurd o (not_lt_nil _)
  exact jnZ 0 vO
 | succ f ih =>
  intro l h hn;have h0:l.length≠0:=fun e=>hn (bE e)
  by_cases h1:l.length=1
  ·exact jnZ (f+1) h1
  have h2:2<=l.length:=vO
  have z:=jbq h h2;have eT:jam (jab (f+1+1) l)=jaS (jak (jab (f+1)) l) :: jay (jan (jab (f+1)) l):=by
   show jam (.mk (jaS (jak (jab (f+1)) l)) (jan (jab (f+1)) l))=_;rw[jam]
  by_cases hk:0 < comK l
  ·have a1:jaq f (jag (comK l) l):=(jci (comK l) h (fun p E q hq=>(z p E).1.trans (z q hq).1.symm) (fun p E=>(z p E).2)).mono vO
   have X:jag (comK l) l≠[]:=fun e=>by have:=jaA (comK l) l;rw[e]at this;simp at this;omega
   have hg:=ih _ a1 X
   obtain⟨_,i2,_⟩:=good f _ a1
   have J:=i2 X;have eB:jan (jab (f+1)) l=jbw (jab (f+1) (jag (comK l) l)):=by
    unfold jan;rw[if_neg vO,if_pos hk]
   have eN:jak (jab (f+1)) l=⟨2,(l.getD 0 pd).1.extract 0 (comK l),⟨#[]⟩,refB (jab (f+1) (jag (comK l) l)).text :: jav 15⟩:=by unfold jak;rw[if_neg h0,if_neg h1,if_pos hk]
   have K:=hg.two (by rw[jaA];omega) (jgg vO);rw[jaA]at K;have hh:=jil (jab (f+1) (jag (comK l) l))
   refine⟨by rw[eT,eB,bQ];omega,fun _ hz=>by omega,fun p E=>?_⟩
   obtain⟨q,hq,e2⟩:=jnK (k:=comK l) E
   obtain⟨t,ht,hv⟩:=hg.inf q hq
   rw[e2]at hv;rw[eT,eB];rcases J.inf ht hv with⟨t',ht',hv'⟩ | hv'
   ·exact⟨t',bD _ ht',hv'⟩
   ·refine⟨_,bF,hv'.trans ?_⟩
    have:jaS (jak (jab (f+1)) l)=extB (jak (jab (f+1)) l):=by rw[eN];rfl
    rw[this,eN];unfold extB;exact jhE (by simp)
  ·have O:∀ i,(cutL i l).length≠0->jag 1 (cutL i l)≠[]:=fun i H e=>by have:=jaA 1 (cutL i l);rw[e]at this;simp at this;omega
   have hg:∀ i,(cutL i l).length≠0->jvu (jab (f+1) (jag 1 (cutL i l))) (jag 1 (cutL i l)):=fun i H=>ih _ (jdM i h) (O i H);have J:∀ i,(cutL i l).length≠0->jdC f (jab (f+1) (jag 1 (cutL i l))) (jak (jab f) (jag 1 (cutL i l))):=fun i H=>(good f _ (jdM i h)).2.1 (O i H);have eB:jan (jab (f+1)) l=ksK (jab (f+1)) l 16:=by
    unfold jan;rw[if_neg vO,if_neg hk];rfl
   obtain⟨a,Q⟩:∃ a,l[0]?=some a:=⟨_,bA vO⟩
   obtain⟨b,hb⟩:∃ b,l[l.length - 1]?=some b:=⟨_,bA vO⟩
   have ga:l.getD 0 pd=a:=by rw[bH,Q];rfl
   have gb:l.getD (l.length - 1) pd=b:=by rw[bH,hb];rfl
   have Z:=bI Q;have a2:=bI hb;have o:=jcy h.rise vO Q hb
   obtain⟨rs,a0⟩:=vE ((List.range 16).map fun i=>if (cutL i l).length=0 then (⟨#[]⟩:vB)else refB (jab (f+1) (jag 1 (cutL i l))).text)
   have eN:jak (jab (f+1)) l=⟨3,⟨#[]⟩,if a.1.size=0 then a.2 else ⟨#[]⟩,rs⟩:=by unfold jak;rw[if_neg h0,if_neg h1,if_neg hk,ga,a0]
   have K:(jay (jan (jab (f+1)) l)).length+4<=3 * l.length:=by
    rw[eB];have b1:=jrv (jab (f+1)) l (fun i H=>by have:=(hg i H).all;rwa [jaA]at this) 16;have a3:jba a.l b.l=0:=by have:comK l=jba a.l b.l:=(by unfold comK jap;rw[ga,gb]);omega
    cases hbl:b.l with
    | nil=>rw[hbl]at o;exact absurd o (not_lt_nil _)
    | cons y t =>
     have hy:=je2 (h.size b a2).2.2.1 hbl;have cb:=jfQ a2 hbl;cases hal:a.l with
     | nil =>
      have:=jk4 ⟨a,Z,hal⟩ 16
      have:=jis cb hy
      omega
     | cons x r =>
      have hx:=je2 (h.size a Z).2.2.1 hal;have ca:=jfQ Z hal;have a6:x≠y:=by
       intro e;rw[hal,hbl,e]at a3;simp[jba]at a3
      have X:x.toNat≠y.toNat:=fun e=>a6 (dP.1 e)
      have:=jeS l 16
      have:2<=jdn l 16:=by
       rcases fK x.toNat y.toNat with e | e
       ·exact jgv ca cb e hy
       ·exact jgv cb ca vO hx
      omega
   refine⟨by rw[eT,bQ];omega,fun _ _=>by rw[eT,bQ];omega,fun p E=>?_⟩
   have a4:jaS (jak (jab (f+1)) l)=jeQ (jak (jab (f+1)) l):=by rw[eN];rfl
   have a5:jbM (jak (jab (f+1)) l)=jbG rs (if a.1.size=0 then a.2 else ⟨#[]⟩):=by
    rw[jfj _ (by rw[eN,a0];simp),eN]
   cases hpl:p.l with
   | nil =>
    have a7:p=a:=by
     obtain⟨i,H⟩:=iD E
     by_cases h00:i=0
     ·subst h00;rw[Q]at H;exact (bV H).symm
     ·have:=jcy h.rise vO Q H
      rw[hpl]at this;exact absurd this (not_lt_nil _)
    subst a7;have hz:p.1.size=0:=by show p.1.data.toList.length=0;rw[show p.1.data.toList=[]from hpl];rfl
    rw[eT]
    refine⟨_,bF,(jn1 p.2).trans ?_⟩
    rw[a4];unfold jeQ;rw[a5,if_pos hz];refine jhE ?_;unfold jbG;simp
   | cons x r =>
    have hx:=je2 (h.size p E).2.2.1 hpl;have hc:=jfQ E hpl
    obtain⟨q,hq,e2⟩:=jnK (k:=1) (jqL E hpl)
    obtain⟨t,ht,hv⟩:=(hg _ hc).inf q hq
    rw[e2]at hv;rw[eT,eB];rcases (J _ hc).inf ht hv with⟨t',ht',hv'⟩ | hv'
    ·refine⟨t',bD _ ?_,hv'⟩
     obtain⟨T',a8,a9⟩:=jbb.1 ht'
     refine jbb.2 ⟨T',?_,a9⟩;unfold ksK;refine cI.2 ⟨x.toNat,dQ.2 hx,?_⟩;rw[if_neg hc];exact a8
    ·refine⟨_,bF,hv'.trans ?_⟩
     rw[a4];unfold jeQ;rw[a5];refine jhE ?_;unfold jbG;refine bO.2 (.inl ?_);have b0:refB (jab (f+1) (jag 1 (cutL x.toNat l))).text∈rs:=by
      rw[a0];refine bC.2 ⟨x.toNat,dQ.2 hx,?_⟩;rw[if_neg hc]
     refine bC.2 ⟨_,b0,?_⟩;rw[if_neg (J _ hc).may.1.pos]
theorem jpT{l:vL}(h:jat l=0):(ja6 (jam (jau l))).length<=1+3 * l.length/\∀ p∈l,∃ t∈ja6 (jam (jau l)),Inf p.2 t:=by
 by_cases h0:l=[]
 ·subst h0
  refine⟨?_,by simp⟩
  have:=jgU (jam (jau []))
  have E:=joM (jaw h);simp at E ⊢;omega
 ·have H:=jbt (jaw h)
  have o:jaR l≠[]:=fun e=>h0 (by unfold jaR at e;simpa using e);have q:=grow 12 (jaR l) H o;have J:(jaR l).length=l.length:=by unfold jaR;rw[bZ]
  have z:=q.all;rw[J]at z;have Z:=jgU (jam (jau l));have K:jau l=jab (12+1) (jaR l):=rfl;rw[<-K]at z
  refine⟨by omega,fun p O=>?_⟩
  obtain⟨t,Q,X⟩:=q.inf _ (jD O)
  exact⟨t,(jaN _ _).2 Q,X⟩
theorem jks{f:Nat}{l:vL}(h:jaq f l)(hn:l≠[]):(refB (jab (f+1) l).text).size≠0:=((good f l h).2.1 hn).may.1.pos
theorem jfs(g:Nat->vB){i n:Nat}(h:i < n):((List.range n).map g).getD i ⟨#[]⟩=g i:=by
 rw[bH,cA,dV h];rfl
theorem jhz{f:Nat}{l m:vL}(hm:m≠[])(ho:jaq f m)(hk:jbw (jab (f+1) m) ⊆ jan (jab (f+1)) l):∀ x∈jam (jab (f+1) m),32<=x.size->x∈jam (jab (f+1+1) l):=fun x e q=>by
 have z:jam (jab (f+1+1) l)=jaS (jak (jab (f+1)) l) :: jay (jan (jab (f+1)) l):=by
  show jam (.mk (jaS (jak (jab (f+1)) l)) (jan (jab (f+1)) l))=_;rw[jam]
 rw[z];have o:=(good f m ho).2.1 hm
 by_cases hs:(jab (f+1) m).text.size < 32
 ·rw[jgX o hs,bS]at e
  subst e;omega
 ·refine bD _ (jbb.2 ⟨jab (f+1) m,hk ?_,e⟩)
  unfold jbw;rw[if_neg hs];exact bS.2 rfl
section
attribute [local go_sem] Oper.semAt_some
def preB(p s:vB):Bool:=p.data.toList.isPrefixOf s.data.toList
theorem joI:∀ (p s:vN),p.isPrefixOf s=(decide (p.length<=s.length) && (s.take p.length == p))
 | [],s=>by simp
 | x :: p,[]=>by simp
 | x :: p,y :: s=>by
  have o:=joI p s;simp only[List.isPrefixOf,bQ,fF,o,Nat.add_le_add_iff_right]
  by_cases h:x=y
  ·subst h;simp
  ·have:(y == x)=false:=by simpa using fun e=>h e.symm
   simp[h,this]
theorem juS(s:vB)(n:Nat):(s.extract 0 n).toList=s.data.toList.take n:=by
 rw[bW,fD,fW,fE];simp
theorem jos(w:vW)(s p:vB)(hs:s.size<=1000000)(hp:p.size<=1000000):vQ 124 #[.string s,.string p] w fun e w'=>e=.returned (.bool (preB p s))/\w'=w:=by
 have o:=joI p.data.toList s.data.toList;have q:p.data.toList.length=p.size:=rfl;have z:s.data.toList.length=s.size:=rfl;rw[q,z, <-juS]at o;have o:preB p s=_:=o
 by_cases hl:p.size<=s.size
 ·have E:(p.size:Int)<=(s.size:Int):=vO
  have H:¬(s.size:Int) < (p.size:Int):=vO
  have J:((p.size:Int)).toNat=p.size:=vO
  rw[decide_eq_true hl,Bool.true_and, <-bW]at o;rw[o];clear o q z;go_enter Tryz.func124,Tryz.ntmps124;go_wp2_with fail
  go_ret
  exact⟨rfl,rfl⟩
 ·have E:(s.size:Int) < (p.size:Int):=vO
  rw[decide_eq_false hl,Bool.false_and]at o;rw[o];clear o q z;go_enter Tryz.func124,Tryz.ntmps124;go_wp2_with fail
  go_ret
  exact⟨rfl,rfl⟩
theorem jyt{W:vW}{B:Nat}{T:TypeId}{sz:Nat}{v:vV}{n:Nat}{xs:List vV}(h:W.ownsRow B T sz v n xs){b:Nat}(hb:v.ownBlock=some b):b < W.heap.size:=by
 obtain⟨H,o |⟨g,q,z,o,J,E,K⟩⟩:=h
 ·rw[o.1]at hb;cases hb
 ·rw[o]at hb
  have e:some g=some b:=hb;obtain rfl:=bV e;exact (dD.1 E).1
end
end Go.Proofs.YtmobgkphhbmhbaaGreatDoor
