/- Lemmas; each is under no condition but those that it states. -/
import Derived.Test.YtmobgkphhbmhbaaGreatDoorPb21
namespace Go.Proofs.YtmobgkphhbmhbaaGreatDoor
set_option linter.unusedSimpArgs false
set_option linter.unusedVariables false
set_option maxRecDepth 100000
set_option maxHeartbeats 16000000
open Go Go.RowKit
theorem jmp(m:vL)(k:vN):valM m k=(look m k).getD ⟨#[]⟩:=rfl
theorem jkk(p:Pair)(k:vN):∀ m:vL,look (putM m p) k=if k=p.k then some p.2 else look m k
 | []=>by rw[putM,jaT,jhC]
 | q :: r=>by
  rw[putM]
  by_cases h:p.k=q.k
  ·rw[if_pos h,jaT,jaT]
   by_cases h2:k=p.k
   ·rw[if_pos h2,if_pos h2]
   ·rw[if_neg h2,if_neg h2,if_neg (by rw[<-h];exact h2)]
  ·rw[if_neg h,jaT,jaT,jkk p k r]
   by_cases h2:k=q.k
   ·rw[if_pos h2,if_pos h2,if_neg (by rw[h2];exact fun e=>h e.symm)]
   ·rw[if_neg h2,if_neg h2]
theorem jin{k:vN}:∀ {m:vL},k∈m.map Pair.k->∃ v,look m k=some v
 | [],h=>by cases h
 | q :: r,h=>by
  rw[jaT]
  by_cases e:k=q.k
  ·exact⟨_,if_pos e⟩
  ·rw[if_neg e]
   rcases bJ.1 h with h | h
   ·exact absurd h e
   ·exact jin h
theorem joh{k:vN}{v:vB}:∀ {m:vL},look m k=some v->∃ p∈m,p.k=k/\p.2=v
 | [],h=>by cases h
 | q :: r,h=>by
  rw[jaT]at h
  by_cases e:k=q.k
  ·rw[if_pos e]at h
   exact⟨q,bD,e.symm,bV h⟩
  ·rw[if_neg e]at h
   obtain⟨p,o,z⟩:=joh h
   exact⟨p,bC _ o,z⟩
theorem jnJ(k:vB):∀ m:vL,(delM m k).map Pair.k=(m.map Pair.k).erase k.data.toList
 | []=>rfl
 | q :: r=>by
  rw[delM,bL,List.erase_cons]
  by_cases h:k.data.toList=q.k
  ·rw[if_pos h,if_pos (by simp[h])]
  ·rw[if_neg h,if_neg (by intro e;exact h (by simpa using (eq_of_beq e).symm)),bL,jnJ k r]
theorem jof(key:vB)(k:vN):∀ m:vL,(m.map Pair.k).Nodup->look (delM m key) k=if k=key.data.toList then none else look m k
 | [],_=>by rw[delM,jhC];simp
 | q :: r,hn=>by
  rw[bL,dH]at hn;rw[delM]
  by_cases h:key.data.toList=q.k
  ·rw[if_pos h,jaT]
   by_cases h2:k=key.data.toList
   ·rw[if_pos h2];exact jdb (by rw[h2,h];exact hn.1)
   ·rw[if_neg h2,if_neg (by rw[<-h];exact h2)]
  ·rw[if_neg h,jaT,jaT,jof key k r hn.2]
   by_cases h2:k=q.k
   ·rw[if_pos h2,if_pos h2,if_neg (by rw[h2];exact fun e=>h e.symm)]
   ·rw[if_neg h2,if_neg h2]
theorem jl7(p:Pair):∀ m:vL,(putM m p).map Pair.k=if p.k∈m.map Pair.k then m.map Pair.k else m.map Pair.k++[p.k]
 | []=>rfl
 | q :: r=>by
  rw[putM]
  by_cases h:p.k=q.k
  ·rw[if_pos h,if_pos (by simp[h])];simp[h]
  ·rw[if_neg h,bL,jl7 p r]
   by_cases h2:p.k∈r.map Pair.k
   ·rw[if_pos h2,if_pos (by rw[bL];exact bC _ h2)];rfl
   ·rw[if_neg h2,if_neg (by rw[bL,bJ];exact fun e=>e.elim h h2)];rfl
theorem jl8(p:Pair){m:vL}(h:(m.map Pair.k).Nodup):((putM m p).map Pair.k).Nodup:=by
 rw[jl7];split
 ·exact h
 ·rename_i hn
  rw[dY]
  exact⟨h,by simp,fun a o b hb e=>by simp at hb;subst hb;subst e;exact hn o⟩
theorem jqS(k:vB){m:vL}(h:(m.map Pair.k).Nodup):((delM m k).map Pair.k).Nodup:=by
 rw[jnJ];exact h.erase _
theorem jnM(c:Chg){m:vL}(h:(m.map Pair.k).Nodup):((doM m c).map Pair.k).Nodup:=by
 unfold doM;split
 ·exact jqS _ h
 ·exact jl8 _ h
theorem jll:∀ (cs:List Chg) {m:vL},(m.map Pair.k).Nodup->((cs.foldl doM m).map Pair.k).Nodup
 | [],_,h=>h
 | c :: r,_,h=>jll r (jnM c h)
theorem jg8:∀ (l:vL) {m:vL},(m.map Pair.k).Nodup->((l.foldl putM m).map Pair.k).Nodup
 | [],_,h=>h
 | c :: r,_,h=>jg8 r (jl8 c h)
theorem jhK(l:vL)(cs:List Chg):((jc6 l cs).map Pair.k).Nodup:=jll cs (jg8 l (by simp))
def jfF(k:vN)(o:Option vB)(c:Chg):Option vB:=if k=c.key.data.toList then (if c.gone then none else some c.value)else o
theorem jv3(c:Chg)(k:vN){m:vL}(h:(m.map Pair.k).Nodup):look (doM m c) k=jfF k (look m k) c:=by
 unfold doM jfF;cases hg:c.gone with
 | true=>rw[if_pos rfl,jof _ _ _ h];simp
 | false=>rw[if_neg (by simp),jkk];simp[Pair.k]
theorem jog(k:vN):∀ (cs:List Chg) {m:vL},(m.map Pair.k).Nodup->look (cs.foldl doM m) k=cs.foldl (jfF k) (look m k)
 | [],_,_=>rfl
 | c :: r,m,h=>by rw[dO,dO,jog k r (jnM c h),jv3 c k h]
theorem jlK(k:vN):∀ (l:vL) (m:vL),(l.map Pair.k).Nodup->look (l.foldl putM m) k=(look l k).or (look m k)
 | [],_,_=>by rw[jhC];simp
 | q :: r,m,h=>by
  rw[bL,dH]at h;rw[dO,jlK k r _ h.2,jkk,jaT]
  by_cases e:k=q.k
  ·rw[if_pos e,if_pos e,jdb (by rw[e];exact h.1)];rfl
  ·rw[if_neg e,if_neg e]
theorem jpD(k:vN)(l:vL)(cs:List Chg)(h:(l.map Pair.k).Nodup):look (jc6 l cs) k=cs.foldl (jfF k) (look l k):=by
 unfold jc6;rw[jog k cs (jg8 l (by simp)),jlK k l [] h,jhC];simp
theorem jry:∀ (a b:vN),Lt a b↔a < b
 | a,[]=>⟨fun h=>absurd h (not_lt_nil _),fun h=>absurd h (List.not_lt_nil _)⟩
 | [],b :: y=>⟨fun _=>List.nil_lt_cons _ _,fun _=>jon⟩
 | a :: x,b :: y=>by rw[jbu,List.cons_lt_cons_iff,jry x y]
theorem jkX.nodup{l:vL}(h:jkX l):(l.map Pair.k).Nodup:=by
 unfold List.Nodup;rw[List.pairwise_map];refine h.imp fun {p q} h=>?_;intro e;rw[e]at h;exact lt_irrefl _ h
theorem jhc(ks:List (vN))(k:vN):k∈jej ks↔k∈ks:=(iC _ _).mem_iff
theorem jnm{ks:List (vN)}(h:ks.Nodup):(jej ks).Pairwise Lt:=by
 have z:∀ a b c:vN,decide (a<=b)=true->decide (b<=c)=true->decide (a<=c)=true:=fun a b c o q=>by simp only[decide_eq_true_eq]at *;exact List.le_trans o q
 have to:∀ a b:vN,(decide (a<=b) || decide (b<=a))=true:=fun a b=>by simp only[Bool.or_eq_true,decide_eq_true_eq];exact List.le_total a b
 have o:(jej ks).Pairwise (fun x y=>decide (x<=y)=true):=List.pairwise_mergeSort z to ks;have q:(jej ks).Nodup:=(iC _ _).nodup_iff.2 h;refine (o.and q).imp fun {a b} h=>?_;have A:a<=b:=by simpa using h.1
 rcases jjp a b with e | e | e
 ·exact e
 ·exact absurd e h.2
 ·exact absurd ((jry _ _).1 e) (List.not_lt.2 A)
theorem jpU(m:vL):(jcB m).map Pair.k=jej (m.map Pair.k):=by
 unfold jcB;rw[dE]
 conv=>rhs;rw[<-List.map_id (jej (m.map Pair.k))]
 exact cZ fun k _=>rfl
theorem jmj(m:vL):(jcB m).length=m.length:=by
 unfold jcB;rw[cC,jgE,cC]
theorem jf5{m:vL}(h:(m.map Pair.k).Nodup):jkX (jcB m):=by
 have e:=jnm h;rw[<-jpU,List.pairwise_map]at e;exact e
theorem jlJ(f:vN->vB)(k:vN):∀ ks:List (vN),look (ks.map fun x=>((⟨x.toArray⟩,f x):Pair)) k=if k∈ks then some (f k)else none
 | []=>rfl
 | x :: r=>by
  rw[bL,jaT,jlJ f k r];have e:Pair.k ((⟨x.toArray⟩,f x):Pair)=x:=rfl;rw[e]
  by_cases h:k=x
  ·rw[if_pos h,if_pos (by simp[h])];simp[h]
  ·rw[if_neg h]
   by_cases h2:k∈r
   ·rw[if_pos h2,if_pos (bC _ h2)]
   ·rw[if_neg h2,if_neg (by rw[bJ];exact fun e=>e.elim h h2)]
theorem jlL(m:vL)(k:vN):look (jcB m) k=look m k:=by
 unfold jcB;rw[jlJ]
 by_cases h:k∈m.map Pair.k
 ·rw[if_pos ((jhc _ _).2 h)]
  obtain⟨v,o⟩:=jin h
  rw[jmp,o];rfl
 ·rw[if_neg (fun e=>h ((jhc _ _).1 e)),jdb h]
def okP(p:Pair):Prop:=jdG p.1=true/\jcX p.2=true
theorem jnd{p x:Pair}:∀ {m:vL},x∈putM m p->x=p\/x∈m
 | [],h=>.inl (by simpa [putM]using h)
 | q :: r,h=>by
  rw[putM]at h;split at h
  ·rcases bJ.1 h with h | h
   ·exact .inl h
   ·exact .inr (bC _ h)
  ·rcases bJ.1 h with h | h
   ·exact .inr (h ▸ bD)
   ·exact (jnd h).imp id (bC _)
theorem jnI(k:vB):∀ m:vL,(delM m k).Sublist m
 | []=>List.Sublist.refl _
 | x :: r=>by
  unfold delM;split
  ·exact List.sublist_cons_self _ _
  ·exact (jnI k r).cons_cons _
theorem jsb:∀ (l:vL) {m:vL},(∀ p∈l,okP p)->(∀ p∈m,okP p)->∀ p∈l.foldl putM m,okP p
 | [],_,_,h=>h
 | q :: r,m,h1,h2=>jsb r (fun p o=>h1 p (bC _ o)) fun p o=>(jnd o).elim (fun e=>e ▸ h1 q bD) (h2 p)
theorem juU:∀ (cs:List Chg) {m:vL},cs.any Chg.bad=false->(∀ p∈m,okP p)->∀ p∈cs.foldl doM m,okP p
 | [],_,_,h=>h
 | c :: r,m,h1,h2=>by
  rw[List.any_cons,gM]at h1;refine juU r h1.2 fun p e=>?_;unfold doM at e;have hb:=h1.1;unfold Chg.bad at hb;cases hg:c.gone with
  | true=>rw[if_pos hg]at e;exact h2 p ((jnI _ _).subset e)
  | false =>
   rw[if_neg (by rw[hg];simp)]at e;rcases jnd e with rfl | e
   ·simp[hg]at hb;exact hb
   ·exact h2 p e
theorem jm6{l:vL}(h:jap l=0):∀ p∈l,okP p:=fun p e=>by
 obtain⟨o,q,z,A⟩:=(jau h).size p e
 exact⟨decide_eq_true ⟨o,q⟩,decide_eq_true ⟨z,A⟩⟩
theorem jqp{l:vL}{cs:List Chg}(h:jap l=0)(hc:cs.any Chg.bad=false):∀ p∈jc6 l cs,okP p:=
 juU cs hc (jsb l (jm6 h) (by simp))
theorem joq{l:vL}(h1:∀ p∈l,okP p)(h2:jkX l)(h3:l.length<=40):jap l=0:=by
 unfold jap;rw[if_neg,if_neg vO];intro h
 obtain⟨i,e,hb⟩:=fE.1 h
 have e:=dJ.1 e;have g:∀ j (q:j < l.length),l.getD j (⟨#[]⟩,⟨#[]⟩)=l[j]:=fun j q=>by rw[bG,bA q];rfl
 unfold badN at hb;rw[g i e,(h1 _ (fD e)).1,(h1 _ (fD e)).2]at hb;simp only[Bool.not_true,Bool.or_self,Bool.false_or,cQ,decide_eq_true_eq,gW]at hb;rw[g (i - 1) vO]at hb
 have:=gO.1 h2 (i - 1) i vO e vO
 have o:=hb.2;unfold jbH at o;rw[bX,bX]at o;have z:Op.bytesLess (l[i - 1]).1.data.toList (l[i]).1.data.toList=true:=this;rw[z]at o;cases o
theorem jhL{l:vL}{cs:List Chg}(h:ja3 l cs=0):jap l=0/\cs.any Chg.bad=false/\(jc6 l cs).length<=40:=by
 unfold ja3 at h;split at h
 ·rename_i h1;exact absurd h h1
 rename_i h1
 split at h
 ·cases h
 rename_i h2
 split at h
 ·cases h
 rename_i h3
 exact⟨by simpa using h1,by simpa using h2,by omega⟩
theorem jqd{m:vL}(h:∀ p∈m,okP p):∀ p∈jcB m,okP p:=fun p z=>by
 obtain⟨k,A,rfl⟩:=bH.1 z
 obtain⟨v,o⟩:=jin ((jhc _ _).1 A)
 obtain⟨q,E,H,J⟩:=joh o
 have:=h q E
 rw[jmp,o];have e:((⟨k.toArray⟩,(some v).getD ⟨#[]⟩):Pair)=q:=jgu H.symm J.symm;rw[e];exact this
theorem jcb{l:vL}{cs:List Chg}(h:ja3 l cs=0):jap (jcB (jc6 l cs))=0:=by
 obtain⟨e,o,q⟩:=jhL h
 exact joq (jqd (jqp e o)) (jf5 (jhK l cs)) (by rw[jmj];exact q)
theorem jjo{l:vL}(h:jap l=0)(cs:List Chg)(k:vN):look (jcB (jc6 l cs)) k=cs.foldl (jfF k) (look l k):=by
 rw[jlL,jpD k l cs (jkX.nodup (jau h).rise)]
def jdB(xs:List Chg):List vV:=xs.flatMap fun c=>[.string c.key,.string c.value,.bool c.gone]
theorem jcJ(xs:List Chg)(c:Chg):jdB (xs++[c])=jdB xs++[.string c.key,.string c.value,.bool c.gone]:=by simp[jdB]
theorem ji4(xs:List Chg):(jdB xs).length=xs.length * 3:=by
 induction xs with
 | nil=>rfl
 | cons x r ih=>unfold jdB at *;rw[cF,bF,ih];simp;omega
theorem Tryz.infoChg:(Tryz.prog.info? 59).map (fun i=>(i.zero,i.size,i.bytes))=some (some (.agg #[.string ⟨#[]⟩,.string ⟨#[]⟩,.bool false]),3,40):=vY
theorem Tryz.uChgs:Tryz.prog.underlying 23=some (.slice 59):=vY
theorem Tryz.sChgs:jeq Tryz.prog 23 59 3 40:=jeq.mk' Tryz.uChgs Tryz.infoChg rfl vI
abbrev CRow(w0 w:vW)(v:vV)(n:Nat)(xs:List Chg):Prop:=ORow 59 3 w0 w v n (jdB xs)
def jaN:vL->vL->List Chg
 | [],[]=>[]
 | p :: l,[]=>⟨p.1,⟨#[]⟩,true⟩ :: jaN l []
 | [],q :: m=>⟨q.1,q.2,false⟩ :: jaN [] m
 | p :: l,q :: m =>
  if jbH p.1 q.1=true then ⟨p.1,⟨#[]⟩,true⟩ :: jaN l (q :: m)
  else if jbH q.1 p.1=true then ⟨q.1,q.2,false⟩ :: jaN (p :: l) m
  else if (p.2.toList == q.2.toList)=true then jaN l m else ⟨q.1,q.2,false⟩ :: jaN l m
termination_by l m=>l.length+m.length
def jbP(l m:vL):List Chg:=if jap l=0/\jap m=0 then jaN l m else []
theorem jc1{α:Type}{l:List α}{i:Nat}{x:α}(h:l[i]?=some x):l.drop i=x :: l.drop (i+1):=by
 obtain⟨o,e⟩:=bU.1 h
 rw[<-e];exact iG o
structure DfR(w:World)(l m:vL)(c:Value)(i j:Nat)(wr:World)(n:Nat)(acc:List Chg):Prop where
 hi:i<=l.length
 hj:j<=m.length
 hn:n<=i+j
 row:CRow w wr c n acc
 eq:acc++jaN (l.drop i) (m.drop j)=jaN l m
def jyj(w:vW)(l m:vL)(c vi vj:vV)(wr:vW):Prop:=∃ i j n acc,vi=.int .i64 (i:Nat)/\vj=.int .i64 (j:Nat)/\DfR w l m c i j wr n acc
theorem jxu{l m:vL}{i j:Nat}(hi:i=l.length)(hj:j=m.length):jaN (l.drop i) (m.drop j)=[]:=by
 subst hi;subst hj;rw[iK,iK];simp[jaN]
theorem jto{l m:vL}{i j:Nat}{p:Pair}(hp:l[i]?=some p)(hj:j=m.length):jaN (l.drop i) (m.drop j)=⟨p.1,⟨#[]⟩,true⟩ :: jaN (l.drop (i+1)) (m.drop j):=by
 subst hj;rw[iK,jc1 hp];simp[jaN]
theorem jvD{l m:vL}{i j:Nat}{q:Pair}(hq:m[j]?=some q)(hi:i=l.length):jaN (l.drop i) (m.drop j)=⟨q.1,q.2,false⟩ :: jaN (l.drop i) (m.drop (j+1)):=by
 subst hi;rw[iK,jc1 hq];simp[jaN]
theorem jtp{l m:vL}{i j:Nat}{p q:Pair}(hp:l[i]?=some p)(hq:m[j]?=some q)(h:jbH p.1 q.1=true):jaN (l.drop i) (m.drop j)=⟨p.1,⟨#[]⟩,true⟩ :: jaN (l.drop (i+1)) (m.drop j):=by
 rw[jc1 hp,jc1 hq,jaN,if_pos h]
theorem jvE{l m:vL}{i j:Nat}{p q:Pair}(hp:l[i]?=some p)(hq:m[j]?=some q)(h:jbH p.1 q.1=false)(h2:jbH q.1 p.1=true):jaN (l.drop i) (m.drop j)=⟨q.1,q.2,false⟩ :: jaN (l.drop i) (m.drop (j+1)):=by
 rw[jc1 hp,jc1 hq,jaN,if_neg (by rw[h];simp),if_pos h2]
theorem jvF{l m:vL}{i j:Nat}{p q:Pair}(hp:l[i]?=some p)(hq:m[j]?=some q)(h:jbH p.1 q.1=false)(h2:jbH q.1 p.1=false)(h3:(p.2.toList == q.2.toList)=true):jaN (l.drop i) (m.drop j)=jaN (l.drop (i+1)) (m.drop (j+1)):=by
 rw[jc1 hp,jc1 hq,jaN,if_neg (by rw[h];simp),if_neg (by rw[h2];simp),if_pos h3]
theorem jtq{l m:vL}{i j:Nat}{p q:Pair}(hp:l[i]?=some p)(hq:m[j]?=some q)(h:jbH p.1 q.1=false)(h2:jbH q.1 p.1=false)(h3:(p.2.toList == q.2.toList)=false):jaN (l.drop i) (m.drop j)=⟨q.1,q.2,false⟩ :: jaN (l.drop (i+1)) (m.drop (j+1)):=by
 rw[jc1 hp,jc1 hq,jaN,if_neg (by rw[h];simp),if_neg (by rw[h2];simp),if_neg (by rw[h3];simp)]
theorem jqU(w:vW)(v u:vV)(l m:vL)(hv:RdP w v l)(hu:RdP w u m)(hn1:l.length<=9223372036854775807)(hn2:m.length<=9223372036854775807)(hs1:∀ p∈l,p.1.size<=9223372036854775807/\p.2.size<=9223372036854775807)(hs2:∀ p∈m,p.1.size<=9223372036854775807/\p.2.size<=9223372036854775807) :
  vQ 50 #[v,u] w fun e w'=>∃ u,e=.returned u/\CRow w w' u (jbP l m).length (jbP l m):=by
 have a3:=Hd (jgS w v l hv hn1 hs1);have b3:=Hd (fun w1 (h1:Ext w w1)=>jgS w1 u m (hu.ext h1) hn2 hs2);have HV:=Hd hv;have HU:=Hd hu
 obtain⟨a,c,rfl⟩:=hv.sl
 obtain⟨a',c',d8⟩:=hu.sl
 subst d8;clear hv hu hs1 hs2
 by_cases hck:jap l=0
 case neg =>
  have HD:=Hd (show jbP l m=[] by unfold jbP;rw[if_neg (fun h=>hck h.1)]);rw[HD.o]
  obtain⟨x,hx⟩:=vE (jap l)
  rw[<-hx]at hck a3;have e6:(x == 0)=false:=by simpa using hck
  have d9:(x != 0)=true:=by simpa using hck
  clear hck hx HV HU b3 HD;go_enter Tryz.func50,Tryz.ntmps50;go_wp2_with fail
  refine a3.o.mono ?_;rintro e w1 ⟨rfl,hE⟩;have HE:=Hd hE;clear hE a3;go_wp2_with fail
  go_ret
  exact⟨_,rfl,ORow.nil _ _ HE.o⟩
 by_cases hck2:jap m=0
 case neg =>
  have HD:=Hd (show jbP l m=[] by unfold jbP;rw[if_neg (fun h=>hck2 h.2)]);rw[HD.o];rw[hck]at a3
  obtain⟨x,hx⟩:=vE (jap m)
  rw[<-hx]at hck2 b3;have e6:(x == 0)=false:=by simpa using hck2
  have d9:(x != 0)=true:=by simpa using hck2
  clear hck hck2 hx HV HU HD;go_enter Tryz.func50,Tryz.ntmps50;go_wp2_with fail
  refine a3.o.mono ?_;rintro e w1 ⟨rfl,hE⟩;have HE:=Hd hE;clear hE a3;go_wp2_with fail
  refine vH (b3.o w1 HE.o) fun w2 hE=>?_;have c6:=Hd (HE.o.trans hE);clear b3 HE;go_wp2_with fail
  go_ret
  exact⟨_,rfl,ORow.nil _ _ c6.o⟩
 have f0:=(jau hck).len;have f1:=(jau hck2).len;have HD:=Hd (show jbP l m=jaN l m by unfold jbP;rw[if_pos ⟨hck,hck2⟩]);rw[HD.o];rw[hck]at a3;rw[hck2]at b3;clear hck hck2 HD hn1 hn2
 obtain⟨R,hR⟩:=vE (jaN l m)
 rw[<-hR];have e0:=Hd hR;clear hR;go_enter Tryz.func50,Tryz.ntmps50;go_wp2_with fail
 refine a3.o.mono ?_;rintro e w1 ⟨rfl,hE⟩;have HE:=Hd hE;clear hE a3;go_wp2_with fail
 refine vH (b3.o w1 HE.o) fun w2 hE=>?_;have c6:=Hd (HE.o.trans hE);clear b3 HE;go_wp2_with fail
 go_loopw [5,6,7] (fun v i j wr=>jyj w l m v i j wr) (fun _ i j _=>(l.length - (intOf i).toNat)+(m.length - (intOf j).toNat))
 case atStart=>exact⟨0,0,0,[],rfl,rfl,by omega,by omega,by omega,ORow.nil _ _ c6.o,by simp⟩
 case round =>
  obtain⟨i,j,n,O,rfl,rfl,e7⟩:=hrel
  obtain⟨hi,hj,hn,b6,e1⟩:=e7
  obtain⟨a2,c2,rfl⟩:=b6.sl
  have HR:=Hd b6;have J:=Hd e1;clear b6 e1 c6
  by_cases hjm:j < m.length
  ·by_cases hil:i < l.length
   ·obtain⟨q,hq⟩:∃ q,m[j]?=some q:=⟨_,bA hjm⟩
    rcases HU.o with⟨_,_,_,h0⟩ |⟨bm,om,cm,hh,hb,hc,hcell⟩
    ·rw[h0]at hjm;cases hjm
    cases hh
    obtain⟨d1,d2⟩:=hcell j q hq
    have a1:=Hd (jaa d1 HR.o.ext);have a7:=Hd (jaa d2 HR.o.ext);have NB:Hid (¬(Value.slice a2 n c2).ownBlock=some bm):=(fun e=>by have:=HR.o.new bm e;omega);have HQ:=Hd hq;have b2:(j:Int) < (m.length:Int):=vO
    obtain⟨y1,y2⟩:=q
    simp only at a1 a7;clear hcell hb hc hq
    obtain⟨p,hp⟩:∃ p,l[i]?=some p:=⟨_,bA hil⟩
    rcases HV.o with⟨_,_,_,h0⟩ |⟨bl,ol,cl,hh,hb,hc,hcell⟩
    ·rw[h0]at hil;cases hil
    cases hh
    obtain⟨d3,d4⟩:=hcell i p hp
    have Q:=Hd (jaa d3 HR.o.ext);have b4:=Hd (jaa d4 HR.o.ext);have HP:=Hd hp;have b1:(i:Int) < (l.length:Int):=vO
    obtain⟨x1,x2⟩:=p
    simp only at Q b4;clear hcell hb hc hp;have eA:((j:Int) ==(m.length:Int))=false:=by simp;omega
    have eN:((i:Int) ==(l.length:Int))=false:=by simp;omega
    cases hls:jbH x1 y1 with
    | true =>
     have HN:=Hd (show O++[_]++jaN _ _=jaN l m from by rw[bW,gX, <-jtp HP.o HQ.o hls];exact J.o);unfold jbH at hls;clear J;go_wp2_with fail
     refine jak [0,1,2,3,4,5,6,7,8,9,10,11,12,13,14,15,16,17,18,19,20,21,22,23] Ext ExtR ExtT vY vY vY ?_;iterate 14 refine vK ?_
     refine qKL ⟨bl,ol+i * 2,none⟩ (.string x1) rfl (fun w3 E=>jac Tryz.uStr rfl (jaa (by exact Q.o) ((jam _).trans E))) ?_;refine vS ?_;iterate 4 refine vK ?_
     refine qKL ⟨bm,om+j * 2,none⟩ (.string y1) rfl (fun w3 E=>jac Tryz.uStr rfl (jaa (by exact a1.o) ((jam _).trans E))) ?_;refine vS ?_;iterate 4 refine vK ?_
     refine qKE (fun w5 A=>?_);have X:=Hd (HR.o.mono ((jam _).trans A));have e8:=jaa Q.o ((jam _).trans A);clear A HR Q b4 a1 a7;go_wp2_with (at_builtin;refine ja7 Tryz.sChgs (X.o.mono ((ExtR _).alloc _)) (.tmp 79) (.tmp 86) rfl rfl rfl (ja5 (Blk.new _ _)) (news:=[.string x1,.string ⟨#[]⟩,.bool true]) (by intro u hu;simp at hu;rcases hu with rfl | rfl | rfl <;> rfl) rfl rfl ?c1 ?c2 (fun v' w' r1 r2 r3=>?_))
     case c1=>unfold maxLen;omega
     case c2=>omega
     have H:CRow w w' v' (n+1) (O++[⟨x1,⟨#[]⟩,true⟩]):=by unfold CRow;rw[jcJ];exact r1
     obtain⟨a8,c8,rfl⟩:=H.sl
     have d5:=Hd H;clear r1 r2 r3 H;go_wp2_with fail
     go_roundw
     case rel=>exact⟨i+1,j,n+1,_,by go_num,rfl,by omega,hj,by omega,d5.o,HN.o⟩
     case measure=>exact vJ
    | false =>
     have d6:=Hd hls;unfold jbH at hls;go_wp2_with fail
     refine jak [0,1,2,3,4,5,6,7,8,9,10,11,12,13,14,15,16,17,18,19,20,21,22,23] Ext ExtR ExtT vY vY vY ?_;iterate 14 refine vK ?_
     refine qKL ⟨bl,ol+i * 2,none⟩ (.string x1) rfl (fun w3 E=>jac Tryz.uStr rfl (jaa (by exact Q.o) ((jam _).trans E))) ?_;refine vS ?_;iterate 4 refine vK ?_
     refine qKL ⟨bm,om+j * 2,none⟩ (.string y1) rfl (fun w3 E=>jac Tryz.uStr rfl (jaa (by exact a1.o) ((jam _).trans E))) ?_;refine vS ?_;iterate 4 refine vK ?_
     refine qKE (fun w5 A=>?_);have b5:=Hd (HR.o.mono ((jam _).trans A));have a5:=Hd (jaa Q.o ((jam _).trans A));have b7:=Hd (jaa b4.o ((jam _).trans A));have a0:=Hd (jaa a1.o ((jam _).trans A));have a6:=Hd (jaa a7.o ((jam _).trans A));clear A HR Q b4 a1 a7 hls;cases hlt2:jbH y1 x1 with
     | true =>
      have HN:=Hd (show O++[_]++jaN _ _=jaN l m from by rw[bW,gX, <-jvE HP.o HQ.o d6.o hlt2];exact J.o);unfold jbH at hlt2;clear J;go_wp2_with fail
      refine jak [0,1,2,3,4,5,6,7,8,9,10,11,12,13,14,15,16,17] Ext ExtR ExtT vY vY vY ?_;iterate 9 refine vK ?_
      refine qKL ⟨bm,om+j * 2,none⟩ (.string y1) rfl (fun w3 E=>jac Tryz.uStr rfl (jaa (by exact a0.o) ((jam _).trans E))) ?_;refine vS ?_;iterate 4 refine vK ?_
      refine qKL ⟨bl,ol+i * 2,none⟩ (.string x1) rfl (fun w3 E=>jac Tryz.uStr rfl (jaa (by exact a5.o) ((jam _).trans E))) ?_;refine vS ?_;iterate 3 refine vK ?_
      refine qKE (fun w5 A=>?_);have X:=Hd (b5.o.mono ((jam _).trans A));have b8:=Hd (jaa a0.o ((jam _).trans A));have b9:=Hd (jaa a6.o ((jam _).trans A));clear A b5 a5 b7 a0 a6 hlt2;go_wp2_with fail
      refine ja0 [0,1,2,3,4,5,6,7,8,9,10,11,12,13,14] [12,13] Ext (jad (fun b=>(Value.slice a2 n c2).ownBlock=some b)) ExtR ExtT (fun x y z h k=>jad.trans h k) (fun x y h=>h.mono (fun _ _ h=>h.elim)) vY vY vY ?_;iterate 5 refine vD ?_
      refine qDL ⟨bm,om+j * 2,none⟩ (.string y1) rfl (fun w3 E=>jac Tryz.uStr rfl (jaD (by exact b8.o) E NB.o)) ?_;refine vS ?_;iterate 4 refine vD ?_
      refine qDL ⟨bm,om+j * 2+1,none⟩ (.string y2) rfl (fun w3 E=>jac Tryz.uStr rfl (jaD (by exact b9.o) E NB.o)) ?_;refine vS ?_
      refine vD ?_
      refine qDH _ rfl (fun w6 A K hK=>?_);have a9:=Hd (X.o.mono ((jam _).trans A));clear A;go_simp;refine hK _ _ ((jad.refl _ w6).alloc _) ?_;clear hK K;refine qDH _ rfl (fun w7 A K hK=>?_);have b0:=Hd (a9.o.mono (((ExtR w6).alloc _).trans A));have hB:∀ k u,([.string y1,.string y2,.bool false]:List vV)[k]?=some u->w7.cell? ((⟨w6.heap.size,0,none⟩:Addr).add k)=some u:=fun k u hk=>jaa (ja5 (Blk.new w6 (.cells [Value.string y1,.string y2,.bool false].toArray 59)) k u hk) A;refine jjJ Tryz.sChgs b0.o (.tmp 108) (.tmp 120) rfl rfl hB (by intro u hu;simp at hu;rcases hu with rfl | rfl | rfl <;> rfl) rfl rfl (by unfold maxLen;omega) vO (fun v' w8 r1 r2 r3=>hK _ _ r2 ?_);have H:CRow w w8 v' (n+1) (O++[⟨y1,y2,false⟩]):=by unfold CRow;rw[jcJ];exact r1
      have Z:=Hd H;clear hK K A r1 r2 r3 H hB a9 b0
      obtain⟨a4,c4,rfl⟩:=Z.o.sl
      refine vS ?_
      refine vD ?_
      refine jco vY (fun w9 A=>?_);have c0:=Hd (Z.o.mono A);clear A Z;go_wp2_with fail
      go_roundw
      case rel=>exact⟨i,j+1,n+1,_,rfl,by go_num,by omega,by omega,by omega,c0.o,HN.o⟩
      case measure=>exact vJ
     | false =>
      have e2:=Hd hlt2;unfold jbH at hlt2;go_wp2_with fail
      refine jak [0,1,2,3,4,5,6,7,8,9,10,11,12,13,14,15,16,17] Ext ExtR ExtT vY vY vY ?_;iterate 9 refine vK ?_
      refine qKL ⟨bm,om+j * 2,none⟩ (.string y1) rfl (fun w3 E=>jac Tryz.uStr rfl (jaa (by exact a0.o) ((jam _).trans E))) ?_;refine vS ?_;iterate 4 refine vK ?_
      refine qKL ⟨bl,ol+i * 2,none⟩ (.string x1) rfl (fun w3 E=>jac Tryz.uStr rfl (jaa (by exact a5.o) ((jam _).trans E))) ?_;refine vS ?_;iterate 3 refine vK ?_
      refine qKE (fun w5 A=>?_);have c7:=Hd (b5.o.mono ((jam _).trans A));have c9:=Hd (jaa b7.o ((jam _).trans A));have d7:=Hd (jaa a0.o ((jam _).trans A));have c3:=Hd (jaa a6.o ((jam _).trans A));clear A b5 a5 b7 a0 a6 hlt2;cases hvv:(x2.toList == y2.toList)with
      | true =>
       have HN:=Hd (show O++jaN _ _=jaN l m from by rw[<-jvF HP.o HQ.o d6.o e2.o hvv];exact J.o);clear J;go_wp2_with fail
       refine jak [0,1,2,3,4,5,6,7,8,9,10] Ext ExtR ExtT vY vY vY ?_;iterate 4 refine vK ?_
       refine qKL ⟨bl,ol+i * 2+1,none⟩ (.string x2) rfl (fun w3 E=>jac Tryz.uStr rfl (jaa (by exact c9.o) ((jam _).trans E))) ?_;refine vS ?_;iterate 4 refine vK ?_
       refine qKL ⟨bm,om+j * 2+1,none⟩ (.string y2) rfl (fun w3 E=>jac Tryz.uStr rfl (jaa (by exact c3.o) ((jam _).trans E))) ?_;refine vS ?_
       refine vK ?_
       refine qKE (fun w5 A=>?_);have X:=Hd (c7.o.mono ((jam _).trans A));clear A c7 c9 d7 c3;go_wp2_with fail
       go_roundw
       case rel=>exact⟨i+1,j+1,n,O,by go_num,by go_num,by omega,by omega,by omega,X.o,HN.o⟩
       case measure=>exact vJ
      | false =>
       have HN:=Hd (show O++[_]++jaN _ _=jaN l m from by rw[bW,gX, <-jtq HP.o HQ.o d6.o e2.o hvv];exact J.o);clear J;go_wp2_with fail
       refine jak [0,1,2,3,4,5,6,7,8,9,10] Ext ExtR ExtT vY vY vY ?_;iterate 4 refine vK ?_
       refine qKL ⟨bl,ol+i * 2+1,none⟩ (.string x2) rfl (fun w3 E=>jac Tryz.uStr rfl (jaa (by exact c9.o) ((jam _).trans E))) ?_;refine vS ?_;iterate 4 refine vK ?_
       refine qKL ⟨bm,om+j * 2+1,none⟩ (.string y2) rfl (fun w3 E=>jac Tryz.uStr rfl (jaa (by exact c3.o) ((jam _).trans E))) ?_;refine vS ?_
       refine vK ?_
       refine qKE (fun w5 A=>?_);have X:=Hd (c7.o.mono ((jam _).trans A));have b8:=Hd (jaa d7.o ((jam _).trans A));have b9:=Hd (jaa c3.o ((jam _).trans A));clear A c7 c9 d7 c3;go_wp2_with fail
       refine ja0 [0,1,2,3,4,5,6,7,8,9,10,11,12,13,14] [12,13] Ext (jad (fun b=>(Value.slice a2 n c2).ownBlock=some b)) ExtR ExtT (fun x y z h k=>jad.trans h k) (fun x y h=>h.mono (fun _ _ h=>h.elim)) vY vY vY ?_;iterate 5 refine vD ?_
       refine qDL ⟨bm,om+j * 2,none⟩ (.string y1) rfl (fun w3 E=>jac Tryz.uStr rfl (jaD (by exact b8.o) E NB.o)) ?_;refine vS ?_;iterate 4 refine vD ?_
       refine qDL ⟨bm,om+j * 2+1,none⟩ (.string y2) rfl (fun w3 E=>jac Tryz.uStr rfl (jaD (by exact b9.o) E NB.o)) ?_;refine vS ?_
       refine vD ?_
       refine qDH _ rfl (fun w6 A K hK=>?_);have a9:=Hd (X.o.mono ((jam _).trans A));clear A;go_simp;refine hK _ _ ((jad.refl _ w6).alloc _) ?_;clear hK K;refine qDH _ rfl (fun w7 A K hK=>?_);have b0:=Hd (a9.o.mono (((ExtR w6).alloc _).trans A));have hB:∀ k u,([.string y1,.string y2,.bool false]:List vV)[k]?=some u->w7.cell? ((⟨w6.heap.size,0,none⟩:Addr).add k)=some u:=fun k u hk=>jaa (ja5 (Blk.new w6 (.cells [Value.string y1,.string y2,.bool false].toArray 59)) k u hk) A;refine jjJ Tryz.sChgs b0.o (.tmp 37) (.tmp 49) rfl rfl hB (by intro u hu;simp at hu;rcases hu with rfl | rfl | rfl <;> rfl) rfl rfl (by unfold maxLen;omega) vO (fun v' w8 r1 r2 r3=>hK _ _ r2 ?_);have H:CRow w w8 v' (n+1) (O++[⟨y1,y2,false⟩]):=by unfold CRow;rw[jcJ];exact r1
       have Z:=Hd H;clear hK K A r1 r2 r3 H hB a9 b0
       obtain⟨a4,c4,rfl⟩:=Z.o.sl
       refine vS ?_
       refine vD ?_
       refine jco vY (fun w9 A=>?_);have c0:=Hd (Z.o.mono A);clear A Z;go_wp2_with fail
       go_roundw
       case rel=>exact⟨i+1,j+1,n+1,_,by go_num,by go_num,by omega,by omega,by omega,c0.o,HN.o⟩
       case measure=>exact vJ
   ·obtain⟨q,hq⟩:∃ q,m[j]?=some q:=⟨_,bA hjm⟩
    rcases HU.o with⟨_,_,_,h0⟩ |⟨bm,om,cm,hh,hb,hc,hcell⟩
    ·rw[h0]at hjm;cases hjm
    cases hh
    obtain⟨d1,d2⟩:=hcell j q hq
    have a1:=Hd (jaa d1 HR.o.ext);have a7:=Hd (jaa d2 HR.o.ext);have NB:Hid (¬(Value.slice a2 n c2).ownBlock=some bm):=(fun e=>by have:=HR.o.new bm e;omega);have HQ:=Hd hq;have b2:(j:Int) < (m.length:Int):=vO
    obtain⟨y1,y2⟩:=q
    simp only at a1 a7;clear hcell hb hc hq;have c5:i=l.length:=vO
    have b1:¬(i:Int) < (l.length:Int):=vO
    have eA:((j:Int) ==(m.length:Int))=false:=by simp;omega
    have eN:((i:Int) ==(l.length:Int))=true:=by simp;omega
    have HN:=Hd (show O++[_]++jaN _ _=jaN l m from by rw[bW,gX, <-jvD HQ.o c5];exact J.o);clear c5 J;go_wp2_with fail
    refine jak [0,1,2,3,4,5,6,7,8,9,10,11,12,13,14,15,16,17,18,19,20,21,22,23] Ext ExtR ExtT vY vY vY ?_;iterate 10 refine vK ?_
    iterate 11 (refine qKS _ rfl ?_;refine vS ?_)
    iterate 3 refine vK ?_
    refine qKE (fun w5 A=>?_);have b5:=Hd (HR.o.mono ((jam _).trans A));have e3:=Hd (jaa a1.o ((jam _).trans A));have e4:=Hd (jaa a7.o ((jam _).trans A));clear A HR a1 a7;go_wp2_with fail
    refine jak [0,1,2,3,4,5,6,7,8,9,10,11,12,13,14,15,16,17] Ext ExtR ExtT vY vY vY ?_;iterate 5 refine vK ?_
    iterate 11 (refine qKS _ rfl ?_;refine vS ?_)
    iterate 2 refine vK ?_
    refine qKE (fun w5 A=>?_);have X:=Hd (b5.o.mono ((jam _).trans A));have b8:=Hd (jaa e3.o ((jam _).trans A));have b9:=Hd (jaa e4.o ((jam _).trans A));clear A b5 e3 e4;go_wp2_with fail
    refine ja0 [0,1,2,3,4,5,6,7,8,9,10,11,12,13,14] [12,13] Ext (jad (fun b=>(Value.slice a2 n c2).ownBlock=some b)) ExtR ExtT (fun x y z h k=>jad.trans h k) (fun x y h=>h.mono (fun _ _ h=>h.elim)) vY vY vY ?_;iterate 5 refine vD ?_
    refine qDL ⟨bm,om+j * 2,none⟩ (.string y1) rfl (fun w3 E=>jac Tryz.uStr rfl (jaD (by exact b8.o) E NB.o)) ?_;refine vS ?_;iterate 4 refine vD ?_
    refine qDL ⟨bm,om+j * 2+1,none⟩ (.string y2) rfl (fun w3 E=>jac Tryz.uStr rfl (jaD (by exact b9.o) E NB.o)) ?_;refine vS ?_
    refine vD ?_
    refine qDH _ rfl (fun w6 A K hK=>?_);have a9:=Hd (X.o.mono ((jam _).trans A));clear A;go_simp;refine hK _ _ ((jad.refl _ w6).alloc _) ?_;clear hK K;refine qDH _ rfl (fun w7 A K hK=>?_);have b0:=Hd (a9.o.mono (((ExtR w6).alloc _).trans A));have hB:∀ k u,([.string y1,.string y2,.bool false]:List vV)[k]?=some u->w7.cell? ((⟨w6.heap.size,0,none⟩:Addr).add k)=some u:=fun k u hk=>jaa (ja5 (Blk.new w6 (.cells [Value.string y1,.string y2,.bool false].toArray 59)) k u hk) A;refine jjJ Tryz.sChgs b0.o (.tmp 108) (.tmp 120) rfl rfl hB (by intro u hu;simp at hu;rcases hu with rfl | rfl | rfl <;> rfl) rfl rfl (by unfold maxLen;omega) vO (fun v' w8 r1 r2 r3=>hK _ _ r2 ?_);have H:CRow w w8 v' (n+1) (O++[⟨y1,y2,false⟩]):=by unfold CRow;rw[jcJ];exact r1
    have Z:=Hd H;clear hK K A r1 r2 r3 H hB a9 b0
    obtain⟨a4,c4,rfl⟩:=Z.o.sl
    refine vS ?_
    refine vD ?_
    refine jco vY (fun w9 A=>?_);have c0:=Hd (Z.o.mono A);clear A Z;go_wp2_with fail
    go_roundw
    case rel=>exact⟨i,j+1,n+1,_,rfl,by go_num,by omega,by omega,by omega,c0.o,HN.o⟩
    case measure=>exact vJ
  ·have d0:j=m.length:=vO
   by_cases hil:i < l.length
   ·obtain⟨p,hp⟩:∃ p,l[i]?=some p:=⟨_,bA hil⟩
    rcases HV.o with⟨_,_,_,h0⟩ |⟨bl,ol,cl,hh,hb,hc,hcell⟩
    ·rw[h0]at hil;cases hil
    cases hh
    obtain⟨d3,d4⟩:=hcell i p hp
    have Q:=Hd (jaa d3 HR.o.ext);have b4:=Hd (jaa d4 HR.o.ext);have HP:=Hd hp;have b1:(i:Int) < (l.length:Int):=vO
    obtain⟨x1,x2⟩:=p
    simp only at Q b4;clear hcell hb hc hp;have b2:¬(j:Int) < (m.length:Int):=vO
    have eA:((j:Int) ==(m.length:Int))=true:=by simp;omega
    have HN:=Hd (show O++[_]++jaN _ _=jaN l m from by rw[bW,gX, <-jto HP.o d0];exact J.o);clear d0 J;go_wp2_with fail
    refine jak [0,1,2,3,4,5,6,7,8,9,10,11,12,13,14,15,16,17,18,19,20,21,22,23] Ext ExtR ExtT vY vY vY ?_;iterate 5 refine vK ?_
    iterate 17 (refine qKS _ rfl ?_;refine vS ?_)
    iterate 2 refine vK ?_
    refine qKE (fun w5 A=>?_);have X:=Hd (HR.o.mono ((jam _).trans A));have e8:=jaa Q.o ((jam _).trans A);clear A HR Q b4;go_wp2_with (at_builtin;refine ja7 Tryz.sChgs (X.o.mono ((ExtR _).alloc _)) (.tmp 79) (.tmp 86) rfl rfl rfl (ja5 (Blk.new _ _)) (news:=[.string x1,.string ⟨#[]⟩,.bool true]) (by intro u hu;simp at hu;rcases hu with rfl | rfl | rfl <;> rfl) rfl rfl ?c1 ?c2 (fun v' w' r1 r2 r3=>?_))
    case c1=>unfold maxLen;omega
    case c2=>omega
    have H:CRow w w' v' (n+1) (O++[⟨x1,⟨#[]⟩,true⟩]):=by unfold CRow;rw[jcJ];exact r1
    obtain⟨a8,c8,rfl⟩:=H.sl
    have d5:=Hd H;clear r1 r2 r3 H;go_wp2_with fail
    go_roundw
    case rel=>exact⟨i+1,j,n+1,_,by go_num,rfl,by omega,hj,by omega,d5.o,HN.o⟩
    case measure=>exact vJ
   ·have c5:i=l.length:=vO
    have HF:=Hd (show O=R by have h:=J.o;rw[jxu c5 d0,bS, <-e0.o]at h;exact h);have b1:¬(i:Int) < (l.length:Int):=vO
    have b2:¬(j:Int) < (m.length:Int):=vO
    have e5:n=R.length:=by
     have:=HR.o.len
     rw[HF.o]at this;rw[ji4]at this;omega
    have e9:=Hd e5;clear c5 d0 e5 J e0;go_wp2_with fail
    go_ret
    exact⟨_,rfl,by rw[<-e9.o, <-HF.o];exact HR.o⟩
abbrev Chg.k(c:Chg):vN:=c.key.data.toList
def Chg.o(c:Chg):Option vB:=if c.gone then none else some c.value
theorem jg3{k:vN}:∀ {cs:List Chg},(∀ c∈cs,c.k≠k)->∀ o,cs.foldl (jfF k) o=o
 | [],_,_=>rfl
 | c :: r,h,o=>by
  have e:jfF k o c=o:=by unfold jfF;rw[if_neg (fun e=>h c bD e.symm)]
  rw[dO,e,jg3 fun x q=>h x (bC _ q)]
theorem jlF{c:Chg}:∀ {cs:List Chg},c∈cs->(cs.map Chg.k).Nodup->∀ o,cs.foldl (jfF c.k) o=c.o
 | [],h,_,_=>by cases h
 | d :: r,h,hn,o=>by
  rw[bL,dH]at hn;rw[dO];rcases bJ.1 h with rfl | h
  ·rw[jg3 fun x q e=>hn.1 (by rw[<-e];exact iU q)]
   unfold jfF Chg.o;rw[if_pos rfl]
  ·exact jlF h hn.2 _
structure jfM(l m:vL)(cs:List Chg):Prop where
 keys:(cs.map Chg.k).Nodup
 done:∀ c∈cs,look m c.k=c.o
 rest:∀ k,(∀ c∈cs,c.k≠k)->look l k=look m k
 fine:cs.any Chg.bad=false
theorem jfM.looks{l m:vL}{cs:List Chg}(h:jfM l m cs)(k:vN):cs.foldl (jfF k) (look l k)=look m k:=by
 by_cases hk:∃ c∈cs,c.k=k
 ·obtain⟨c,o,rfl⟩:=hk
  rw[jlF o h.keys,h.done c o]
 ·have q:∀ c∈cs,c.k≠k:=fun c o e=>hk ⟨c,o,e⟩
  rw[jg3 q,h.rest k q]
theorem jfM.after{l m:vL}{cs:List Chg}(h:jfM l m cs)(h1:jap l=0)(h2:jap m=0):ja3 l cs=0/\jcB (jc6 l cs)=m:=by
 have e:jcB (jc6 l cs)=m:=by
  refine jgz (jf5 (jhK _ _)) (jau h2).rise fun k=>?_;rw[jjo h1,h.looks]
 refine⟨?_,e⟩
 have o:=congrArg List.length e;rw[jmj]at o
 have:=(jau h2).len
 unfold ja3;rw[if_neg (by rw[h1];simp),if_neg (by rw[h.fine];simp),if_neg vO]
def okL(l:vL):Prop:=(∀ p∈l,okP p)/\jkX l
theorem okL.tail{p:Pair}{l:vL}(h:okL (p :: l)):okL l:=⟨fun q e=>h.1 q (bC _ e),(cW.1 h.2).2⟩
theorem okL.head{p:Pair}{l:vL}(h:okL (p :: l)):okP p:=h.1 p bD
theorem okL.lt{p:Pair}{l:vL}(h:okL (p :: l)):∀ q∈l,Lt p.k q.k:=(cW.1 h.2).1
theorem jpj(l m:vL):∀ c∈jaN l m,c.k∈l.map Pair.k\/c.k∈m.map Pair.k:=by
 fun_induction jaN l m with
 | case1=>intro c e;cases e
 | case2 p l ih =>
  intro c e;rcases bJ.1 e with rfl | e
  ·exact .inl (by simp[Chg.k,Pair.k])
  ·rcases ih c e with h | h
   ·exact .inl (bC _ h)
   ·exact .inr h
 | case3 q m ih =>
  intro c e;rcases bJ.1 e with rfl | e
  ·exact .inr (by simp[Chg.k,Pair.k])
  ·rcases ih c e with h | h
   ·exact .inl h
   ·exact .inr (bC _ h)
 | case4 p l q m h ih =>
  intro c e;rcases bJ.1 e with rfl | e
  ·exact .inl (by simp[Chg.k,Pair.k])
  ·rcases ih c e with h | h
   ·exact .inl (bC _ h)
   ·exact .inr h
 | case5 p l q m h h2 ih =>
  intro c e;rcases bJ.1 e with rfl | e
  ·exact .inr (by simp[Chg.k,Pair.k])
  ·rcases ih c e with h | h
   ·exact .inl h
   ·exact .inr (bC _ h)
 | case6 p l q m h h2 h3 ih =>
  intro c e;rcases ih c e with h | h
  ·exact .inl (bC _ h)
  ·exact .inr (bC _ h)
 | case7 p l q m h h2 h3 ih =>
  intro c e;rcases bJ.1 e with rfl | e
  ·exact .inr (by simp[Chg.k,Pair.k])
  ·rcases ih c e with h | h
   ·exact .inl (bC _ h)
   ·exact .inr (bC _ h)
theorem jpF{k:vN}{m:vL}(h:∀ q∈m,Lt k q.k):look m k=none:=jdb fun o=>by
 obtain⟨q,z,e⟩:=bH.1 o
 exact lt_irrefl _ (e ▸ h q z)
theorem jg2{k:vN}{l m:vL}(h1:∀ q∈l,Lt k q.k)(h2:∀ q∈m,Lt k q.k):∀ c∈jaN l m,Lt k c.k:=fun c z=>by
 rcases jpj l m c z with h | h
 ·obtain⟨q,o,e⟩:=bH.1 h;rw[<-e];exact h1 q o
 ·obtain⟨q,o,e⟩:=bH.1 h;rw[<-e];exact h2 q o
theorem jfM.cons{l m l' m':vL}{c:Chg}{cs:List Chg}(h:jfM l m cs)(hk:∀ d∈cs,Lt c.k d.k)(hc:look m' c.k=c.o)(hb:c.bad=false)
  (hl:∀ k,k≠c.k->look l' k=look l k) (hm:∀ k,k≠c.k->look m' k=look m k):jfM l' m' (c :: cs):=by
 refine⟨?_,?_,?_,?_⟩
 ·rw[bL,dH]
  refine⟨fun z=>?_,h.keys⟩
  obtain⟨d,q,e⟩:=bH.1 z
  exact lt_irrefl _ (e ▸ hk d q)
 ·intro d q
  rcases bJ.1 q with rfl | q
  ·exact hc
  ·rw[hm _ (fun e=>lt_irrefl _ (e ▸ hk d q)),h.done d q]
 ·intro k z
  have A:k≠c.k:=fun e=>z c bD e.symm;rw[hl k A,hm k A,h.rest k fun d q=>z d (bC _ q)]
 ·rw[List.any_cons,hb,h.fine];rfl
theorem jra{p:Pair}(h:okP p):Chg.bad ⟨p.1,⟨#[]⟩,true⟩=false:=by
 unfold Chg.bad;rw[h.1];rfl
theorem jsa{p:Pair}(h:okP p):Chg.bad ⟨p.1,p.2,false⟩=false:=by
 unfold Chg.bad;rw[h.1,h.2];rfl
theorem jeZ(q:Pair)(m:vL):look (q :: m) q.k=some q.2:=by rw[jaT,if_pos rfl]
theorem jcK{q:Pair}{m:vL}{k:vN}(h:k≠q.k):look (q :: m) k=look m k:=by rw[jaT,if_neg h]
theorem jyU:∀ (l m:vL),okL l->okL m->jfM l m (jaN l m):=by
 intro l m
 fun_induction jaN l m with
 | case1=>exact fun _ _=>⟨by simp,by simp,fun _ _=>rfl,rfl⟩
 | case2 p l ih =>
  intro z o;refine (ih z.tail o).cons (jg2 z.lt (by simp)) rfl (jra z.head) (fun k A=>jcK A) (fun _ _=>rfl)
 | case3 q m ih =>
  intro z o;exact (ih z o.tail).cons (jg2 (by simp) o.lt) (jeZ q m) (jsa o.head) (fun _ _=>rfl) (fun k A=>jcK A)
 | case4 p l q m h ih =>
  intro z o;have J:=(jbC _ _).1 h;have O:∀ x∈q :: m,Lt p.k x.k:=fun x E=>by
   rcases bJ.1 E with rfl | E
   ·exact J
   ·exact jdH _ _ _ J (o.lt x E)
  refine (ih z.tail o).cons (jg2 z.lt O) (jpF O) (jra z.head) (fun k A=>jcK A) (fun _ _=>rfl)
 | case5 p l q m h h' ih =>
  intro z o;have J:=(jbC _ _).1 h';have X:∀ x∈p :: l,Lt q.k x.k:=fun x E=>by
   rcases bJ.1 E with rfl | E
   ·exact J
   ·exact jdH _ _ _ J (z.lt x E)
  exact (ih z o.tail).cons (jg2 X o.lt) (jeZ q m) (jsa o.head) (fun _ _=>rfl) (fun k A=>jcK A)
 | case6 p l q m h h' h3 ih =>
  intro z o;have A:p.k=q.k:=by
   rcases jjp p.k q.k with e | e | e
   ·exact absurd ((jbC _ _).2 e) h
   ·exact e
   ·exact absurd ((jbC _ _).2 e) h'
  have Z:p.2=q.2:=by
   rw[bX,bX]at h3
   obtain⟨⟨⟨a⟩⟩,⟨⟨b⟩⟩⟩:=p
   obtain⟨⟨⟨c⟩⟩,⟨⟨d⟩⟩⟩:=q
   simp at h3;simp[h3]
  have:=jgu A Z
  subst this;have K:=ih z.tail o.tail;have H:=jg2 z.lt o.lt
  refine⟨K.keys,fun c Q=>?_,fun k hh=>?_,K.fine⟩
  ·rw[jcK (fun e=>lt_irrefl _ (e ▸ H c Q)),K.done c Q]
  ·by_cases e:k=p.k
   ·rw[e,jeZ,jeZ]
   ·rw[jcK e,jcK e,K.rest k hh]
 | case7 p l q m h h' h3 ih =>
  intro z o;have A:p.k=q.k:=by
   rcases jjp p.k q.k with e | e | e
   ·exact absurd ((jbC _ _).2 e) h
   ·exact e
   ·exact absurd ((jbC _ _).2 e) h'
  have H:=jg2 (fun x E=>A ▸ z.lt x E) o.lt;exact (ih z.tail o.tail).cons H (jeZ q m) (jsa o.head) (fun k e=>jcK (by rw[A];exact e)) (fun k e=>jcK e)
theorem jgc{l:vL}(h:jap l=0):okL l:=⟨jm6 h,(jau h).rise⟩
theorem jdv{l m:vL}(h1:jap l=0)(h2:jap m=0):jfM l m (jbP l m):=by
 unfold jbP;rw[if_pos ⟨h1,h2⟩];exact jyU l m (jgc h1) (jgc h2)
section
attribute [local go_sem] Oper.semAt_some
theorem jor{w:vW}{B:Nat}{T:TypeId}{sz g n cap m:Nat}{xs:List vV}(h:w.ownsRow B T sz (.slice (some ⟨g,0,none⟩) n cap) n xs)(hm:m<=n):w.ownsRow B T sz (.slice (some ⟨g,0,none⟩) m cap) m (xs.take (m * sz)):=by
 obtain⟨A,⟨e,_⟩ |⟨E,z,o,e,H,J,K,O,Q,X⟩⟩:=h
 ·cases e
 ·have q:m * sz<=n * sz:=Nat.mul_le_mul_right _ hm
  obtain⟨Z,_,hc⟩:=fR e
  have hg:g=E:=by have:=bV Z;exact congrArg Addr.block this
  subst hg hc
  refine⟨by rw[fB,A];omega,.inr ⟨g,cap,o,rfl,H,J,bK hm K,O,Q,?_⟩⟩
  rw[<-X,List.take_take,Nat.min_eq_left q]
theorem jdZ(x y:vB):∀ u∈[Value.string x,.string y],u.oneCell'=true:=by
 intro u e;simp at e;rcases e with rfl | rfl <;> rfl
theorem jow(k:vB):jda (jbv k)=true:=by
 unfold jda;rw[jcV,je3];simp
theorem jiq:∀ l:vN,jcL (jcM l)=l
 | []=>rfl
 | b :: l=>by
  have h:(b >>> 4) <<< 4 |||(b &&& 15)=b:=by
   have h:∀ b:Fin 256,((UInt8.ofNat b.1) >>> 4) <<< 4 |||((UInt8.ofNat b.1) &&& 15)=UInt8.ofNat b.1:=by decide +kernel
   have:=h ⟨b.toNat,b.toNat_lt⟩
   simpa only[iH]using this
  show ((b >>> 4) <<< 4 |||(b &&& 15)) :: jcL (jcM l)=_;rw[h,jiq l]
theorem jfu(k:vB):jby (jbv k)=k:=by
 unfold jby jbv;show (⟨(jcL (jcM k.data.toList)).toArray⟩:vB)=k;rw[jiq]
end
def jkW(l:vL):Prop:=l.Pairwise fun p q=>jbH p.1 q.1=true
theorem jkW.tail{p:Pair}{l:vL}(h:jkW (p :: l)):jkW l:=(cW.1 h).2
theorem jkW.o(hi:∀ x,jbH x x=false){p:Pair}{l:vL}(h:jkW (p :: l)):p ∉ l:=fun e=>by
 have:=(cW.1 h).1 p e
 rw[hi]at this;cases this
theorem jqV(hi:∀ x,jbH x x=false)(ht:∀ x y,jbH x y=true->jbH y x=false)(htr:∀ x y z,jbH x y=true->jbH y z=true->jbH x z=true)(heq:∀ x y,jbH x y=false->jbH y x=false->x=y)
  (P:Pair->Bool):∀ (l m:vL),jkW l->jkW m->(∀ p,P p=true->(p∈l↔p∈m))->jaN (l.filter fun p => !P p) (m.filter fun p => !P p)=jaN l m:=by
 intro l m
 fun_induction jaN l m with
 | case1=>intros;simp[jaN]
 | case2 p l ih =>
  intro J K E;have Q:P p=false:=by
   cases e:P p with
   | false=>rfl
   | true=>exact absurd ((E p e).1 bD) (by simp)
  have:=ih J.tail K (fun q X=>⟨fun A=>(E q X).1 (bC _ A),fun A=>by simp at A⟩)
  simp only[dP,Q,Bool.not_false,if_true,List.filter_nil]at this ⊢;rw[jaN,this]
 | case3 q m ih =>
  intro J K E;have X:P q=false:=by
   cases e:P q with
   | false=>rfl
   | true=>exact absurd ((E q e).2 bD) (by simp)
  have:=ih J K.tail (fun p Q=>⟨fun A=>by simp at A,fun A=>(E p Q).2 (bC _ A)⟩)
  simp only[dP,X,Bool.not_false,if_true,List.filter_nil]at this ⊢;rw[jaN,this]
 | case4 p l q m hlt ih =>
  intro J K E;have Q:P p=false:=by
   cases e:P p with
   | false=>rfl
   | true =>
    rcases bJ.1 ((E p e).1 bD)with rfl | A
    ·rw[hi]at hlt;cases hlt
    ·have:=ht _ _ ((cW.1 K).1 p A)
     rw[hlt]at this;cases this
  have O:=ih J.tail K (fun x H=>⟨fun A=>(E x H).1 (bC _ A),fun A=>by
   rcases bJ.1 ((E x H).2 A)with rfl | h
   ·rw[Q]at H;cases H
   ·exact h⟩)
  rw[dP,if_pos (by rw[Q];rfl)];cases A:(q :: m).filter fun p => !P p with
  | nil=>rw[A]at O;rw[jaN,O]
  | cons q' m' =>
   have a0:q'∈q :: m:=(cH.1 (by rw[A];exact bD:q'∈(q :: m).filter fun p => !P p)).1;have hl:jbH p.1 q'.1=true:=by
    rcases bJ.1 a0 with rfl | h
    ·exact hlt
    ·exact htr _ _ _ hlt ((cW.1 K).1 q' h)
   rw[A]at O;rw[jaN,if_pos hl,O]
 | case5 p l q m hlt hgt ih =>
  intro J K E;have X:P q=false:=by
   cases e:P q with
   | false=>rfl
   | true =>
    rcases bJ.1 ((E q e).2 bD)with rfl | A
    ·rw[hi]at hgt;cases hgt
    ·have:=ht _ _ ((cW.1 J).1 q A)
     rw[hgt]at this;cases this
  have O:=ih J K.tail (fun x H=>⟨fun A=>by
   rcases bJ.1 ((E x H).1 A)with rfl | h
   ·rw[X]at H;cases H
   ·exact h,fun A=>(E x H).2 (bC _ A)⟩)
  rw[show (q :: m).filter (fun p => !P p)=q :: m.filter fun p => !P p by rw[dP,if_pos (by rw[X];rfl)]];cases A:(p :: l).filter fun p => !P p with
  | nil=>rw[A]at O;rw[jaN,O]
  | cons p' l' =>
   have a1:p'∈p :: l:=(cH.1 (by rw[A];exact bD:p'∈(p :: l).filter fun p => !P p)).1;have hl:jbH q.1 p'.1=true:=by
    rcases bJ.1 a1 with rfl | h
    ·exact hgt
    ·exact htr _ _ _ hgt ((cW.1 J).1 p' h)
   rw[A]at O;rw[jaN,if_neg (by rw[ht _ _ hl];simp),if_pos hl,O]
 | case6 p l q m hlt hgt hv ih =>
  intro J K E;have hk:p.1=q.1:=heq _ _ (by simpa using hlt) (by simpa using hgt);have a2:p=q:=Prod.ext hk (by
   have h:p.2.toList=q.2.toList:=by simpa using hv
   rw[bX,bX]at h;exact jbW h)
  subst a2;have O:=ih J.tail K.tail (fun x H=>by
   have h:=E x H;constructor
   ·intro A
    rcases bJ.1 (h.1 (bC _ A))with rfl | h3
    ·exact absurd A (J.o hi)
    ·exact h3
   ·intro A
    rcases bJ.1 (h.2 (bC _ A))with rfl | h3
    ·exact absurd A (K.o hi)
    ·exact h3)
  cases e:P p with
  | true=>rw[dP,if_neg (by rw[e];simp),dP,if_neg (by rw[e];simp)];exact O
  | false =>
   rw[dP,if_pos (by rw[e];rfl),dP,if_pos (by rw[e];rfl),jaN,if_neg hlt,if_neg hgt,if_pos hv];exact O
 | case7 p l q m hlt hgt hv ih =>
  intro J K E;have hk:p.1=q.1:=heq _ _ (by simpa using hlt) (by simpa using hgt);have Z:¬ p=q:=fun e=>hv (by rw[e];simp);have Q:P p=false:=by
   cases e:P p with
   | false=>rfl
   | true =>
    rcases bJ.1 ((E p e).1 bD)with h | A
    ·exact absurd h Z
    ·have:=(cW.1 K).1 p A
     rw[<-hk,hi]at this;cases this
  have X:P q=false:=by
   cases e:P q with
   | false=>rfl
   | true =>
    rcases bJ.1 ((E q e).2 bD)with h | A
    ·exact absurd h.symm Z
    ·have:=(cW.1 J).1 q A
     rw[hk,hi]at this;cases this
  have O:=ih J.tail K.tail (fun x H=>by
   have h:=E x H;constructor
   ·intro A
    rcases bJ.1 (h.1 (bC _ A))with rfl | h3
    ·rw[X]at H;cases H
    ·exact h3
   ·intro A
    rcases bJ.1 (h.2 (bC _ A))with rfl | h3
    ·rw[Q]at H;cases H
    ·exact h3)
  rw[dP,if_pos (by rw[Q];rfl),dP,if_pos (by rw[X];rfl),jaN,if_neg hlt,if_neg hgt,if_neg hv,O]
end Go.Proofs.YtmobgkphhbmhbaaGreatDoor
