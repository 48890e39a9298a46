/- Lemmas; each is under no condition but those that it states. -/
import Derived.Test.YtdofbjccfkaijaaGreatDoorPn20
namespace Go.Proofs.YtdofbjccfkaijaaGreatDoor
set_option linter.unusedSimpArgs false
set_option linter.unusedVariables false
set_option maxRecDepth 100000
set_option maxHeartbeats 16000000
open Go Go.RowKit
theorem jm5(m:vL)(k:vN):valM m k=(look m k).getD ⟨#[]⟩:=rfl
theorem jkL(p:Pair)(k:vN):∀ m:vL,look (putM m p) k=if k=p.k then some p.2 else look m k
 | []=>by rw[putM,jaO,jgH]
 | q :: r=>by
  rw[putM]
  by_cases h:p.k=q.k
  ·rw[if_pos h,jaO,jaO]
   by_cases h2:k=p.k
   ·rw[if_pos h2,if_pos h2]
   ·rw[if_neg h2,if_neg h2,if_neg (by rw[<-h];exact h2)]
  ·rw[if_neg h,jaO,jaO,jkL p k r]
   by_cases h2:k=q.k
   ·rw[if_pos h2,if_pos h2,if_neg (by rw[h2];exact fun e=>h e.symm)]
   ·rw[if_neg h2,if_neg h2]
theorem jiM{k:vN}:∀ {m:vL},k∈m.map Pair.k->∃ v,look m k=some v
 | [],h=>by cases h
 | q :: r,h=>by
  rw[jaO]
  by_cases e:k=q.k
  ·exact⟨_,if_pos e⟩
  ·rw[if_neg e]
   rcases bM.1 h with h | h
   ·exact absurd h e
   ·exact jiM h
theorem jpg{k:vN}{v:vB}:∀ {m:vL},look m k=some v->∃ p∈m,p.k=k/\p.2=v
 | [],h=>by cases h
 | q :: r,h=>by
  rw[jaO]at h
  by_cases e:k=q.k
  ·rw[if_pos e]at h
   exact⟨q,bH,e.symm,bS h⟩
  ·rw[if_neg e]at h
   obtain⟨p,o,z⟩:=jpg h
   exact⟨p,bE _ o,z⟩
theorem joF(k:vB):∀ m:vL,(delM m k).map Pair.k=(m.map Pair.k).erase k.data.toList
 | []=>rfl
 | q :: r=>by
  rw[delM,bV,List.erase_cons]
  by_cases h:k.data.toList=q.k
  ·rw[if_pos h,if_pos (by simp[h])]
  ·rw[if_neg h,if_neg (by intro e;exact h (by simpa using (eq_of_beq e).symm)),bV,joF k r]
theorem jpe(key:vB)(k:vN):∀ m:vL,(m.map Pair.k).Nodup->look (delM m key) k=if k=key.data.toList then none else look m k
 | [],_=>by rw[delM,jgH];simp
 | q :: r,hn=>by
  rw[bV,dV]at hn;rw[delM]
  by_cases h:key.data.toList=q.k
  ·rw[if_pos h,jaO]
   by_cases h2:k=key.data.toList
   ·rw[if_pos h2];exact jdj (by rw[h2,h];exact hn.1)
   ·rw[if_neg h2,if_neg (by rw[<-h];exact h2)]
  ·rw[if_neg h,jaO,jaO,jpe key k r hn.2]
   by_cases h2:k=q.k
   ·rw[if_pos h2,if_pos h2,if_neg (by rw[h2];exact fun e=>h e.symm)]
   ·rw[if_neg h2,if_neg h2]
theorem jmC(p:Pair):∀ m:vL,(putM m p).map Pair.k=if p.k∈m.map Pair.k then m.map Pair.k else m.map Pair.k++[p.k]
 | []=>rfl
 | q :: r=>by
  rw[putM]
  by_cases h:p.k=q.k
  ·rw[if_pos h,if_pos (by simp[h])];simp[h]
  ·rw[if_neg h,bV,jmC p r]
   by_cases h2:p.k∈r.map Pair.k
   ·rw[if_pos h2,if_pos (by rw[bV];exact bE _ h2)];rfl
   ·rw[if_neg h2,if_neg (by rw[bV,bM];exact fun e=>e.elim h h2)];rfl
theorem jmD(p:Pair){m:vL}(h:(m.map Pair.k).Nodup):((putM m p).map Pair.k).Nodup:=by
 rw[jmC];split
 ·exact h
 ·rename_i hn
  rw[fD]
  exact⟨h,by simp,fun a o b hb e=>by simp at hb;subst hb;subst e;exact hn o⟩
theorem jr9(k:vB){m:vL}(h:(m.map Pair.k).Nodup):((delM m k).map Pair.k).Nodup:=by
 rw[joF];exact h.erase _
theorem joI(c:Chg){m:vL}(h:(m.map Pair.k).Nodup):((doM m c).map Pair.k).Nodup:=by
 unfold doM;split
 ·exact jr9 _ h
 ·exact jmD _ h
theorem jlU:∀ (cs:List Chg) {m:vL},(m.map Pair.k).Nodup->((cs.foldl doM m).map Pair.k).Nodup
 | [],_,h=>h
 | c :: r,_,h=>jlU r (joI c h)
theorem jhx:∀ (l:vL) {m:vL},(m.map Pair.k).Nodup->((l.foldl putM m).map Pair.k).Nodup
 | [],_,h=>h
 | c :: r,_,h=>jhx r (jmD c h)
theorem jif(l:vL)(cs:List Chg):((jcT l cs).map Pair.k).Nodup:=jlU cs (jhx l (by simp))
def jfg(k:vN)(o:Option vB)(c:Chg):Option vB:=if k=c.key.data.toList then (if c.gone then none else some c.value)else o
theorem jx2(c:Chg)(k:vN){m:vL}(h:(m.map Pair.k).Nodup):look (doM m c) k=jfg k (look m k) c:=by
 unfold doM jfg;cases hg:c.gone with
 | true=>rw[if_pos rfl,jpe _ _ _ h];simp
 | false=>rw[if_neg (by simp),jkL];simp[Pair.k]
theorem jpf(k:vN):∀ (cs:List Chg) {m:vL},(m.map Pair.k).Nodup->look (cs.foldl doM m) k=cs.foldl (jfg k) (look m k)
 | [],_,_=>rfl
 | c :: r,m,h=>by rw[dE,dE,jpf k r (joI c h),jx2 c k h]
theorem jmi(k:vN):∀ (l:vL) (m:vL),(l.map Pair.k).Nodup->look (l.foldl putM m) k=(look l k).or (look m k)
 | [],_,_=>by rw[jgH];simp
 | q :: r,m,h=>by
  rw[bV,dV]at h;rw[dE,jmi k r _ h.2,jkL,jaO]
  by_cases e:k=q.k
  ·rw[if_pos e,if_pos e,jdj (by rw[e];exact h.1)];rfl
  ·rw[if_neg e,if_neg e]
theorem jqK(k:vN)(l:vL)(cs:List Chg)(h:(l.map Pair.k).Nodup):look (jcT l cs) k=cs.foldl (jfg k) (look l k):=by
 unfold jcT;rw[jpf k cs (jhx l (by simp)),jmi k l [] h,jgH];simp
theorem jsQ:∀ (a b:vN),Lt a b↔a < b
 | a,[]=>⟨fun h=>absurd h (not_lt_nil _),fun h=>absurd h (List.not_lt_nil _)⟩
 | [],b :: y=>⟨fun _=>List.nil_lt_cons _ _,fun _=>jpm⟩
 | a :: x,b :: y=>by rw[jbG,List.cons_lt_cons_iff,jsQ x y]
theorem jf1.nodup{l:vL}(h:jf1 l):(l.map Pair.k).Nodup:=by
 unfold List.Nodup;rw[List.pairwise_map];refine h.imp fun {p q} h=>?_;intro e;rw[e]at h;exact lt_irrefl _ h
theorem jhB(ks:List (vN))(k:vN):k∈jdD ks↔k∈ks:=(iM _ _).mem_iff
theorem jof{ks:List (vN)}(h:ks.Nodup):(jdD ks).Pairwise Lt:=by
 have A:∀ a b c:vN,decide (a<=b)=true->decide (b<=c)=true->decide (a<=c)=true:=fun a b c o z=>by simp only[decide_eq_true_eq]at *;exact List.le_trans o z
 have to:∀ a b:vN,(decide (a<=b) || decide (b<=a))=true:=fun a b=>by simp only[Bool.or_eq_true,decide_eq_true_eq];exact List.le_total a b
 have o:(jdD ks).Pairwise (fun x y=>decide (x<=y)=true):=List.pairwise_mergeSort A to ks;have z:(jdD ks).Nodup:=(iM _ _).nodup_iff.2 h;refine (o.and z).imp fun {a b} h=>?_;have E:a<=b:=by simpa using h.1
 rcases jhK a b with e | e | e
 ·exact e
 ·exact absurd e h.2
 ·exact absurd ((jsQ _ _).1 e) (List.not_lt.2 E)
theorem jq7(m:vL):(jcH m).map Pair.k=jdD (m.map Pair.k):=by
 unfold jcH;rw[dJ]
 conv=>rhs;rw[<-List.map_id (jdD (m.map Pair.k))]
 exact dI fun k _=>rfl
theorem jmY(m:vL):(jcH m).length=m.length:=by
 unfold jcH;rw[cC,jfs,cC]
theorem jgl{m:vL}(h:(m.map Pair.k).Nodup):jf1 (jcH m):=by
 have e:=jof h;rw[<-jq7,List.pairwise_map]at e;exact e
theorem jmh(f:vN->vB)(k:vN):∀ ks:List (vN),look (ks.map fun x=>((⟨x.toArray⟩,f x):Pair)) k=if k∈ks then some (f k)else none
 | []=>rfl
 | x :: r=>by
  rw[bV,jaO,jmh f k r];have e:Pair.k ((⟨x.toArray⟩,f x):Pair)=x:=rfl;rw[e]
  by_cases h:k=x
  ·rw[if_pos h,if_pos (by simp[h])];simp[h]
  ·rw[if_neg h]
   by_cases h2:k∈r
   ·rw[if_pos h2,if_pos (bE _ h2)]
   ·rw[if_neg h2,if_neg (by rw[bM];exact fun e=>e.elim h h2)]
theorem jmj(m:vL)(k:vN):look (jcH m) k=look m k:=by
 unfold jcH;rw[jmh]
 by_cases h:k∈m.map Pair.k
 ·rw[if_pos ((jhB _ _).2 h)]
  obtain⟨v,o⟩:=jiM h
  rw[jm5,o];rfl
 ·rw[if_neg (fun e=>h ((jhB _ _).1 e)),jdj h]
def okP(p:Pair):Prop:=jcj p.1=true/\jbS p.2=true
theorem jn2{p x:Pair}:∀ {m:vL},x∈putM m p->x=p\/x∈m
 | [],h=>.inl (by simpa [putM]using h)
 | q :: r,h=>by
  rw[putM]at h;split at h
  ·rcases bM.1 h with h | h
   ·exact .inl h
   ·exact .inr (bE _ h)
  ·rcases bM.1 h with h | h
   ·exact .inr (h ▸ bH)
   ·exact (jn2 h).imp id (bE _)
theorem joE(k:vB):∀ m:vL,(delM m k).Sublist m
 | []=>List.Sublist.refl _
 | x :: r=>by
  unfold delM;split
  ·exact List.sublist_cons_self _ _
  ·exact (joE k r).cons_cons _
theorem jtx:∀ (l:vL) {m:vL},(∀ p∈l,okP p)->(∀ p∈m,okP p)->∀ p∈l.foldl putM m,okP p
 | [],_,_,h=>h
 | q :: r,m,h1,h2=>jtx r (fun p o=>h1 p (bE _ o)) fun p o=>(jn2 o).elim (fun e=>e ▸ h1 q bH) (h2 p)
theorem jwN:∀ (cs:List Chg) {m:vL},cs.any Chg.bad=false->(∀ p∈m,okP p)->∀ p∈cs.foldl doM m,okP p
 | [],_,_,h=>h
 | c :: r,m,h1,h2=>by
  rw[List.any_cons,gT]at h1;refine jwN r h1.2 fun p e=>?_;unfold doM at e;have hb:=h1.1;unfold Chg.bad at hb;cases hg:c.gone with
  | true=>rw[if_pos hg]at e;exact h2 p ((joE _ _).subset e)
  | false =>
   rw[if_neg (by rw[hg];simp)]at e;rcases jn2 e with rfl | e
   ·simp[hg]at hb;exact hb
   ·exact h2 p e
theorem jnU{l:vL}(h:jaw l=0):∀ p∈l,okP p:=fun p e=>by
 obtain⟨o,z,A,E⟩:=(jaA h).size p e
 exact⟨decide_eq_true ⟨o,z⟩,decide_eq_true ⟨A,E⟩⟩
theorem jrC{l:vL}{cs:List Chg}(h:jaw l=0)(hc:cs.any Chg.bad=false):∀ p∈jcT l cs,okP p:=
 jwN cs hc (jtx l (jnU h) (by simp))
theorem jpp{l:vL}(h1:∀ p∈l,okP p)(h2:jf1 l)(h3:l.length<=40):jaw l=0:=by
 unfold jaw;rw[if_neg,if_neg vO];intro h
 obtain⟨i,e,hb⟩:=fO.1 h
 have e:=dW.1 e;have g:∀ j (z:j < l.length),l.getD j (⟨#[]⟩,⟨#[]⟩)=l[j]:=fun j z=>by rw[bG,bA z];rfl
 unfold badN at hb;rw[g i e,(h1 _ (dG e)).1,(h1 _ (dG e)).2]at hb;simp only[iT,Bool.or_self,Bool.false_or,cU,decide_eq_true_eq,iE]at hb;rw[g (i - 1) vO]at hb
 have:=gU.1 h2 (i - 1) i vO e vO
 have o:=hb.2;unfold jbh at o;rw[bO,bO]at o;have A:Op.bytesLess (l[i - 1]).1.data.toList (l[i]).1.data.toList=true:=this;rw[A]at o;cases o
theorem jno{l:vL}{cs:List Chg}(h:jaW l cs=0):jaw l=0/\cs.any Chg.bad=false/\(jcT l cs).length<=40:=by
 unfold jaW at h;split at h
 ·rename_i h1;exact absurd h h1
 rename_i h1
 split at h
 ·cases h
 rename_i h2
 split at h
 ·cases h
 rename_i h3
 exact⟨by simpa using h1,by simpa using h2,by omega⟩
theorem jrp{m:vL}(h:∀ p∈m,okP p):∀ p∈jcH m,okP p:=fun p z=>by
 obtain⟨k,A,rfl⟩:=bJ.1 z
 obtain⟨v,o⟩:=jiM ((jhB _ _).1 A)
 obtain⟨q,E,H,J⟩:=jpg o
 have:=h q E
 rw[jm5,o];have e:((⟨k.toArray⟩,(some v).getD ⟨#[]⟩):Pair)=q:=jgN H.symm J.symm;rw[e];exact this
theorem jbZ{l:vL}{cs:List Chg}(h:jaW l cs=0):jaw (jcH (jcT l cs))=0:=by
 obtain⟨e,o,z⟩:=jno h
 exact jpp (jrp (jrC e o)) (jgl (jif l cs)) (by rw[jmY];exact z)
theorem jqJ{l:vL}(h:jaw l=0)(cs:List Chg)(k:vN):look (jcH (jcT l cs)) k=cs.foldl (jfg k) (look l k):=by
 rw[jmj,jqK k l cs (jf1.nodup (jaA h).rise)]
def jd1(xs:List Chg):List vV:=xs.flatMap fun c=>[.string c.key,.string c.value,.bool c.gone]
theorem jby(xs:List Chg)(c:Chg):jd1 (xs++[c])=jd1 xs++[.string c.key,.string c.value,.bool c.gone]:=by simp[jd1]
theorem jjB(xs:List Chg):(jd1 xs).length=xs.length * 3:=by
 induction xs with
 | nil=>rfl
 | cons x r ih=>unfold jd1 at *;rw[cH,bC,ih];simp;omega
theorem Tryz.infoChg:(Tryz.prog.info? 49).map (fun i=>(i.zero,i.size,i.bytes))=some (some (.agg #[.string ⟨#[]⟩,.string ⟨#[]⟩,.bool false]),3,40):=vY
theorem Tryz.uChgs:Tryz.prog.underlying 23=some (.slice 49):=vY
theorem Tryz.sChgs:jd0 Tryz.prog 23 49 3 40:=jd0.mk' Tryz.uChgs Tryz.infoChg rfl vI
abbrev CRow(w0 w:vW)(v:vV)(n:Nat)(xs:List Chg):Prop:=ORow 49 3 w0 w v n (jd1 xs)
def ja2:vL->vL->List Chg
 | [],[]=>[]
 | p :: l,[]=>⟨p.1,⟨#[]⟩,true⟩ :: ja2 l []
 | [],q :: m=>⟨q.1,q.2,false⟩ :: ja2 [] m
 | p :: l,q :: m =>
  if jbh p.1 q.1=true then ⟨p.1,⟨#[]⟩,true⟩ :: ja2 l (q :: m)
  else if jbh q.1 p.1=true then ⟨q.1,q.2,false⟩ :: ja2 (p :: l) m
  else if (p.2.toList == q.2.toList)=true then ja2 l m else ⟨q.1,q.2,false⟩ :: ja2 l m
termination_by l m=>l.length+m.length
def jcf(l m:vL):List Chg:=if jaw l=0/\jaw m=0 then ja2 l m else []
theorem jc7{α:Type}{l:List α}{i:Nat}{x:α}(h:l[i]?=some x):l.drop i=x :: l.drop (i+1):=by
 obtain⟨o,e⟩:=bP.1 h
 rw[<-e];exact fY o
structure DfR(w:World)(l m:vL)(c:Value)(i j:Nat)(wr:World)(n:Nat)(acc:List Chg):Prop where
 hi:i<=l.length
 hj:j<=m.length
 hn:n<=i+j
 row:CRow w wr c n acc
 eq:acc++ja2 (l.drop i) (m.drop j)=ja2 l m
def jAX(w:vW)(l m:vL)(c vi vj:vV)(wr:vW):Prop:=∃ i j n acc,vi=.int .i64 (i:Nat)/\vj=.int .i64 (j:Nat)/\DfR w l m c i j wr n acc
theorem jzQ{l m:vL}{i j:Nat}(hi:i=l.length)(hj:j=m.length):ja2 (l.drop i) (m.drop j)=[]:=by
 subst hi;subst hj;rw[gH,gH];simp[ja2]
theorem ju3{l m:vL}{i j:Nat}{p:Pair}(hp:l[i]?=some p)(hj:j=m.length):ja2 (l.drop i) (m.drop j)=⟨p.1,⟨#[]⟩,true⟩ :: ja2 (l.drop (i+1)) (m.drop j):=by
 subst hj;rw[gH,jc7 hp];simp[ja2]
theorem jxz{l m:vL}{i j:Nat}{q:Pair}(hq:m[j]?=some q)(hi:i=l.length):ja2 (l.drop i) (m.drop j)=⟨q.1,q.2,false⟩ :: ja2 (l.drop i) (m.drop (j+1)):=by
 subst hi;rw[gH,jc7 hq];simp[ja2]
theorem ju4{l m:vL}{i j:Nat}{p q:Pair}(hp:l[i]?=some p)(hq:m[j]?=some q)(h:jbh p.1 q.1=true):ja2 (l.drop i) (m.drop j)=⟨p.1,⟨#[]⟩,true⟩ :: ja2 (l.drop (i+1)) (m.drop j):=by
 rw[jc7 hp,jc7 hq,ja2,if_pos h]
theorem jxA{l m:vL}{i j:Nat}{p q:Pair}(hp:l[i]?=some p)(hq:m[j]?=some q)(h:jbh p.1 q.1=false)(h2:jbh q.1 p.1=true):ja2 (l.drop i) (m.drop j)=⟨q.1,q.2,false⟩ :: ja2 (l.drop i) (m.drop (j+1)):=by
 rw[jc7 hp,jc7 hq,ja2,if_neg (by rw[h];simp),if_pos h2]
theorem jxB{l m:vL}{i j:Nat}{p q:Pair}(hp:l[i]?=some p)(hq:m[j]?=some q)(h:jbh p.1 q.1=false)(h2:jbh q.1 p.1=false)(h3:(p.2.toList == q.2.toList)=true):ja2 (l.drop i) (m.drop j)=ja2 (l.drop (i+1)) (m.drop (j+1)):=by
 rw[jc7 hp,jc7 hq,ja2,if_neg (by rw[h];simp),if_neg (by rw[h2];simp),if_pos h3]
theorem ju5{l m:vL}{i j:Nat}{p q:Pair}(hp:l[i]?=some p)(hq:m[j]?=some q)(h:jbh p.1 q.1=false)(h2:jbh q.1 p.1=false)(h3:(p.2.toList == q.2.toList)=false):ja2 (l.drop i) (m.drop j)=⟨q.1,q.2,false⟩ :: ja2 (l.drop (i+1)) (m.drop (j+1)):=by
 rw[jc7 hp,jc7 hq,ja2,if_neg (by rw[h];simp),if_neg (by rw[h2];simp),if_neg (by rw[h3];simp)]
theorem jsb(w:vW)(v u:vV)(l m:vL)(hv:RdP w v l)(hu:RdP w u m)(hn1:l.length<=9223372036854775807)(hn2:m.length<=9223372036854775807)(hs1:∀ p∈l,p.1.size<=9223372036854775807/\p.2.size<=9223372036854775807)(hs2:∀ p∈m,p.1.size<=9223372036854775807/\p.2.size<=9223372036854775807) :
  vQ 35 #[v,u] w fun e w'=>∃ u,e=.returned u/\CRow w w' u (jcf l m).length (jcf l m):=by
 have a3:=Hd (jhc w v l hv hn1 hs1);have b3:=Hd (fun w1 (h1:Ext w w1)=>jhc w1 u m (hu.ext h1) hn2 hs2);have HV:=Hd hv;have HU:=Hd hu
 obtain⟨a,c,rfl⟩:=hv.sl
 obtain⟨a',c',d8⟩:=hu.sl
 subst d8;clear hv hu hs1 hs2
 by_cases hck:jaw l=0
 case neg =>
  have HD:=Hd (show jcf l m=[] by unfold jcf;rw[if_neg (fun h=>hck h.1)]);rw[HD.o]
  obtain⟨x,hx⟩:=vE (jaw l)
  rw[<-hx]at hck a3;have e6:(x == 0)=false:=by simpa using hck
  have d9:(x != 0)=true:=by simpa using hck
  clear hck hx HV HU b3 HD;go_enter Tryz.func35,Tryz.ntmps35;go_wp2_with fail
  refine a3.o.mono ?_;rintro e w1 ⟨rfl,hE⟩;have HE:=Hd hE;clear hE a3;go_wp2_with fail
  go_ret
  exact⟨_,rfl,ORow.nil _ _ HE.o⟩
 by_cases hck2:jaw m=0
 case neg =>
  have HD:=Hd (show jcf l m=[] by unfold jcf;rw[if_neg (fun h=>hck2 h.2)]);rw[HD.o];rw[hck]at a3
  obtain⟨x,hx⟩:=vE (jaw m)
  rw[<-hx]at hck2 b3;have e6:(x == 0)=false:=by simpa using hck2
  have d9:(x != 0)=true:=by simpa using hck2
  clear hck hck2 hx HV HU HD;go_enter Tryz.func35,Tryz.ntmps35;go_wp2_with fail
  refine a3.o.mono ?_;rintro e w1 ⟨rfl,hE⟩;have HE:=Hd hE;clear hE a3;go_wp2_with fail
  refine vH (b3.o w1 HE.o) fun w2 hE=>?_;have c6:=Hd (HE.o.trans hE);clear b3 HE;go_wp2_with fail
  go_ret
  exact⟨_,rfl,ORow.nil _ _ c6.o⟩
 have f0:=(jaA hck).len;have f1:=(jaA hck2).len;have HD:=Hd (show jcf l m=ja2 l m by unfold jcf;rw[if_pos ⟨hck,hck2⟩]);rw[HD.o];rw[hck]at a3;rw[hck2]at b3;clear hck hck2 HD hn1 hn2
 obtain⟨R,hR⟩:=vE (ja2 l m)
 rw[<-hR];have e0:=Hd hR;clear hR;go_enter Tryz.func35,Tryz.ntmps35;go_wp2_with fail
 refine a3.o.mono ?_;rintro e w1 ⟨rfl,hE⟩;have HE:=Hd hE;clear hE a3;go_wp2_with fail
 refine vH (b3.o w1 HE.o) fun w2 hE=>?_;have c6:=Hd (HE.o.trans hE);clear b3 HE;go_wp2_with fail
 go_loopw [5,6,7] (fun v i j wr=>jAX w l m v i j wr) (fun _ i j _=>(l.length - (intOf i).toNat)+(m.length - (intOf j).toNat))
 case atStart=>exact⟨0,0,0,[],rfl,rfl,by omega,by omega,by omega,ORow.nil _ _ c6.o,by simp⟩
 case round =>
  obtain⟨i,j,n,O,rfl,rfl,e7⟩:=hrel
  obtain⟨hi,hj,hn,b6,e1⟩:=e7
  obtain⟨a2,c2,rfl⟩:=b6.sl
  have HR:=Hd b6;have J:=Hd e1;clear b6 e1 c6
  by_cases hjm:j < m.length
  ·by_cases hil:i < l.length
   ·obtain⟨q,hq⟩:∃ q,m[j]?=some q:=⟨_,bA hjm⟩
    rcases HU.o with⟨_,_,_,h0⟩ |⟨bm,om,cm,hh,hb,hc,hcell⟩
    ·rw[h0]at hjm;cases hjm
    cases hh
    obtain⟨d1,d2⟩:=hcell j q hq
    have a1:=Hd (jaa d1 HR.o.ext);have a7:=Hd (jaa d2 HR.o.ext);have NB:Hid (¬(Value.slice a2 n c2).ownBlock=some bm):=(fun e=>by have:=HR.o.new bm e;omega);have HQ:=Hd hq;have b2:(j:Int) < (m.length:Int):=vO
    obtain⟨y1,y2⟩:=q
    simp only at a1 a7;clear hcell hb hc hq
    obtain⟨p,hp⟩:∃ p,l[i]?=some p:=⟨_,bA hil⟩
    rcases HV.o with⟨_,_,_,h0⟩ |⟨bl,ol,cl,hh,hb,hc,hcell⟩
    ·rw[h0]at hil;cases hil
    cases hh
    obtain⟨d3,d4⟩:=hcell i p hp
    have Q:=Hd (jaa d3 HR.o.ext);have b4:=Hd (jaa d4 HR.o.ext);have HP:=Hd hp;have b1:(i:Int) < (l.length:Int):=vO
    obtain⟨x1,x2⟩:=p
    simp only at Q b4;clear hcell hb hc hp;have eA:((j:Int) ==(m.length:Int))=false:=by simp;omega
    have eN:((i:Int) ==(l.length:Int))=false:=by simp;omega
    cases hls:jbh x1 y1 with
    | true =>
     have HN:=Hd (show O++[_]++ja2 _ _=ja2 l m from by rw[cD,iG, <-ju4 HP.o HQ.o hls];exact J.o);unfold jbh at hls;clear J;go_wp2_with fail
     refine jag [0,1,2,3,4,5,6,7,8,9,10,11,12,13,14,15,16,17,18,19,20,21,22,23] Ext ExtR ExtT vY vY vY ?_;iterate 14 refine vK ?_
     refine qKL ⟨bl,ol+i * 2,none⟩ (.string x1) rfl (fun w3 E=>jab Tryz.uStr rfl (jaa (by exact Q.o) ((jah _).trans E))) ?_;refine vS ?_;iterate 4 refine vK ?_
     refine qKL ⟨bm,om+j * 2,none⟩ (.string y1) rfl (fun w3 E=>jab Tryz.uStr rfl (jaa (by exact a1.o) ((jah _).trans E))) ?_;refine vS ?_;iterate 4 refine vK ?_
     refine qKE (fun w5 A=>?_);have X:=Hd (HR.o.mono ((jah _).trans A));have e8:=jaa Q.o ((jah _).trans A);clear A HR Q b4 a1 a7;go_wp2_with (at_builtin;refine jaK Tryz.sChgs (X.o.mono ((ExtR _).alloc _)) (.tmp 79) (.tmp 86) rfl rfl rfl (jaI (Blk.new _ _)) (news:=[.string x1,.string ⟨#[]⟩,.bool true]) (by intro u hu;simp at hu;rcases hu with rfl | rfl | rfl <;> rfl) rfl rfl ?c1 ?c2 (fun v' w' r1 r2 r3=>?_))
     case c1=>unfold maxLen;omega
     case c2=>omega
     have H:CRow w w' v' (n+1) (O++[⟨x1,⟨#[]⟩,true⟩]):=by unfold CRow;rw[jby];exact r1
     obtain⟨a8,c8,rfl⟩:=H.sl
     have d5:=Hd H;clear r1 r2 r3 H;go_wp2_with fail
     go_roundw
     case rel=>exact⟨i+1,j,n+1,_,by go_num,rfl,by omega,hj,by omega,d5.o,HN.o⟩
     case measure=>exact vJ
    | false =>
     have d6:=Hd hls;unfold jbh at hls;go_wp2_with fail
     refine jag [0,1,2,3,4,5,6,7,8,9,10,11,12,13,14,15,16,17,18,19,20,21,22,23] Ext ExtR ExtT vY vY vY ?_;iterate 14 refine vK ?_
     refine qKL ⟨bl,ol+i * 2,none⟩ (.string x1) rfl (fun w3 E=>jab Tryz.uStr rfl (jaa (by exact Q.o) ((jah _).trans E))) ?_;refine vS ?_;iterate 4 refine vK ?_
     refine qKL ⟨bm,om+j * 2,none⟩ (.string y1) rfl (fun w3 E=>jab Tryz.uStr rfl (jaa (by exact a1.o) ((jah _).trans E))) ?_;refine vS ?_;iterate 4 refine vK ?_
     refine qKE (fun w5 A=>?_);have b5:=Hd (HR.o.mono ((jah _).trans A));have a5:=Hd (jaa Q.o ((jah _).trans A));have b7:=Hd (jaa b4.o ((jah _).trans A));have a0:=Hd (jaa a1.o ((jah _).trans A));have a6:=Hd (jaa a7.o ((jah _).trans A));clear A HR Q b4 a1 a7 hls;cases hlt2:jbh y1 x1 with
     | true =>
      have HN:=Hd (show O++[_]++ja2 _ _=ja2 l m from by rw[cD,iG, <-jxA HP.o HQ.o d6.o hlt2];exact J.o);unfold jbh at hlt2;clear J;go_wp2_with fail
      refine jag [0,1,2,3,4,5,6,7,8,9,10,11,12,13,14,15,16,17] Ext ExtR ExtT vY vY vY ?_;iterate 9 refine vK ?_
      refine qKL ⟨bm,om+j * 2,none⟩ (.string y1) rfl (fun w3 E=>jab Tryz.uStr rfl (jaa (by exact a0.o) ((jah _).trans E))) ?_;refine vS ?_;iterate 4 refine vK ?_
      refine qKL ⟨bl,ol+i * 2,none⟩ (.string x1) rfl (fun w3 E=>jab Tryz.uStr rfl (jaa (by exact a5.o) ((jah _).trans E))) ?_;refine vS ?_;iterate 3 refine vK ?_
      refine qKE (fun w5 A=>?_);have X:=Hd (b5.o.mono ((jah _).trans A));have b8:=Hd (jaa a0.o ((jah _).trans A));have b9:=Hd (jaa a6.o ((jah _).trans A));clear A b5 a5 b7 a0 a6 hlt2;go_wp2_with fail
      refine jaC [0,1,2,3,4,5,6,7,8,9,10,11,12,13,14] [12,13] Ext (jaf (fun b=>(Value.slice a2 n c2).ownBlock=some b)) ExtR ExtT (fun x y z h k=>jaf.trans h k) (fun x y h=>h.mono (fun _ _ h=>h.elim)) vY vY vY ?_;iterate 5 refine vD ?_
      refine qDL ⟨bm,om+j * 2,none⟩ (.string y1) rfl (fun w3 E=>jab Tryz.uStr rfl (jar (by exact b8.o) E NB.o)) ?_;refine vS ?_;iterate 4 refine vD ?_
      refine qDL ⟨bm,om+j * 2+1,none⟩ (.string y2) rfl (fun w3 E=>jab Tryz.uStr rfl (jar (by exact b9.o) E NB.o)) ?_;refine vS ?_
      refine vD ?_
      refine qDH _ rfl (fun w6 A K hK=>?_);have a9:=Hd (X.o.mono ((jah _).trans A));clear A;go_simp;refine hK _ _ ((jaf.refl _ w6).alloc _) ?_;clear hK K;refine qDH _ rfl (fun w7 A K hK=>?_);have b0:=Hd (a9.o.mono (((ExtR w6).alloc _).trans A));have hB:∀ k u,([.string y1,.string y2,.bool false]:List vV)[k]?=some u->w7.cell? ((⟨w6.heap.size,0,none⟩:Addr).add k)=some u:=fun k u hk=>jaa (jaI (Blk.new w6 (.cells [Value.string y1,.string y2,.bool false].toArray 49)) k u hk) A;refine jfv Tryz.sChgs b0.o (.tmp 108) (.tmp 120) rfl rfl hB (by intro u hu;simp at hu;rcases hu with rfl | rfl | rfl <;> rfl) rfl rfl (by unfold maxLen;omega) vO (fun v' w8 r1 r2 r3=>hK _ _ r2 ?_);have H:CRow w w8 v' (n+1) (O++[⟨y1,y2,false⟩]):=by unfold CRow;rw[jby];exact r1
      have Z:=Hd H;clear hK K A r1 r2 r3 H hB a9 b0
      obtain⟨a4,c4,rfl⟩:=Z.o.sl
      refine vS ?_
      refine vD ?_
      refine qDE (fun w9 A=>?_);have c0:=Hd (Z.o.mono A);clear A Z;go_wp2_with fail
      go_roundw
      case rel=>exact⟨i,j+1,n+1,_,rfl,by go_num,by omega,by omega,by omega,c0.o,HN.o⟩
      case measure=>exact vJ
     | false =>
      have e2:=Hd hlt2;unfold jbh at hlt2;go_wp2_with fail
      refine jag [0,1,2,3,4,5,6,7,8,9,10,11,12,13,14,15,16,17] Ext ExtR ExtT vY vY vY ?_;iterate 9 refine vK ?_
      refine qKL ⟨bm,om+j * 2,none⟩ (.string y1) rfl (fun w3 E=>jab Tryz.uStr rfl (jaa (by exact a0.o) ((jah _).trans E))) ?_;refine vS ?_;iterate 4 refine vK ?_
      refine qKL ⟨bl,ol+i * 2,none⟩ (.string x1) rfl (fun w3 E=>jab Tryz.uStr rfl (jaa (by exact a5.o) ((jah _).trans E))) ?_;refine vS ?_;iterate 3 refine vK ?_
      refine qKE (fun w5 A=>?_);have c7:=Hd (b5.o.mono ((jah _).trans A));have c9:=Hd (jaa b7.o ((jah _).trans A));have d7:=Hd (jaa a0.o ((jah _).trans A));have c3:=Hd (jaa a6.o ((jah _).trans A));clear A b5 a5 b7 a0 a6 hlt2;cases hvv:(x2.toList == y2.toList)with
      | true =>
       have HN:=Hd (show O++ja2 _ _=ja2 l m from by rw[<-jxB HP.o HQ.o d6.o e2.o hvv];exact J.o);clear J;go_wp2_with fail
       refine jag [0,1,2,3,4,5,6,7,8,9,10] Ext ExtR ExtT vY vY vY ?_;iterate 4 refine vK ?_
       refine qKL ⟨bl,ol+i * 2+1,none⟩ (.string x2) rfl (fun w3 E=>jab Tryz.uStr rfl (jaa (by exact c9.o) ((jah _).trans E))) ?_;refine vS ?_;iterate 4 refine vK ?_
       refine qKL ⟨bm,om+j * 2+1,none⟩ (.string y2) rfl (fun w3 E=>jab Tryz.uStr rfl (jaa (by exact c3.o) ((jah _).trans E))) ?_;refine vS ?_
       refine vK ?_
       refine qKE (fun w5 A=>?_);have X:=Hd (c7.o.mono ((jah _).trans A));clear A c7 c9 d7 c3;go_wp2_with fail
       go_roundw
       case rel=>exact⟨i+1,j+1,n,O,by go_num,by go_num,by omega,by omega,by omega,X.o,HN.o⟩
       case measure=>exact vJ
      | false =>
       have HN:=Hd (show O++[_]++ja2 _ _=ja2 l m from by rw[cD,iG, <-ju5 HP.o HQ.o d6.o e2.o hvv];exact J.o);clear J;go_wp2_with fail
       refine jag [0,1,2,3,4,5,6,7,8,9,10] Ext ExtR ExtT vY vY vY ?_;iterate 4 refine vK ?_
       refine qKL ⟨bl,ol+i * 2+1,none⟩ (.string x2) rfl (fun w3 E=>jab Tryz.uStr rfl (jaa (by exact c9.o) ((jah _).trans E))) ?_;refine vS ?_;iterate 4 refine vK ?_
       refine qKL ⟨bm,om+j * 2+1,none⟩ (.string y2) rfl (fun w3 E=>jab Tryz.uStr rfl (jaa (by exact c3.o) ((jah _).trans E))) ?_;refine vS ?_
       refine vK ?_
       refine qKE (fun w5 A=>?_);have X:=Hd (c7.o.mono ((jah _).trans A));have b8:=Hd (jaa d7.o ((jah _).trans A));have b9:=Hd (jaa c3.o ((jah _).trans A));clear A c7 c9 d7 c3;go_wp2_with fail
       refine jaC [0,1,2,3,4,5,6,7,8,9,10,11,12,13,14] [12,13] Ext (jaf (fun b=>(Value.slice a2 n c2).ownBlock=some b)) ExtR ExtT (fun x y z h k=>jaf.trans h k) (fun x y h=>h.mono (fun _ _ h=>h.elim)) vY vY vY ?_;iterate 5 refine vD ?_
       refine qDL ⟨bm,om+j * 2,none⟩ (.string y1) rfl (fun w3 E=>jab Tryz.uStr rfl (jar (by exact b8.o) E NB.o)) ?_;refine vS ?_;iterate 4 refine vD ?_
       refine qDL ⟨bm,om+j * 2+1,none⟩ (.string y2) rfl (fun w3 E=>jab Tryz.uStr rfl (jar (by exact b9.o) E NB.o)) ?_;refine vS ?_
       refine vD ?_
       refine qDH _ rfl (fun w6 A K hK=>?_);have a9:=Hd (X.o.mono ((jah _).trans A));clear A;go_simp;refine hK _ _ ((jaf.refl _ w6).alloc _) ?_;clear hK K;refine qDH _ rfl (fun w7 A K hK=>?_);have b0:=Hd (a9.o.mono (((ExtR w6).alloc _).trans A));have hB:∀ k u,([.string y1,.string y2,.bool false]:List vV)[k]?=some u->w7.cell? ((⟨w6.heap.size,0,none⟩:Addr).add k)=some u:=fun k u hk=>jaa (jaI (Blk.new w6 (.cells [Value.string y1,.string y2,.bool false].toArray 49)) k u hk) A;refine jfv Tryz.sChgs b0.o (.tmp 37) (.tmp 49) rfl rfl hB (by intro u hu;simp at hu;rcases hu with rfl | rfl | rfl <;> rfl) rfl rfl (by unfold maxLen;omega) vO (fun v' w8 r1 r2 r3=>hK _ _ r2 ?_);have H:CRow w w8 v' (n+1) (O++[⟨y1,y2,false⟩]):=by unfold CRow;rw[jby];exact r1
       have Z:=Hd H;clear hK K A r1 r2 r3 H hB a9 b0
       obtain⟨a4,c4,rfl⟩:=Z.o.sl
       refine vS ?_
       refine vD ?_
       refine qDE (fun w9 A=>?_);have c0:=Hd (Z.o.mono A);clear A Z;go_wp2_with fail
       go_roundw
       case rel=>exact⟨i+1,j+1,n+1,_,by go_num,by go_num,by omega,by omega,by omega,c0.o,HN.o⟩
       case measure=>exact vJ
   ·obtain⟨q,hq⟩:∃ q,m[j]?=some q:=⟨_,bA hjm⟩
    rcases HU.o with⟨_,_,_,h0⟩ |⟨bm,om,cm,hh,hb,hc,hcell⟩
    ·rw[h0]at hjm;cases hjm
    cases hh
    obtain⟨d1,d2⟩:=hcell j q hq
    have a1:=Hd (jaa d1 HR.o.ext);have a7:=Hd (jaa d2 HR.o.ext);have NB:Hid (¬(Value.slice a2 n c2).ownBlock=some bm):=(fun e=>by have:=HR.o.new bm e;omega);have HQ:=Hd hq;have b2:(j:Int) < (m.length:Int):=vO
    obtain⟨y1,y2⟩:=q
    simp only at a1 a7;clear hcell hb hc hq;have c5:i=l.length:=vO
    have b1:¬(i:Int) < (l.length:Int):=vO
    have eA:((j:Int) ==(m.length:Int))=false:=by simp;omega
    have eN:((i:Int) ==(l.length:Int))=true:=by simp;omega
    have HN:=Hd (show O++[_]++ja2 _ _=ja2 l m from by rw[cD,iG, <-jxz HQ.o c5];exact J.o);clear c5 J;go_wp2_with fail
    refine jag [0,1,2,3,4,5,6,7,8,9,10,11,12,13,14,15,16,17,18,19,20,21,22,23] Ext ExtR ExtT vY vY vY ?_;iterate 10 refine vK ?_
    iterate 11 (refine qKS _ rfl ?_;refine vS ?_)
    iterate 3 refine vK ?_
    refine qKE (fun w5 A=>?_);have b5:=Hd (HR.o.mono ((jah _).trans A));have e3:=Hd (jaa a1.o ((jah _).trans A));have e4:=Hd (jaa a7.o ((jah _).trans A));clear A HR a1 a7;go_wp2_with fail
    refine jag [0,1,2,3,4,5,6,7,8,9,10,11,12,13,14,15,16,17] Ext ExtR ExtT vY vY vY ?_;iterate 5 refine vK ?_
    iterate 11 (refine qKS _ rfl ?_;refine vS ?_)
    iterate 2 refine vK ?_
    refine qKE (fun w5 A=>?_);have X:=Hd (b5.o.mono ((jah _).trans A));have b8:=Hd (jaa e3.o ((jah _).trans A));have b9:=Hd (jaa e4.o ((jah _).trans A));clear A b5 e3 e4;go_wp2_with fail
    refine jaC [0,1,2,3,4,5,6,7,8,9,10,11,12,13,14] [12,13] Ext (jaf (fun b=>(Value.slice a2 n c2).ownBlock=some b)) ExtR ExtT (fun x y z h k=>jaf.trans h k) (fun x y h=>h.mono (fun _ _ h=>h.elim)) vY vY vY ?_;iterate 5 refine vD ?_
    refine qDL ⟨bm,om+j * 2,none⟩ (.string y1) rfl (fun w3 E=>jab Tryz.uStr rfl (jar (by exact b8.o) E NB.o)) ?_;refine vS ?_;iterate 4 refine vD ?_
    refine qDL ⟨bm,om+j * 2+1,none⟩ (.string y2) rfl (fun w3 E=>jab Tryz.uStr rfl (jar (by exact b9.o) E NB.o)) ?_;refine vS ?_
    refine vD ?_
    refine qDH _ rfl (fun w6 A K hK=>?_);have a9:=Hd (X.o.mono ((jah _).trans A));clear A;go_simp;refine hK _ _ ((jaf.refl _ w6).alloc _) ?_;clear hK K;refine qDH _ rfl (fun w7 A K hK=>?_);have b0:=Hd (a9.o.mono (((ExtR w6).alloc _).trans A));have hB:∀ k u,([.string y1,.string y2,.bool false]:List vV)[k]?=some u->w7.cell? ((⟨w6.heap.size,0,none⟩:Addr).add k)=some u:=fun k u hk=>jaa (jaI (Blk.new w6 (.cells [Value.string y1,.string y2,.bool false].toArray 49)) k u hk) A;refine jfv Tryz.sChgs b0.o (.tmp 108) (.tmp 120) rfl rfl hB (by intro u hu;simp at hu;rcases hu with rfl | rfl | rfl <;> rfl) rfl rfl (by unfold maxLen;omega) vO (fun v' w8 r1 r2 r3=>hK _ _ r2 ?_);have H:CRow w w8 v' (n+1) (O++[⟨y1,y2,false⟩]):=by unfold CRow;rw[jby];exact r1
    have Z:=Hd H;clear hK K A r1 r2 r3 H hB a9 b0
    obtain⟨a4,c4,rfl⟩:=Z.o.sl
    refine vS ?_
    refine vD ?_
    refine qDE (fun w9 A=>?_);have c0:=Hd (Z.o.mono A);clear A Z;go_wp2_with fail
    go_roundw
    case rel=>exact⟨i,j+1,n+1,_,rfl,by go_num,by omega,by omega,by omega,c0.o,HN.o⟩
    case measure=>exact vJ
  ·have d0:j=m.length:=vO
   by_cases hil:i < l.length
   ·obtain⟨p,hp⟩:∃ p,l[i]?=some p:=⟨_,bA hil⟩
    rcases HV.o with⟨_,_,_,h0⟩ |⟨bl,ol,cl,hh,hb,hc,hcell⟩
    ·rw[h0]at hil;cases hil
    cases hh
    obtain⟨d3,d4⟩:=hcell i p hp
    have Q:=Hd (jaa d3 HR.o.ext);have b4:=Hd (jaa d4 HR.o.ext);have HP:=Hd hp;have b1:(i:Int) < (l.length:Int):=vO
    obtain⟨x1,x2⟩:=p
    simp only at Q b4;clear hcell hb hc hp;have b2:¬(j:Int) < (m.length:Int):=vO
    have eA:((j:Int) ==(m.length:Int))=true:=by simp;omega
    have HN:=Hd (show O++[_]++ja2 _ _=ja2 l m from by rw[cD,iG, <-ju3 HP.o d0];exact J.o);clear d0 J;go_wp2_with fail
    refine jag [0,1,2,3,4,5,6,7,8,9,10,11,12,13,14,15,16,17,18,19,20,21,22,23] Ext ExtR ExtT vY vY vY ?_;iterate 5 refine vK ?_
    iterate 17 (refine qKS _ rfl ?_;refine vS ?_)
    iterate 2 refine vK ?_
    refine qKE (fun w5 A=>?_);have X:=Hd (HR.o.mono ((jah _).trans A));have e8:=jaa Q.o ((jah _).trans A);clear A HR Q b4;go_wp2_with (at_builtin;refine jaK Tryz.sChgs (X.o.mono ((ExtR _).alloc _)) (.tmp 79) (.tmp 86) rfl rfl rfl (jaI (Blk.new _ _)) (news:=[.string x1,.string ⟨#[]⟩,.bool true]) (by intro u hu;simp at hu;rcases hu with rfl | rfl | rfl <;> rfl) rfl rfl ?c1 ?c2 (fun v' w' r1 r2 r3=>?_))
    case c1=>unfold maxLen;omega
    case c2=>omega
    have H:CRow w w' v' (n+1) (O++[⟨x1,⟨#[]⟩,true⟩]):=by unfold CRow;rw[jby];exact r1
    obtain⟨a8,c8,rfl⟩:=H.sl
    have d5:=Hd H;clear r1 r2 r3 H;go_wp2_with fail
    go_roundw
    case rel=>exact⟨i+1,j,n+1,_,by go_num,rfl,by omega,hj,by omega,d5.o,HN.o⟩
    case measure=>exact vJ
   ·have c5:i=l.length:=vO
    have HF:=Hd (show O=R by have h:=J.o;rw[jzQ c5 d0,bW, <-e0.o]at h;exact h);have b1:¬(i:Int) < (l.length:Int):=vO
    have b2:¬(j:Int) < (m.length:Int):=vO
    have e5:n=R.length:=by
     have:=HR.o.len
     rw[HF.o]at this;rw[jjB]at this;omega
    have e9:=Hd e5;clear c5 d0 e5 J e0;go_wp2_with fail
    go_ret
    exact⟨_,rfl,by rw[<-e9.o, <-HF.o];exact HR.o⟩
abbrev Chg.k(c:Chg):vN:=c.key.data.toList
def Chg.o(c:Chg):Option vB:=if c.gone then none else some c.value
theorem jhs{k:vN}:∀ {cs:List Chg},(∀ c∈cs,c.k≠k)->∀ o,cs.foldl (jfg k) o=o
 | [],_,_=>rfl
 | c :: r,h,o=>by
  have e:jfg k o c=o:=by unfold jfg;rw[if_neg (fun e=>h c bH e.symm)]
  rw[dE,e,jhs fun x z=>h x (bE _ z)]
theorem jmd{c:Chg}:∀ {cs:List Chg},c∈cs->(cs.map Chg.k).Nodup->∀ o,cs.foldl (jfg c.k) o=c.o
 | [],h,_,_=>by cases h
 | d :: r,h,hn,o=>by
  rw[bV,dV]at hn;rw[dE];rcases bM.1 h with rfl | h
  ·rw[jhs fun x z e=>hn.1 (by rw[<-e];exact jJ z)]
   unfold jfg Chg.o;rw[if_pos rfl]
  ·exact jmd h hn.2 _
structure jls(l m:vL)(cs:List Chg):Prop where
 keys:(cs.map Chg.k).Nodup
 done:∀ c∈cs,look m c.k=c.o
 rest:∀ k,(∀ c∈cs,c.k≠k)->look l k=look m k
 fine:cs.any Chg.bad=false
theorem jls.looks{l m:vL}{cs:List Chg}(h:jls l m cs)(k:vN):cs.foldl (jfg k) (look l k)=look m k:=by
 by_cases hk:∃ c∈cs,c.k=k
 ·obtain⟨c,o,rfl⟩:=hk
  rw[jmd o h.keys,h.done c o]
 ·have z:∀ c∈cs,c.k≠k:=fun c o e=>hk ⟨c,o,e⟩
  rw[jhs z,h.rest k z]
def okL(l:vL):Prop:=(∀ p∈l,okP p)/\jf1 l
theorem okL.tail{p:Pair}{l:vL}(h:okL (p :: l)):okL l:=⟨fun q e=>h.1 q (bE _ e),(cS.1 h.2).2⟩
theorem okL.head{p:Pair}{l:vL}(h:okL (p :: l)):okP p:=h.1 p bH
theorem okL.lt{p:Pair}{l:vL}(h:okL (p :: l)):∀ q∈l,Lt p.k q.k:=(cS.1 h.2).1
theorem jqq(l m:vL):∀ c∈ja2 l m,c.k∈l.map Pair.k\/c.k∈m.map Pair.k:=by
 fun_induction ja2 l m with
 | case1=>intro c e;cases e
 | case2 p l ih =>
  intro c e;rcases bM.1 e with rfl | e
  ·exact .inl (by simp[Chg.k,Pair.k])
  ·rcases ih c e with h | h
   ·exact .inl (bE _ h)
   ·exact .inr h
 | case3 q m ih =>
  intro c e;rcases bM.1 e with rfl | e
  ·exact .inr (by simp[Chg.k,Pair.k])
  ·rcases ih c e with h | h
   ·exact .inl h
   ·exact .inr (bE _ h)
 | case4 p l q m h ih =>
  intro c e;rcases bM.1 e with rfl | e
  ·exact .inl (by simp[Chg.k,Pair.k])
  ·rcases ih c e with h | h
   ·exact .inl (bE _ h)
   ·exact .inr h
 | case5 p l q m h h2 ih =>
  intro c e;rcases bM.1 e with rfl | e
  ·exact .inr (by simp[Chg.k,Pair.k])
  ·rcases ih c e with h | h
   ·exact .inl h
   ·exact .inr (bE _ h)
 | case6 p l q m h h2 h3 ih =>
  intro c e;rcases ih c e with h | h
  ·exact .inl (bE _ h)
  ·exact .inr (bE _ h)
 | case7 p l q m h h2 h3 ih =>
  intro c e;rcases bM.1 e with rfl | e
  ·exact .inr (by simp[Chg.k,Pair.k])
  ·rcases ih c e with h | h
   ·exact .inl (bE _ h)
   ·exact .inr (bE _ h)
theorem jqM{k:vN}{m:vL}(h:∀ q∈m,Lt k q.k):look m k=none:=jdj fun o=>by
 obtain⟨q,z,e⟩:=bJ.1 o
 exact lt_irrefl _ (e ▸ h q z)
theorem jhr{k:vN}{l m:vL}(h1:∀ q∈l,Lt k q.k)(h2:∀ q∈m,Lt k q.k):∀ c∈ja2 l m,Lt k c.k:=fun c z=>by
 rcases jqq l m c z with h | h
 ·obtain⟨q,o,e⟩:=bJ.1 h;rw[<-e];exact h1 q o
 ·obtain⟨q,o,e⟩:=bJ.1 h;rw[<-e];exact h2 q o
theorem jls.cons{l m l' m':vL}{c:Chg}{cs:List Chg}(h:jls l m cs)(hk:∀ d∈cs,Lt c.k d.k)(hc:look m' c.k=c.o)(hb:c.bad=false)
  (hl:∀ k,k≠c.k->look l' k=look l k) (hm:∀ k,k≠c.k->look m' k=look m k):jls l' m' (c :: cs):=by
 refine⟨?_,?_,?_,?_⟩
 ·rw[bV,dV]
  refine⟨fun A=>?_,h.keys⟩
  obtain⟨d,z,e⟩:=bJ.1 A
  exact lt_irrefl _ (e ▸ hk d z)
 ·intro d z
  rcases bM.1 z with rfl | z
  ·exact hc
  ·rw[hm _ (fun e=>lt_irrefl _ (e ▸ hk d z)),h.done d z]
 ·intro k A
  have E:k≠c.k:=fun e=>A c bH e.symm;rw[hl k E,hm k E,h.rest k fun d z=>A d (bE _ z)]
 ·rw[List.any_cons,hb,h.fine];rfl
theorem jsp{p:Pair}(h:okP p):Chg.bad ⟨p.1,⟨#[]⟩,true⟩=false:=by
 unfold Chg.bad;rw[h.1];rfl
theorem jtw{p:Pair}(h:okP p):Chg.bad ⟨p.1,p.2,false⟩=false:=by
 unfold Chg.bad;rw[h.1,h.2];rfl
theorem jfh(q:Pair)(m:vL):look (q :: m) q.k=some q.2:=by rw[jaO,if_pos rfl]
theorem jcW{q:Pair}{m:vL}{k:vN}(h:k≠q.k):look (q :: m) k=look m k:=by rw[jaO,if_neg h]
theorem jBF:∀ (l m:vL),okL l->okL m->jls l m (ja2 l m):=by
 intro l m
 fun_induction ja2 l m with
 | case1=>exact fun _ _=>⟨by simp,by simp,fun _ _=>rfl,rfl⟩
 | case2 p l ih =>
  intro z o;refine (ih z.tail o).cons (jhr z.lt (by simp)) rfl (jsp z.head) (fun k A=>jcW A) (fun _ _=>rfl)
 | case3 q m ih =>
  intro z o;exact (ih z o.tail).cons (jhr (by simp) o.lt) (jfh q m) (jtw o.head) (fun _ _=>rfl) (fun k A=>jcW A)
 | case4 p l q m h ih =>
  intro z o;have J:=(jbm _ _).1 h;have O:∀ x∈q :: m,Lt p.k x.k:=fun x E=>by
   rcases bM.1 E with rfl | E
   ·exact J
   ·exact jdk _ _ _ J (o.lt x E)
  refine (ih z.tail o).cons (jhr z.lt O) (jqM O) (jsp z.head) (fun k A=>jcW A) (fun _ _=>rfl)
 | case5 p l q m h h' ih =>
  intro z o;have J:=(jbm _ _).1 h';have X:∀ x∈p :: l,Lt q.k x.k:=fun x E=>by
   rcases bM.1 E with rfl | E
   ·exact J
   ·exact jdk _ _ _ J (z.lt x E)
  exact (ih z o.tail).cons (jhr X o.lt) (jfh q m) (jtw o.head) (fun _ _=>rfl) (fun k A=>jcW A)
 | case6 p l q m h h' h3 ih =>
  intro z o;have A:p.k=q.k:=by
   rcases jhK p.k q.k with e | e | e
   ·exact absurd ((jbm _ _).2 e) h
   ·exact e
   ·exact absurd ((jbm _ _).2 e) h'
  have Z:p.2=q.2:=by
   rw[bO,bO]at h3
   obtain⟨⟨⟨a⟩⟩,⟨⟨b⟩⟩⟩:=p
   obtain⟨⟨⟨c⟩⟩,⟨⟨d⟩⟩⟩:=q
   simp at h3;simp[h3]
  have:=jgN A Z
  subst this;have K:=ih z.tail o.tail;have H:=jhr z.lt o.lt
  refine⟨K.keys,fun c Q=>?_,fun k hh=>?_,K.fine⟩
  ·rw[jcW (fun e=>lt_irrefl _ (e ▸ H c Q)),K.done c Q]
  ·by_cases e:k=p.k
   ·rw[e,jfh,jfh]
   ·rw[jcW e,jcW e,K.rest k hh]
 | case7 p l q m h h' h3 ih =>
  intro z o;have A:p.k=q.k:=by
   rcases jhK p.k q.k with e | e | e
   ·exact absurd ((jbm _ _).2 e) h
   ·exact e
   ·exact absurd ((jbm _ _).2 e) h'
  have H:=jhr (fun x E=>A ▸ z.lt x E) o.lt;exact (ih z.tail o.tail).cons H (jfh q m) (jtw o.head) (fun k e=>jcW (by rw[A];exact e)) (fun k e=>jcW e)
theorem jgy{l:vL}(h:jaw l=0):okL l:=⟨jnU h,(jaA h).rise⟩
theorem jqr{l m:vL}(h1:jaw l=0)(h2:jaw m=0):jls l m (jcf l m):=by
 unfold jcf;rw[if_pos ⟨h1,h2⟩];exact jBF l m (jgy h1) (jgy h2)
section
attribute [local go_sem] Oper.semAt_some
theorem jps{w:vW}{B:Nat}{T:TypeId}{sz g n cap m:Nat}{xs:List vV}(h:w.ownsRow B T sz (.slice (some ⟨g,0,none⟩) n cap) n xs)(hm:m<=n):w.ownsRow B T sz (.slice (some ⟨g,0,none⟩) m cap) m (xs.take (m * sz)):=by
 obtain⟨E,⟨e,_⟩ |⟨H,A,o,e,J,K,O,Q,X,Z⟩⟩:=h
 ·cases e
 ·have z:m * sz<=n * sz:=Nat.mul_le_mul_right _ hm
  obtain⟨ha,_,hc⟩:=cW e
  have hg:g=H:=by have:=bS ha;exact congrArg Addr.block this
  subst hg hc
  refine⟨by rw[cQ,E];omega,.inr ⟨g,cap,o,rfl,J,K,bK hm O,Q,X,?_⟩⟩
  rw[<-Z,List.take_take,jA z]
theorem jei(x y:vB):∀ u∈[Value.string x,.string y],u.oneCell'=true:=by
 intro u e;simp at e;rcases e with rfl | rfl <;> rfl
theorem jpx(k:vB):jdh (jbu k)=true:=by
 unfold jdh;rw[jex,jgQ];simp
theorem jiU:∀ l:vN,jcz (jcv l)=l
 | []=>rfl
 | b :: l=>by
  have h:(b >>> 4) <<< 4 |||(b &&& 15)=b:=by
   have h:∀ b:Fin 256,((UInt8.ofNat b.1) >>> 4) <<< 4 |||((UInt8.ofNat b.1) &&& 15)=UInt8.ofNat b.1:=by decide +kernel
   have:=h ⟨b.toNat,b.toNat_lt⟩
   simpa only[iQ]using this
  show ((b >>> 4) <<< 4 |||(b &&& 15)) :: jcz (jcv l)=_;rw[h,jiU l]
theorem jfJ(k:vB):jbt (jbu k)=k:=by
 unfold jbt jbu;show (⟨(jcz (jcv k.data.toList)).toArray⟩:vB)=k;rw[jiU]
end
def jlt(l:vL):Prop:=l.Pairwise fun p q=>jbh p.1 q.1=true
theorem jlt.tail{p:Pair}{l:vL}(h:jlt (p :: l)):jlt l:=(cS.1 h).2
theorem jlt.o(hi:∀ x,jbh x x=false){p:Pair}{l:vL}(h:jlt (p :: l)):p ∉ l:=fun e=>by
 have:=(cS.1 h).1 p e
 rw[hi]at this;cases this
theorem jsc(hi:∀ x,jbh x x=false)(ht:∀ x y,jbh x y=true->jbh y x=false)(htr:∀ x y z,jbh x y=true->jbh y z=true->jbh x z=true)(heq:∀ x y,jbh x y=false->jbh y x=false->x=y)
  (P:Pair->Bool):∀ (l m:vL),jlt l->jlt m->(∀ p,P p=true->(p∈l↔p∈m))->ja2 (l.filter fun p => !P p) (m.filter fun p => !P p)=ja2 l m:=by
 intro l m
 fun_induction ja2 l m with
 | case1=>intros;simp[ja2]
 | case2 p l ih =>
  intro J K E;have Q:P p=false:=by
   cases e:P p with
   | false=>rfl
   | true=>exact absurd ((E p e).1 bH) (by simp)
  have:=ih J.tail K (fun q X=>⟨fun A=>(E q X).1 (bE _ A),fun A=>by simp at A⟩)
  simp only[dH,Q,iP,if_true,List.filter_nil]at this ⊢;rw[ja2,this]
 | case3 q m ih =>
  intro J K E;have X:P q=false:=by
   cases e:P q with
   | false=>rfl
   | true=>exact absurd ((E q e).2 bH) (by simp)
  have:=ih J K.tail (fun p Q=>⟨fun A=>by simp at A,fun A=>(E p Q).2 (bE _ A)⟩)
  simp only[dH,X,iP,if_true,List.filter_nil]at this ⊢;rw[ja2,this]
 | case4 p l q m hlt ih =>
  intro J K E;have Q:P p=false:=by
   cases e:P p with
   | false=>rfl
   | true =>
    rcases bM.1 ((E p e).1 bH)with rfl | A
    ·rw[hi]at hlt;cases hlt
    ·have:=ht _ _ ((cS.1 K).1 p A)
     rw[hlt]at this;cases this
  have O:=ih J.tail K (fun x H=>⟨fun A=>(E x H).1 (bE _ A),fun A=>by
   rcases bM.1 ((E x H).2 A)with rfl | h
   ·rw[Q]at H;cases H
   ·exact h⟩)
  rw[dH,if_pos (by rw[Q];rfl)];cases A:(q :: m).filter fun p => !P p with
  | nil=>rw[A]at O;rw[ja2,O]
  | cons q' m' =>
   have a0:q'∈q :: m:=(cM.1 (by rw[A];exact bH:q'∈(q :: m).filter fun p => !P p)).1;have hl:jbh p.1 q'.1=true:=by
    rcases bM.1 a0 with rfl | h
    ·exact hlt
    ·exact htr _ _ _ hlt ((cS.1 K).1 q' h)
   rw[A]at O;rw[ja2,if_pos hl,O]
 | case5 p l q m hlt hgt ih =>
  intro J K E;have X:P q=false:=by
   cases e:P q with
   | false=>rfl
   | true =>
    rcases bM.1 ((E q e).2 bH)with rfl | A
    ·rw[hi]at hgt;cases hgt
    ·have:=ht _ _ ((cS.1 J).1 q A)
     rw[hgt]at this;cases this
  have O:=ih J K.tail (fun x H=>⟨fun A=>by
   rcases bM.1 ((E x H).1 A)with rfl | h
   ·rw[X]at H;cases H
   ·exact h,fun A=>(E x H).2 (bE _ A)⟩)
  rw[show (q :: m).filter (fun p => !P p)=q :: m.filter fun p => !P p by rw[dH,if_pos (by rw[X];rfl)]];cases A:(p :: l).filter fun p => !P p with
  | nil=>rw[A]at O;rw[ja2,O]
  | cons p' l' =>
   have a1:p'∈p :: l:=(cM.1 (by rw[A];exact bH:p'∈(p :: l).filter fun p => !P p)).1;have hl:jbh q.1 p'.1=true:=by
    rcases bM.1 a1 with rfl | h
    ·exact hgt
    ·exact htr _ _ _ hgt ((cS.1 J).1 p' h)
   rw[A]at O;rw[ja2,if_neg (by rw[ht _ _ hl];simp),if_pos hl,O]
 | case6 p l q m hlt hgt hv ih =>
  intro J K E;have hk:p.1=q.1:=heq _ _ (by simpa using hlt) (by simpa using hgt);have a2:p=q:=Prod.ext hk (by
   have h:p.2.toList=q.2.toList:=by simpa using hv
   rw[bO,bO]at h;exact jbC h)
  subst a2;have O:=ih J.tail K.tail (fun x H=>by
   have h:=E x H;constructor
   ·intro A
    rcases bM.1 (h.1 (bE _ A))with rfl | h3
    ·exact absurd A (J.o hi)
    ·exact h3
   ·intro A
    rcases bM.1 (h.2 (bE _ A))with rfl | h3
    ·exact absurd A (K.o hi)
    ·exact h3)
  cases e:P p with
  | true=>rw[dH,if_neg (by rw[e];simp),dH,if_neg (by rw[e];simp)];exact O
  | false =>
   rw[dH,if_pos (by rw[e];rfl),dH,if_pos (by rw[e];rfl),ja2,if_neg hlt,if_neg hgt,if_pos hv];exact O
 | case7 p l q m hlt hgt hv ih =>
  intro J K E;have hk:p.1=q.1:=heq _ _ (by simpa using hlt) (by simpa using hgt);have Z:¬ p=q:=fun e=>hv (by rw[e];simp);have Q:P p=false:=by
   cases e:P p with
   | false=>rfl
   | true =>
    rcases bM.1 ((E p e).1 bH)with h | A
    ·exact absurd h Z
    ·have:=(cS.1 K).1 p A
     rw[<-hk,hi]at this;cases this
  have X:P q=false:=by
   cases e:P q with
   | false=>rfl
   | true =>
    rcases bM.1 ((E q e).2 bH)with h | A
    ·exact absurd h.symm Z
    ·have:=(cS.1 J).1 q A
     rw[hk,hi]at this;cases this
  have O:=ih J.tail K.tail (fun x H=>by
   have h:=E x H;constructor
   ·intro A
    rcases bM.1 (h.1 (bE _ A))with rfl | h3
    ·rw[X]at H;cases H
    ·exact h3
   ·intro A
    rcases bM.1 (h.2 (bE _ A))with rfl | h3
    ·rw[Q]at H;cases H
    ·exact h3)
  rw[dH,if_pos (by rw[Q];rfl),dH,if_pos (by rw[X];rfl),ja2,if_neg hlt,if_neg hgt,if_neg hv,O]
