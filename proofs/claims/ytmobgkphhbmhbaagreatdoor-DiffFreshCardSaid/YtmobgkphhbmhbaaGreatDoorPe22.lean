/- Lemmas; each is under no condition but those that it states. -/
import Derived.Test.YtmobgkphhbmhbaaGreatDoorPe21
namespace Go.Proofs.YtmobgkphhbmhbaaGreatDoor
set_option linter.unusedSimpArgs false
set_option linter.unusedVariables false
set_option maxRecDepth 100000
set_option maxHeartbeats 16000000
open Go Go.RowKit
theorem jmd(m:vL)(k:vN):valM m k=(look m k).getD ⟨#[]⟩:=rfl
theorem jio{k:vN}:∀ {m:vL},k∈m.map Pair.k->∃ v,look m k=some v
 | [],h=>by cases h
 | q :: r,h=>by
  rw[jbc]
  by_cases e:k=q.k
  ·exact⟨_,if_pos e⟩
  ·rw[if_neg e]
   rcases bK.1 h with h | h
   ·exact absurd h e
   ·exact jio h
theorem joa{k:vN}{v:vB}:∀ {m:vL},look m k=some v->∃ p∈m,p.k=k/\p.2=v
 | [],h=>by cases h
 | q :: r,h=>by
  rw[jbc]at h
  by_cases e:k=q.k
  ·rw[if_pos e]at h
   exact⟨q,bF,e.symm,bV h⟩
  ·rw[if_neg e]at h
   obtain⟨p,o,z⟩:=joa h
   exact⟨p,bD _ o,z⟩
theorem jnE(k:vB):∀ m:vL,(delM m k).map Pair.k=(m.map Pair.k).erase k.data.toList
 | []=>rfl
 | q :: r=>by
  rw[delM,bJ,List.erase_cons]
  by_cases h:k.data.toList=q.k
  ·rw[if_pos h,if_pos (by simp[h])]
  ·rw[if_neg h,if_neg (by intro e;exact h (by simpa using (eq_of_beq e).symm)),bJ,jnE k r]
theorem jlW(p:Pair):∀ m:vL,(putM m p).map Pair.k=if p.k∈m.map Pair.k then m.map Pair.k else m.map Pair.k++[p.k]
 | []=>rfl
 | q :: r=>by
  rw[putM]
  by_cases h:p.k=q.k
  ·rw[if_pos h,if_pos (by simp[h])];simp[h]
  ·rw[if_neg h,bJ,jlW p r]
   by_cases h2:p.k∈r.map Pair.k
   ·rw[if_pos h2,if_pos (by rw[bJ];exact bD _ h2)];rfl
   ·rw[if_neg h2,if_neg (by rw[bJ,bK];exact fun e=>e.elim h h2)];rfl
theorem jlX(p:Pair){m:vL}(h:(m.map Pair.k).Nodup):((putM m p).map Pair.k).Nodup:=by
 rw[jlW];split
 ·exact h
 ·rename_i hn
  rw[dO]
  exact⟨h,by simp,fun a o b hb e=>by simp at hb;subst hb;subst e;exact hn o⟩
theorem jqR(k:vB){m:vL}(h:(m.map Pair.k).Nodup):((delM m k).map Pair.k).Nodup:=by
 rw[jnE];exact h.erase _
theorem jtF(c:Chg){m:vL}(h:(m.map Pair.k).Nodup):((doM m c).map Pair.k).Nodup:=by
 unfold doM;split
 ·exact jqR _ h
 ·exact jlX _ h
theorem jlb:∀ (cs:List Chg) {m:vL},(m.map Pair.k).Nodup->((cs.foldl doM m).map Pair.k).Nodup
 | [],_,h=>h
 | c :: r,_,h=>jlb r (jtF c h)
theorem jju:∀ (l:vL) {m:vL},(m.map Pair.k).Nodup->((l.foldl putM m).map Pair.k).Nodup
 | [],_,h=>h
 | c :: r,_,h=>jju r (jlX c h)
theorem jmu(l:vL)(cs:List Chg):((jeK l cs).map Pair.k).Nodup:=jlb cs (jju l (by simp))
def jlt(k:vN)(o:Option vB)(c:Chg):Option vB:=if k=c.key.data.toList then (if c.gone then none else some c.value)else o
theorem jrH:∀ (a b:vN),Lt a b↔a < b
 | a,[]=>⟨fun h=>absurd h (not_lt_nil _),fun h=>absurd h (List.not_lt_nil _)⟩
 | [],b :: y=>⟨fun _=>List.nil_lt_cons _ _,fun _=>joh⟩
 | a :: x,b :: y=>by rw[jbx,List.cons_lt_cons_iff,jrH x y]
theorem jmk.nodup{l:vL}(h:jmk l):(l.map Pair.k).Nodup:=by
 unfold List.Nodup;rw[List.pairwise_map];refine h.imp fun {p q} h=>?_;intro e;rw[e]at h;exact lt_irrefl _ h
theorem jhc(ks:List (vN))(k:vN):k∈jcS ks↔k∈ks:=(gT _ _).mem_iff
theorem jnf{ks:List (vN)}(h:ks.Nodup):(jcS ks).Pairwise Lt:=by
 have z:∀ a b c:vN,decide (a<=b)=true->decide (b<=c)=true->decide (a<=c)=true:=fun a b c o q=>by simp only[decide_eq_true_eq]at *;exact List.le_trans o q
 have to:∀ a b:vN,(decide (a<=b) || decide (b<=a))=true:=fun a b=>by simp only[Bool.or_eq_true,decide_eq_true_eq];exact List.le_total a b
 have o:(jcS ks).Pairwise (fun x y=>decide (x<=y)=true):=List.pairwise_mergeSort z to ks;have q:(jcS ks).Nodup:=(gT _ _).nodup_iff.2 h;refine (o.and q).imp fun {a b} h=>?_;have E:a<=b:=by simpa using h.1
 rcases jjo a b with e | e | e
 ·exact e
 ·exact absurd e h.2
 ·exact absurd ((jrH _ _).1 e) (List.not_lt.2 E)
theorem jpQ(m:vL):(jcR m).map Pair.k=jcS (m.map Pair.k):=by
 unfold jcR;rw[cT]
 conv=>rhs;rw[<-iK (jcS (m.map Pair.k))]
 exact cS fun k _=>rfl
theorem jsI(m:vL):(jcR m).length=m.length:=by
 unfold jcR;rw[bZ,jff,bZ]
theorem jiF{m:vL}(h:(m.map Pair.k).Nodup):jmk (jcR m):=by
 have e:=jnf h;rw[<-jpQ,List.pairwise_map]at e;exact e
theorem jlA(f:vN->vB)(k:vN):∀ ks:List (vN),look (ks.map fun x=>((⟨x.toArray⟩,f x):Pair)) k=if k∈ks then some (f k)else none
 | []=>rfl
 | x :: r=>by
  rw[bJ,jbc,jlA f k r];have e:Pair.k ((⟨x.toArray⟩,f x):Pair)=x:=rfl;rw[e]
  by_cases h:k=x
  ·rw[if_pos h,if_pos (by simp[h])];simp[h]
  ·rw[if_neg h]
   by_cases h2:k∈r
   ·rw[if_pos h2,if_pos (bD _ h2)]
   ·rw[if_neg h2,if_neg (by rw[bK];exact fun e=>e.elim h h2)]
theorem jrD(m:vL)(k:vN):look (jcR m) k=look m k:=by
 unfold jcR;rw[jlA]
 by_cases h:k∈m.map Pair.k
 ·rw[if_pos ((jhc _ _).2 h)]
  obtain⟨v,o⟩:=jio h
  rw[jmd,o];rfl
 ·rw[if_neg (fun e=>h ((jhc _ _).1 e)),jed h]
def okP(p:Pair):Prop:=jdU p.1=true/\jdl p.2=true
theorem jm7{p x:Pair}:∀ {m:vL},x∈putM m p->x=p\/x∈m
 | [],h=>.inl (by simpa [putM]using h)
 | q :: r,h=>by
  rw[putM]at h;split at h
  ·rcases bK.1 h with h | h
   ·exact .inl h
   ·exact .inr (bD _ h)
  ·rcases bK.1 h with h | h
   ·exact .inr (h ▸ bF)
   ·exact (jm7 h).imp id (bD _)
theorem jnC(k:vB):∀ m:vL,(delM m k).Sublist m
 | []=>List.Sublist.refl _
 | x :: r=>by
  unfold delM;split
  ·exact iQ _ _
  ·exact (jnC k r).cons_cons _
theorem jsk:∀ (l:vL) {m:vL},(∀ p∈l,okP p)->(∀ p∈m,okP p)->∀ p∈l.foldl putM m,okP p
 | [],_,_,h=>h
 | q :: r,m,h1,h2=>jsk r (fun p o=>h1 p (bD _ o)) fun p o=>(jm7 o).elim (fun e=>e ▸ h1 q bF) (h2 p)
theorem jva:∀ (cs:List Chg) {m:vL},cs.any Chg.bad=false->(∀ p∈m,okP p)->∀ p∈cs.foldl doM m,okP p
 | [],_,_,h=>h
 | c :: r,m,h1,h2=>by
  rw[List.any_cons,gP]at h1;refine jva r h1.2 fun p e=>?_;unfold doM at e;have hb:=h1.1;unfold Chg.bad at hb;cases hg:c.gone with
  | true=>rw[if_pos hg]at e;exact h2 p ((jnC _ _).subset e)
  | false =>
   rw[if_neg (by rw[hg];simp)]at e;rcases jm7 e with rfl | e
   ·simp[hg]at hb;exact hb
   ·exact h2 p e
theorem jmZ{l:vL}(h:jat l=0):∀ p∈l,okP p:=fun p e=>by
 obtain⟨o,q,z,E⟩:=(jaw h).size p e
 exact⟨decide_eq_true ⟨o,q⟩,decide_eq_true ⟨z,E⟩⟩
theorem jql{l:vL}{cs:List Chg}(h:jat l=0)(hc:cs.any Chg.bad=false):∀ p∈jeK l cs,okP p:=
 jva cs hc (jsk l (jmZ h) (by simp))
theorem jol{l:vL}(h1:∀ p∈l,okP p)(h2:jmk l)(h3:l.length<=40):jat l=0:=by
 unfold jat;rw[if_neg,if_neg vO];intro h
 obtain⟨i,e,hb⟩:=fN.1 h
 have e:=dQ.1 e;have g:∀ j (q:j < l.length),l.getD j (⟨#[]⟩,⟨#[]⟩)=l[j]:=fun j q=>by rw[bH,bA q];rfl
 unfold badN at hb;rw[g i e,(h1 _ (fC e)).1,(h1 _ (fC e)).2]at hb;simp only[Bool.not_true,Bool.or_self,Bool.false_or,cQ,decide_eq_true_eq,gM]at hb;rw[g (i - 1) vO]at hb
 have:=gS.1 h2 (i - 1) i vO e vO
 have o:=hb.2;unfold jbH at o;rw[bW,bW]at o;have z:Op.bytesLess (l[i - 1]).1.data.toList (l[i]).1.data.toList=true:=this;rw[z]at o;cases o
theorem jmv{l:vL}{cs:List Chg}(h:jbf l cs=0):jat l=0/\cs.any Chg.bad=false/\(jeK l cs).length<=40:=by
 unfold jbf at h;split at h
 ·rename_i h1;exact absurd h h1
 rename_i h1
 split at h
 ·cases h
 rename_i h2
 split at h
 ·cases h
 rename_i h3
 exact⟨by simpa using h1,by simpa using h2,by omega⟩
theorem jqa{m:vL}(h:∀ p∈m,okP p):∀ p∈jcR m,okP p:=fun p z=>by
 obtain⟨k,E,rfl⟩:=bC.1 z
 obtain⟨v,o⟩:=jio ((jhc _ _).1 E)
 obtain⟨q,H,J,K⟩:=joa o
 have:=h q H
 rw[jmd,o];have e:((⟨k.toArray⟩,(some v).getD ⟨#[]⟩):Pair)=q:=jgu J.symm K.symm;rw[e];exact this
theorem jdD{l:vL}{cs:List Chg}(h:jbf l cs=0):jat (jcR (jeK l cs))=0:=by
 obtain⟨e,o,q⟩:=jmv h
 exact jol (jqa (jql e o)) (jiF (jmu l cs)) (by rw[jsI];exact q)
theorem jgT(k:vB):∀ l:vL,jiR l k=look l k.data.toList
 | []=>rfl
 | q :: r=>by
  have o:=jgT k r;unfold jiR jj6 at *;rw[jbc,gI]
  by_cases h:k.data.toList=q.k
  ·have:(q.1.toList == k.toList)=true:=by rw[bW,bW];simpa using h.symm
   rw[if_pos h,this];rfl
  ·have:(q.1.toList == k.toList)=false:=by
    rw[bW,bW,gC];intro e;exact h (eq_of_beq e).symm
   rw[if_neg h,this, <-o];cases List.findIdx? (fun p=>p.1.toList == k.toList) r <;> rfl
def jdR(xs:List Chg):List vV:=xs.flatMap fun c=>[.string c.key,.string c.value,.bool c.gone]
theorem jcK(xs:List Chg)(c:Chg):jdR (xs++[c])=jdR xs++[.string c.key,.string c.value,.bool c.gone]:=by simp[jdR]
theorem ji2(xs:List Chg):(jdR xs).length=xs.length * 3:=by
 induction xs with
 | nil=>rfl
 | cons x r ih=>unfold jdR at *;rw[cE,bG,ih];simp;omega
theorem Tryz.infoChg:(Tryz.prog.info? 59).map (fun i=>(i.zero,i.size,i.bytes))=some (some (.agg #[.string ⟨#[]⟩,.string ⟨#[]⟩,.bool false]),3,40):=vY
theorem Tryz.uChgs:Tryz.prog.underlying 23=some (.slice 59):=vY
theorem Tryz.sChgs:jep Tryz.prog 23 59 3 40:=jep.mk' Tryz.uChgs Tryz.infoChg rfl vI
abbrev CRow(w0 w:vW)(v:vV)(n:Nat)(xs:List Chg):Prop:=ORow 59 3 w0 w v n (jdR xs)
def jaW:vL->vL->List Chg
 | [],[]=>[]
 | p :: l,[]=>⟨p.1,⟨#[]⟩,true⟩ :: jaW l []
 | [],q :: m=>⟨q.1,q.2,false⟩ :: jaW [] m
 | p :: l,q :: m =>
  if jbH p.1 q.1=true then ⟨p.1,⟨#[]⟩,true⟩ :: jaW l (q :: m)
  else if jbH q.1 p.1=true then ⟨q.1,q.2,false⟩ :: jaW (p :: l) m
  else if (p.2.toList == q.2.toList)=true then jaW l m else ⟨q.1,q.2,false⟩ :: jaW l m
termination_by l m=>l.length+m.length
def jb3(l m:vL):List Chg:=if jat l=0/\jat m=0 then jaW l m else []
theorem jc3{α:Type}{l:List α}{i:Nat}{x:α}(h:l[i]?=some x):l.drop i=x :: l.drop (i+1):=by
 obtain⟨o,e⟩:=bU.1 h
 rw[<-e];exact iI o
structure DfR(w:World)(l m:vL)(c:Value)(i j:Nat)(wr:World)(n:Nat)(acc:List Chg):Prop where
 hi:i<=l.length
 hj:j<=m.length
 hn:n<=i+j
 row:CRow w wr c n acc
 eq:acc++jaW (l.drop i) (m.drop j)=jaW l m
def jyN(w:vW)(l m:vL)(c vi vj:vV)(wr:vW):Prop:=∃ i j n acc,vi=.int .i64 (i:Nat)/\vj=.int .i64 (j:Nat)/\DfR w l m c i j wr n acc
theorem jxX{l m:vL}{i j:Nat}(hi:i=l.length)(hj:j=m.length):jaW (l.drop i) (m.drop j)=[]:=by
 subst hi;subst hj;rw[iP,iP];simp[jaW]
theorem jtB{l m:vL}{i j:Nat}{p:Pair}(hp:l[i]?=some p)(hj:j=m.length):jaW (l.drop i) (m.drop j)=⟨p.1,⟨#[]⟩,true⟩ :: jaW (l.drop (i+1)) (m.drop j):=by
 subst hj;rw[iP,jc3 hp];simp[jaW]
theorem jvY{l m:vL}{i j:Nat}{q:Pair}(hq:m[j]?=some q)(hi:i=l.length):jaW (l.drop i) (m.drop j)=⟨q.1,q.2,false⟩ :: jaW (l.drop i) (m.drop (j+1)):=by
 subst hi;rw[iP,jc3 hq];simp[jaW]
theorem jtC{l m:vL}{i j:Nat}{p q:Pair}(hp:l[i]?=some p)(hq:m[j]?=some q)(h:jbH p.1 q.1=true):jaW (l.drop i) (m.drop j)=⟨p.1,⟨#[]⟩,true⟩ :: jaW (l.drop (i+1)) (m.drop j):=by
 rw[jc3 hp,jc3 hq,jaW,if_pos h]
theorem jvZ{l m:vL}{i j:Nat}{p q:Pair}(hp:l[i]?=some p)(hq:m[j]?=some q)(h:jbH p.1 q.1=false)(h2:jbH q.1 p.1=true):jaW (l.drop i) (m.drop j)=⟨q.1,q.2,false⟩ :: jaW (l.drop i) (m.drop (j+1)):=by
 rw[jc3 hp,jc3 hq,jaW,if_neg (by rw[h];simp),if_pos h2]
theorem jv0{l m:vL}{i j:Nat}{p q:Pair}(hp:l[i]?=some p)(hq:m[j]?=some q)(h:jbH p.1 q.1=false)(h2:jbH q.1 p.1=false)(h3:(p.2.toList == q.2.toList)=true):jaW (l.drop i) (m.drop j)=jaW (l.drop (i+1)) (m.drop (j+1)):=by
 rw[jc3 hp,jc3 hq,jaW,if_neg (by rw[h];simp),if_neg (by rw[h2];simp),if_pos h3]
theorem jtD{l m:vL}{i j:Nat}{p q:Pair}(hp:l[i]?=some p)(hq:m[j]?=some q)(h:jbH p.1 q.1=false)(h2:jbH q.1 p.1=false)(h3:(p.2.toList == q.2.toList)=false):jaW (l.drop i) (m.drop j)=⟨q.1,q.2,false⟩ :: jaW (l.drop (i+1)) (m.drop (j+1)):=by
 rw[jc3 hp,jc3 hq,jaW,if_neg (by rw[h];simp),if_neg (by rw[h2];simp),if_neg (by rw[h3];simp)]
theorem jqT(w:vW)(v u:vV)(l m:vL)(hv:RdP w v l)(hu:RdP w u m)(hn1:l.length<=9223372036854775807)(hn2:m.length<=9223372036854775807)(hs1:∀ p∈l,p.1.size<=9223372036854775807/\p.2.size<=9223372036854775807)(hs2:∀ p∈m,p.1.size<=9223372036854775807/\p.2.size<=9223372036854775807) :
  vQ 50 #[v,u] w fun e w'=>∃ u,e=.returned u/\CRow w w' u (jb3 l m).length (jb3 l m):=by
 have a5:=Hd (jgP w v l hv hn1 hs1);have b4:=Hd (fun w1 (h1:Ext w w1)=>jgP w1 u m (hu.ext h1) hn2 hs2);have HV:=Hd hv;have HU:=Hd hu
 obtain⟨a,c,rfl⟩:=hv.sl
 obtain⟨a',c',d9⟩:=hu.sl
 subst d9;clear hv hu hs1 hs2
 by_cases hck:jat l=0
 case neg =>
  have HD:=Hd (show jb3 l m=[] by unfold jb3;rw[if_neg (fun h=>hck h.1)]);rw[HD.o]
  obtain⟨x,hx⟩:=vE (jat l)
  rw[<-hx]at hck a5;have e7:(x == 0)=false:=by simpa using hck
  have e0:(x != 0)=true:=by simpa using hck
  clear hck hx HV HU b4 HD;go_enter Tryz.func50,Tryz.ntmps50;go_wp2_with fail
  refine a5.o.mono ?_;rintro e w1 ⟨rfl,hE⟩;have HE:=Hd hE;clear hE a5;go_wp2_with fail
  go_ret
  exact⟨_,rfl,ORow.nil _ _ HE.o⟩
 by_cases hck2:jat m=0
 case neg =>
  have HD:=Hd (show jb3 l m=[] by unfold jb3;rw[if_neg (fun h=>hck2 h.2)]);rw[HD.o];rw[hck]at a5
  obtain⟨x,hx⟩:=vE (jat m)
  rw[<-hx]at hck2 b4;have e7:(x == 0)=false:=by simpa using hck2
  have e0:(x != 0)=true:=by simpa using hck2
  clear hck hck2 hx HV HU HD;go_enter Tryz.func50,Tryz.ntmps50;go_wp2_with fail
  refine a5.o.mono ?_;rintro e w1 ⟨rfl,hE⟩;have HE:=Hd hE;clear hE a5;go_wp2_with fail
  refine vH (b4.o w1 HE.o) fun w2 hE=>?_;have c7:=Hd (HE.o.trans hE);clear b4 HE;go_wp2_with fail
  go_ret
  exact⟨_,rfl,ORow.nil _ _ c7.o⟩
 have f1:=(jaw hck).len;have f2:=(jaw hck2).len;have HD:=Hd (show jb3 l m=jaW l m by unfold jb3;rw[if_pos ⟨hck,hck2⟩]);rw[HD.o];rw[hck]at a5;rw[hck2]at b4;clear hck hck2 HD hn1 hn2
 obtain⟨R,hR⟩:=vE (jaW l m)
 rw[<-hR];have e1:=Hd hR;clear hR;go_enter Tryz.func50,Tryz.ntmps50;go_wp2_with fail
 refine a5.o.mono ?_;rintro e w1 ⟨rfl,hE⟩;have HE:=Hd hE;clear hE a5;go_wp2_with fail
 refine vH (b4.o w1 HE.o) fun w2 hE=>?_;have c7:=Hd (HE.o.trans hE);clear b4 HE;go_wp2_with fail
 go_loopw [5,6,7] (fun v i j wr=>jyN w l m v i j wr) (fun _ i j _=>(l.length - (intOf i).toNat)+(m.length - (intOf j).toNat))
 case atStart=>exact⟨0,0,0,[],rfl,rfl,by omega,by omega,by omega,ORow.nil _ _ c7.o,by simp⟩
 case round =>
  obtain⟨i,j,n,Q,rfl,rfl,e8⟩:=hrel
  obtain⟨hi,hj,hn,b7,e2⟩:=e8
  obtain⟨a2,c2,rfl⟩:=b7.sl
  have HR:=Hd b7;have O:=Hd e2;clear b7 e2 c7
  by_cases hjm:j < m.length
  ·by_cases hil:i < l.length
   ·obtain⟨q,hq⟩:∃ q,m[j]?=some q:=⟨_,bA hjm⟩
    rcases HU.o with⟨_,_,_,h0⟩ |⟨bm,om,cm,hh,hb,hc,hcell⟩
    ·rw[h0]at hjm;cases hjm
    cases hh
    obtain⟨d2,d3⟩:=hcell j q hq
    have a3:=Hd (jaa d2 HR.o.ext);have a9:=Hd (jaa d3 HR.o.ext);have NB:Hid (¬(Value.slice a2 n c2).ownBlock=some bm):=(fun e=>by have:=HR.o.new bm e;omega);have HQ:=Hd hq;have b2:(j:Int) < (m.length:Int):=vO
    obtain⟨y1,y2⟩:=q
    simp only at a3 a9;clear hcell hb hc hq
    obtain⟨p,hp⟩:∃ p,l[i]?=some p:=⟨_,bA hil⟩
    rcases HV.o with⟨_,_,_,h0⟩ |⟨bl,ol,cl,hh,hb,hc,hcell⟩
    ·rw[h0]at hil;cases hil
    cases hh
    obtain⟨d4,d5⟩:=hcell i p hp
    have X:=Hd (jaa d4 HR.o.ext);have b5:=Hd (jaa d5 HR.o.ext);have HP:=Hd hp;have b1:(i:Int) < (l.length:Int):=vO
    obtain⟨x1,x2⟩:=p
    simp only at X b5;clear hcell hb hc hp;have eA:((j:Int) ==(m.length:Int))=false:=by simp;omega
    have eN:((i:Int) ==(l.length:Int))=false:=by simp;omega
    cases hls:jbH x1 y1 with
    | true =>
     have HN:=Hd (show Q++[_]++jaW _ _=jaW l m from by rw[bX,iA, <-jtC HP.o HQ.o hls];exact O.o);unfold jbH at hls;clear O;go_wp2_with fail
     refine jai [0,1,2,3,4,5,6,7,8,9,10,11,12,13,14,15,16,17,18,19,20,21,22,23] Ext ExtR ExtT vY vY vY ?_;iterate 14 refine vK ?_
     refine qKL ⟨bl,ol+i * 2,none⟩ (.string x1) rfl (fun w3 H=>jac Tryz.uStr rfl (jaa (by exact X.o) ((jaj _).trans H))) ?_;refine vS ?_;iterate 4 refine vK ?_
     refine qKL ⟨bm,om+j * 2,none⟩ (.string y1) rfl (fun w3 H=>jac Tryz.uStr rfl (jaa (by exact a3.o) ((jaj _).trans H))) ?_;refine vS ?_;iterate 4 refine vK ?_
     refine qKE (fun w5 E=>?_);have Z:=Hd (HR.o.mono ((jaj _).trans E));have e9:=jaa X.o ((jaj _).trans E);clear E HR X b5 a3 a9;go_wp2_with (at_builtin;refine ja5 Tryz.sChgs (Z.o.mono ((ExtR _).alloc _)) (.tmp 79) (.tmp 86) rfl rfl rfl (ja3 (Blk.new _ _)) (news:=[.string x1,.string ⟨#[]⟩,.bool true]) (by intro u hu;simp at hu;rcases hu with rfl | rfl | rfl <;> rfl) rfl rfl ?c1 ?c2 (fun v' w' r1 r2 r3=>?_))
     case c1=>unfold maxLen;omega
     case c2=>omega
     have J:CRow w w' v' (n+1) (Q++[⟨x1,⟨#[]⟩,true⟩]):=by unfold CRow;rw[jcK];exact r1
     obtain⟨a8,c8,rfl⟩:=J.sl
     have d6:=Hd J;clear r1 r2 r3 J;go_wp2_with fail
     go_roundw
     case rel=>exact⟨i+1,j,n+1,_,by go_num,rfl,by omega,hj,by omega,d6.o,HN.o⟩
     case measure=>exact vJ
    | false =>
     have d7:=Hd hls;unfold jbH at hls;go_wp2_with fail
     refine jai [0,1,2,3,4,5,6,7,8,9,10,11,12,13,14,15,16,17,18,19,20,21,22,23] Ext ExtR ExtT vY vY vY ?_;iterate 14 refine vK ?_
     refine qKL ⟨bl,ol+i * 2,none⟩ (.string x1) rfl (fun w3 H=>jac Tryz.uStr rfl (jaa (by exact X.o) ((jaj _).trans H))) ?_;refine vS ?_;iterate 4 refine vK ?_
     refine qKL ⟨bm,om+j * 2,none⟩ (.string y1) rfl (fun w3 H=>jac Tryz.uStr rfl (jaa (by exact a3.o) ((jaj _).trans H))) ?_;refine vS ?_;iterate 4 refine vK ?_
     refine qKE (fun w5 E=>?_);have b6:=Hd (HR.o.mono ((jaj _).trans E));have a6:=Hd (jaa X.o ((jaj _).trans E));have b8:=Hd (jaa b5.o ((jaj _).trans E));have a0:=Hd (jaa a3.o ((jaj _).trans E));have a7:=Hd (jaa a9.o ((jaj _).trans E));clear E HR X b5 a3 a9 hls;cases hlt2:jbH y1 x1 with
     | true =>
      have HN:=Hd (show Q++[_]++jaW _ _=jaW l m from by rw[bX,iA, <-jvZ HP.o HQ.o d7.o hlt2];exact O.o);unfold jbH at hlt2;clear O;go_wp2_with fail
      refine jai [0,1,2,3,4,5,6,7,8,9,10,11,12,13,14,15,16,17] Ext ExtR ExtT vY vY vY ?_;iterate 9 refine vK ?_
      refine qKL ⟨bm,om+j * 2,none⟩ (.string y1) rfl (fun w3 H=>jac Tryz.uStr rfl (jaa (by exact a0.o) ((jaj _).trans H))) ?_;refine vS ?_;iterate 4 refine vK ?_
      refine qKL ⟨bl,ol+i * 2,none⟩ (.string x1) rfl (fun w3 H=>jac Tryz.uStr rfl (jaa (by exact a6.o) ((jaj _).trans H))) ?_;refine vS ?_;iterate 3 refine vK ?_
      refine qKE (fun w5 E=>?_);have Z:=Hd (b6.o.mono ((jaj _).trans E));have b9:=Hd (jaa a0.o ((jaj _).trans E));have c0:=Hd (jaa a7.o ((jaj _).trans E));clear E b6 a6 b8 a0 a7 hlt2;go_wp2_with fail
      refine ja4 [0,1,2,3,4,5,6,7,8,9,10,11,12,13,14] [12,13] Ext (jad (fun b=>(Value.slice a2 n c2).ownBlock=some b)) ExtR ExtT (fun x y z h k=>jad.trans h k) (fun x y h=>h.mono (fun _ _ h=>h.elim)) vY vY vY ?_;iterate 5 refine vD ?_
      refine qDL ⟨bm,om+j * 2,none⟩ (.string y1) rfl (fun w3 H=>jac Tryz.uStr rfl (jaD (by exact b9.o) H NB.o)) ?_;refine vS ?_;iterate 4 refine vD ?_
      refine qDL ⟨bm,om+j * 2+1,none⟩ (.string y2) rfl (fun w3 H=>jac Tryz.uStr rfl (jaD (by exact c0.o) H NB.o)) ?_;refine vS ?_
      refine vD ?_
      refine qDH _ rfl (fun w6 E K hK=>?_);have b0:=Hd (Z.o.mono ((jaj _).trans E));clear E;go_simp;refine hK _ _ ((jad.refl _ w6).alloc _) ?_;clear hK K;refine qDH _ rfl (fun w7 E K hK=>?_);have b3:=Hd (b0.o.mono (((ExtR w6).alloc _).trans E));have hB:∀ k u,([.string y1,.string y2,.bool false]:List vV)[k]?=some u->w7.cell? ((⟨w6.heap.size,0,none⟩:Addr).add k)=some u:=fun k u hk=>jaa (ja3 (Blk.new w6 (.cells [Value.string y1,.string y2,.bool false].toArray 59)) k u hk) E;refine jjI Tryz.sChgs b3.o (.tmp 108) (.tmp 120) rfl rfl hB (by intro u hu;simp at hu;rcases hu with rfl | rfl | rfl <;> rfl) rfl rfl (by unfold maxLen;omega) vO (fun v' w8 r1 r2 r3=>hK _ _ r2 ?_);have J:CRow w w8 v' (n+1) (Q++[⟨y1,y2,false⟩]):=by unfold CRow;rw[jcK];exact r1
      have a1:=Hd J;clear hK K E r1 r2 r3 J hB b0 b3
      obtain⟨a4,c4,rfl⟩:=a1.o.sl
      refine vS ?_
      refine vD ?_
      refine jck vY (fun w9 E=>?_);have c3:=Hd (a1.o.mono E);clear E a1;go_wp2_with fail
      go_roundw
      case rel=>exact⟨i,j+1,n+1,_,rfl,by go_num,by omega,by omega,by omega,c3.o,HN.o⟩
      case measure=>exact vJ
     | false =>
      have e3:=Hd hlt2;unfold jbH at hlt2;go_wp2_with fail
      refine jai [0,1,2,3,4,5,6,7,8,9,10,11,12,13,14,15,16,17] Ext ExtR ExtT vY vY vY ?_;iterate 9 refine vK ?_
      refine qKL ⟨bm,om+j * 2,none⟩ (.string y1) rfl (fun w3 H=>jac Tryz.uStr rfl (jaa (by exact a0.o) ((jaj _).trans H))) ?_;refine vS ?_;iterate 4 refine vK ?_
      refine qKL ⟨bl,ol+i * 2,none⟩ (.string x1) rfl (fun w3 H=>jac Tryz.uStr rfl (jaa (by exact a6.o) ((jaj _).trans H))) ?_;refine vS ?_;iterate 3 refine vK ?_
      refine qKE (fun w5 E=>?_);have c9:=Hd (b6.o.mono ((jaj _).trans E));have d0:=Hd (jaa b8.o ((jaj _).trans E));have d8:=Hd (jaa a0.o ((jaj _).trans E));have c5:=Hd (jaa a7.o ((jaj _).trans E));clear E b6 a6 b8 a0 a7 hlt2;cases hvv:(x2.toList == y2.toList)with
      | true =>
       have HN:=Hd (show Q++jaW _ _=jaW l m from by rw[<-jv0 HP.o HQ.o d7.o e3.o hvv];exact O.o);clear O;go_wp2_with fail
       refine jai [0,1,2,3,4,5,6,7,8,9,10] Ext ExtR ExtT vY vY vY ?_;iterate 4 refine vK ?_
       refine qKL ⟨bl,ol+i * 2+1,none⟩ (.string x2) rfl (fun w3 H=>jac Tryz.uStr rfl (jaa (by exact d0.o) ((jaj _).trans H))) ?_;refine vS ?_;iterate 4 refine vK ?_
       refine qKL ⟨bm,om+j * 2+1,none⟩ (.string y2) rfl (fun w3 H=>jac Tryz.uStr rfl (jaa (by exact c5.o) ((jaj _).trans H))) ?_;refine vS ?_
       refine vK ?_
       refine qKE (fun w5 E=>?_);have Z:=Hd (c9.o.mono ((jaj _).trans E));clear E c9 d0 d8 c5;go_wp2_with fail
       go_roundw
       case rel=>exact⟨i+1,j+1,n,Q,by go_num,by go_num,by omega,by omega,by omega,Z.o,HN.o⟩
       case measure=>exact vJ
      | false =>
       have HN:=Hd (show Q++[_]++jaW _ _=jaW l m from by rw[bX,iA, <-jtD HP.o HQ.o d7.o e3.o hvv];exact O.o);clear O;go_wp2_with fail
       refine jai [0,1,2,3,4,5,6,7,8,9,10] Ext ExtR ExtT vY vY vY ?_;iterate 4 refine vK ?_
       refine qKL ⟨bl,ol+i * 2+1,none⟩ (.string x2) rfl (fun w3 H=>jac Tryz.uStr rfl (jaa (by exact d0.o) ((jaj _).trans H))) ?_;refine vS ?_;iterate 4 refine vK ?_
       refine qKL ⟨bm,om+j * 2+1,none⟩ (.string y2) rfl (fun w3 H=>jac Tryz.uStr rfl (jaa (by exact c5.o) ((jaj _).trans H))) ?_;refine vS ?_
       refine vK ?_
       refine qKE (fun w5 E=>?_);have Z:=Hd (c9.o.mono ((jaj _).trans E));have b9:=Hd (jaa d8.o ((jaj _).trans E));have c0:=Hd (jaa c5.o ((jaj _).trans E));clear E c9 d0 d8 c5;go_wp2_with fail
       refine ja4 [0,1,2,3,4,5,6,7,8,9,10,11,12,13,14] [12,13] Ext (jad (fun b=>(Value.slice a2 n c2).ownBlock=some b)) ExtR ExtT (fun x y z h k=>jad.trans h k) (fun x y h=>h.mono (fun _ _ h=>h.elim)) vY vY vY ?_;iterate 5 refine vD ?_
       refine qDL ⟨bm,om+j * 2,none⟩ (.string y1) rfl (fun w3 H=>jac Tryz.uStr rfl (jaD (by exact b9.o) H NB.o)) ?_;refine vS ?_;iterate 4 refine vD ?_
       refine qDL ⟨bm,om+j * 2+1,none⟩ (.string y2) rfl (fun w3 H=>jac Tryz.uStr rfl (jaD (by exact c0.o) H NB.o)) ?_;refine vS ?_
       refine vD ?_
       refine qDH _ rfl (fun w6 E K hK=>?_);have b0:=Hd (Z.o.mono ((jaj _).trans E));clear E;go_simp;refine hK _ _ ((jad.refl _ w6).alloc _) ?_;clear hK K;refine qDH _ rfl (fun w7 E K hK=>?_);have b3:=Hd (b0.o.mono (((ExtR w6).alloc _).trans E));have hB:∀ k u,([.string y1,.string y2,.bool false]:List vV)[k]?=some u->w7.cell? ((⟨w6.heap.size,0,none⟩:Addr).add k)=some u:=fun k u hk=>jaa (ja3 (Blk.new w6 (.cells [Value.string y1,.string y2,.bool false].toArray 59)) k u hk) E;refine jjI Tryz.sChgs b3.o (.tmp 37) (.tmp 49) rfl rfl hB (by intro u hu;simp at hu;rcases hu with rfl | rfl | rfl <;> rfl) rfl rfl (by unfold maxLen;omega) vO (fun v' w8 r1 r2 r3=>hK _ _ r2 ?_);have J:CRow w w8 v' (n+1) (Q++[⟨y1,y2,false⟩]):=by unfold CRow;rw[jcK];exact r1
       have a1:=Hd J;clear hK K E r1 r2 r3 J hB b0 b3
       obtain⟨a4,c4,rfl⟩:=a1.o.sl
       refine vS ?_
       refine vD ?_
       refine jck vY (fun w9 E=>?_);have c3:=Hd (a1.o.mono E);clear E a1;go_wp2_with fail
       go_roundw
       case rel=>exact⟨i+1,j+1,n+1,_,by go_num,by go_num,by omega,by omega,by omega,c3.o,HN.o⟩
       case measure=>exact vJ
   ·obtain⟨q,hq⟩:∃ q,m[j]?=some q:=⟨_,bA hjm⟩
    rcases HU.o with⟨_,_,_,h0⟩ |⟨bm,om,cm,hh,hb,hc,hcell⟩
    ·rw[h0]at hjm;cases hjm
    cases hh
    obtain⟨d2,d3⟩:=hcell j q hq
    have a3:=Hd (jaa d2 HR.o.ext);have a9:=Hd (jaa d3 HR.o.ext);have NB:Hid (¬(Value.slice a2 n c2).ownBlock=some bm):=(fun e=>by have:=HR.o.new bm e;omega);have HQ:=Hd hq;have b2:(j:Int) < (m.length:Int):=vO
    obtain⟨y1,y2⟩:=q
    simp only at a3 a9;clear hcell hb hc hq;have c6:i=l.length:=vO
    have b1:¬(i:Int) < (l.length:Int):=vO
    have eA:((j:Int) ==(m.length:Int))=false:=by simp;omega
    have eN:((i:Int) ==(l.length:Int))=true:=by simp;omega
    have HN:=Hd (show Q++[_]++jaW _ _=jaW l m from by rw[bX,iA, <-jvY HQ.o c6];exact O.o);clear c6 O;go_wp2_with fail
    refine jai [0,1,2,3,4,5,6,7,8,9,10,11,12,13,14,15,16,17,18,19,20,21,22,23] Ext ExtR ExtT vY vY vY ?_;iterate 10 refine vK ?_
    iterate 11 (refine qKS _ rfl ?_;refine vS ?_)
    iterate 3 refine vK ?_
    refine qKE (fun w5 E=>?_);have b6:=Hd (HR.o.mono ((jaj _).trans E));have e4:=Hd (jaa a3.o ((jaj _).trans E));have e5:=Hd (jaa a9.o ((jaj _).trans E));clear E HR a3 a9;go_wp2_with fail
    refine jai [0,1,2,3,4,5,6,7,8,9,10,11,12,13,14,15,16,17] Ext ExtR ExtT vY vY vY ?_;iterate 5 refine vK ?_
    iterate 11 (refine qKS _ rfl ?_;refine vS ?_)
    iterate 2 refine vK ?_
    refine qKE (fun w5 E=>?_);have Z:=Hd (b6.o.mono ((jaj _).trans E));have b9:=Hd (jaa e4.o ((jaj _).trans E));have c0:=Hd (jaa e5.o ((jaj _).trans E));clear E b6 e4 e5;go_wp2_with fail
    refine ja4 [0,1,2,3,4,5,6,7,8,9,10,11,12,13,14] [12,13] Ext (jad (fun b=>(Value.slice a2 n c2).ownBlock=some b)) ExtR ExtT (fun x y z h k=>jad.trans h k) (fun x y h=>h.mono (fun _ _ h=>h.elim)) vY vY vY ?_;iterate 5 refine vD ?_
    refine qDL ⟨bm,om+j * 2,none⟩ (.string y1) rfl (fun w3 H=>jac Tryz.uStr rfl (jaD (by exact b9.o) H NB.o)) ?_;refine vS ?_;iterate 4 refine vD ?_
    refine qDL ⟨bm,om+j * 2+1,none⟩ (.string y2) rfl (fun w3 H=>jac Tryz.uStr rfl (jaD (by exact c0.o) H NB.o)) ?_;refine vS ?_
    refine vD ?_
    refine qDH _ rfl (fun w6 E K hK=>?_);have b0:=Hd (Z.o.mono ((jaj _).trans E));clear E;go_simp;refine hK _ _ ((jad.refl _ w6).alloc _) ?_;clear hK K;refine qDH _ rfl (fun w7 E K hK=>?_);have b3:=Hd (b0.o.mono (((ExtR w6).alloc _).trans E));have hB:∀ k u,([.string y1,.string y2,.bool false]:List vV)[k]?=some u->w7.cell? ((⟨w6.heap.size,0,none⟩:Addr).add k)=some u:=fun k u hk=>jaa (ja3 (Blk.new w6 (.cells [Value.string y1,.string y2,.bool false].toArray 59)) k u hk) E;refine jjI Tryz.sChgs b3.o (.tmp 108) (.tmp 120) rfl rfl hB (by intro u hu;simp at hu;rcases hu with rfl | rfl | rfl <;> rfl) rfl rfl (by unfold maxLen;omega) vO (fun v' w8 r1 r2 r3=>hK _ _ r2 ?_);have J:CRow w w8 v' (n+1) (Q++[⟨y1,y2,false⟩]):=by unfold CRow;rw[jcK];exact r1
    have a1:=Hd J;clear hK K E r1 r2 r3 J hB b0 b3
    obtain⟨a4,c4,rfl⟩:=a1.o.sl
    refine vS ?_
    refine vD ?_
    refine jck vY (fun w9 E=>?_);have c3:=Hd (a1.o.mono E);clear E a1;go_wp2_with fail
    go_roundw
    case rel=>exact⟨i,j+1,n+1,_,rfl,by go_num,by omega,by omega,by omega,c3.o,HN.o⟩
    case measure=>exact vJ
  ·have d1:j=m.length:=vO
   by_cases hil:i < l.length
   ·obtain⟨p,hp⟩:∃ p,l[i]?=some p:=⟨_,bA hil⟩
    rcases HV.o with⟨_,_,_,h0⟩ |⟨bl,ol,cl,hh,hb,hc,hcell⟩
    ·rw[h0]at hil;cases hil
    cases hh
    obtain⟨d4,d5⟩:=hcell i p hp
    have X:=Hd (jaa d4 HR.o.ext);have b5:=Hd (jaa d5 HR.o.ext);have HP:=Hd hp;have b1:(i:Int) < (l.length:Int):=vO
    obtain⟨x1,x2⟩:=p
    simp only at X b5;clear hcell hb hc hp;have b2:¬(j:Int) < (m.length:Int):=vO
    have eA:((j:Int) ==(m.length:Int))=true:=by simp;omega
    have HN:=Hd (show Q++[_]++jaW _ _=jaW l m from by rw[bX,iA, <-jtB HP.o d1];exact O.o);clear d1 O;go_wp2_with fail
    refine jai [0,1,2,3,4,5,6,7,8,9,10,11,12,13,14,15,16,17,18,19,20,21,22,23] Ext ExtR ExtT vY vY vY ?_;iterate 5 refine vK ?_
    iterate 17 (refine qKS _ rfl ?_;refine vS ?_)
    iterate 2 refine vK ?_
    refine qKE (fun w5 E=>?_);have Z:=Hd (HR.o.mono ((jaj _).trans E));have e9:=jaa X.o ((jaj _).trans E);clear E HR X b5;go_wp2_with (at_builtin;refine ja5 Tryz.sChgs (Z.o.mono ((ExtR _).alloc _)) (.tmp 79) (.tmp 86) rfl rfl rfl (ja3 (Blk.new _ _)) (news:=[.string x1,.string ⟨#[]⟩,.bool true]) (by intro u hu;simp at hu;rcases hu with rfl | rfl | rfl <;> rfl) rfl rfl ?c1 ?c2 (fun v' w' r1 r2 r3=>?_))
    case c1=>unfold maxLen;omega
    case c2=>omega
    have J:CRow w w' v' (n+1) (Q++[⟨x1,⟨#[]⟩,true⟩]):=by unfold CRow;rw[jcK];exact r1
    obtain⟨a8,c8,rfl⟩:=J.sl
    have d6:=Hd J;clear r1 r2 r3 J;go_wp2_with fail
    go_roundw
    case rel=>exact⟨i+1,j,n+1,_,by go_num,rfl,by omega,hj,by omega,d6.o,HN.o⟩
    case measure=>exact vJ
   ·have c6:i=l.length:=vO
    have HF:=Hd (show Q=R by have h:=O.o;rw[jxX c6 d1,bR, <-e1.o]at h;exact h);have b1:¬(i:Int) < (l.length:Int):=vO
    have b2:¬(j:Int) < (m.length:Int):=vO
    have e6:n=R.length:=by
     have:=HR.o.len
     rw[HF.o]at this;rw[ji2]at this;omega
    have f0:=Hd e6;clear c6 d1 e6 O e1;go_wp2_with fail
    go_ret
    exact⟨_,rfl,by rw[<-f0.o, <-HF.o];exact HR.o⟩
abbrev Chg.k(c:Chg):vN:=c.key.data.toList
def Chg.o(c:Chg):Option vB:=if c.gone then none else some c.value
theorem jg3{k:vN}:∀ {cs:List Chg},(∀ c∈cs,c.k≠k)->∀ o,cs.foldl (jlt k) o=o
 | [],_,_=>rfl
 | c :: r,h,o=>by
  have e:jlt k o c=o:=by unfold jlt;rw[if_neg (fun e=>h c bF e.symm)]
  rw[dZ,e,jg3 fun x q=>h x (bD _ q)]
theorem jlv{c:Chg}:∀ {cs:List Chg},c∈cs->(cs.map Chg.k).Nodup->∀ o,cs.foldl (jlt c.k) o=c.o
 | [],h,_,_=>by cases h
 | d :: r,h,hn,o=>by
  rw[bJ,cZ]at hn;rw[dZ];rcases bK.1 h with rfl | h
  ·rw[jg3 fun x q e=>hn.1 (by rw[<-e];exact jD q)]
   unfold jlt Chg.o;rw[if_pos rfl]
  ·exact jlv h hn.2 _
structure jkM(l m:vL)(cs:List Chg):Prop where
 keys:(cs.map Chg.k).Nodup
 done:∀ c∈cs,look m c.k=c.o
 rest:∀ k,(∀ c∈cs,c.k≠k)->look l k=look m k
 fine:cs.any Chg.bad=false
theorem jkM.looks{l m:vL}{cs:List Chg}(h:jkM l m cs)(k:vN):cs.foldl (jlt k) (look l k)=look m k:=by
 by_cases hk:∃ c∈cs,c.k=k
 ·obtain⟨c,o,rfl⟩:=hk
  rw[jlv o h.keys,h.done c o]
 ·have q:∀ c∈cs,c.k≠k:=fun c o e=>hk ⟨c,o,e⟩
  rw[jg3 q,h.rest k q]
def okL(l:vL):Prop:=(∀ p∈l,okP p)/\jmk l
theorem okL.tail{p:Pair}{l:vL}(h:okL (p :: l)):okL l:=⟨fun q e=>h.1 q (bD _ e),(cY.1 h.2).2⟩
theorem okL.head{p:Pair}{l:vL}(h:okL (p :: l)):okP p:=h.1 p bF
theorem okL.lt{p:Pair}{l:vL}(h:okL (p :: l)):∀ q∈l,Lt p.k q.k:=(cY.1 h.2).1
theorem jpf(l m:vL):∀ c∈jaW l m,c.k∈l.map Pair.k\/c.k∈m.map Pair.k:=by
 fun_induction jaW l m with
 | case1=>intro c e;cases e
 | case2 p l ih =>
  intro c e;rcases bK.1 e with rfl | e
  ·exact .inl (by simp[Chg.k,Pair.k])
  ·rcases ih c e with h | h
   ·exact .inl (bD _ h)
   ·exact .inr h
 | case3 q m ih =>
  intro c e;rcases bK.1 e with rfl | e
  ·exact .inr (by simp[Chg.k,Pair.k])
  ·rcases ih c e with h | h
   ·exact .inl h
   ·exact .inr (bD _ h)
 | case4 p l q m h ih =>
  intro c e;rcases bK.1 e with rfl | e
  ·exact .inl (by simp[Chg.k,Pair.k])
  ·rcases ih c e with h | h
   ·exact .inl (bD _ h)
   ·exact .inr h
 | case5 p l q m h h2 ih =>
  intro c e;rcases bK.1 e with rfl | e
  ·exact .inr (by simp[Chg.k,Pair.k])
  ·rcases ih c e with h | h
   ·exact .inl h
   ·exact .inr (bD _ h)
 | case6 p l q m h h2 h3 ih =>
  intro c e;rcases ih c e with h | h
  ·exact .inl (bD _ h)
  ·exact .inr (bD _ h)
 | case7 p l q m h h2 h3 ih =>
  intro c e;rcases bK.1 e with rfl | e
  ·exact .inr (by simp[Chg.k,Pair.k])
  ·rcases ih c e with h | h
   ·exact .inl (bD _ h)
   ·exact .inr (bD _ h)
theorem jpC{k:vN}{m:vL}(h:∀ q∈m,Lt k q.k):look m k=none:=jed fun o=>by
 obtain⟨q,z,e⟩:=bC.1 o
 exact lt_irrefl _ (e ▸ h q z)
theorem jg2{k:vN}{l m:vL}(h1:∀ q∈l,Lt k q.k)(h2:∀ q∈m,Lt k q.k):∀ c∈jaW l m,Lt k c.k:=fun c z=>by
 rcases jpf l m c z with h | h
 ·obtain⟨q,o,e⟩:=bC.1 h;rw[<-e];exact h1 q o
 ·obtain⟨q,o,e⟩:=bC.1 h;rw[<-e];exact h2 q o
theorem jkM.cons{l m l' m':vL}{c:Chg}{cs:List Chg}(h:jkM l m cs)(hk:∀ d∈cs,Lt c.k d.k)(hc:look m' c.k=c.o)(hb:c.bad=false)
  (hl:∀ k,k≠c.k->look l' k=look l k) (hm:∀ k,k≠c.k->look m' k=look m k):jkM l' m' (c :: cs):=by
 refine⟨?_,?_,?_,?_⟩
 ·rw[bJ,cZ]
  refine⟨fun z=>?_,h.keys⟩
  obtain⟨d,q,e⟩:=bC.1 z
  exact lt_irrefl _ (e ▸ hk d q)
 ·intro d q
  rcases bK.1 q with rfl | q
  ·exact hc
  ·rw[hm _ (fun e=>lt_irrefl _ (e ▸ hk d q)),h.done d q]
 ·intro k z
  have E:k≠c.k:=fun e=>z c bF e.symm;rw[hl k E,hm k E,h.rest k fun d q=>z d (bD _ q)]
 ·rw[List.any_cons,hb,h.fine];rfl
theorem jrb{p:Pair}(h:okP p):Chg.bad ⟨p.1,⟨#[]⟩,true⟩=false:=by
 unfold Chg.bad;rw[h.1];rfl
theorem jsj{p:Pair}(h:okP p):Chg.bad ⟨p.1,p.2,false⟩=false:=by
 unfold Chg.bad;rw[h.1,h.2];rfl
theorem je1(q:Pair)(m:vL):look (q :: m) q.k=some q.2:=by rw[jbc,if_pos rfl]
theorem jcL{q:Pair}{m:vL}{k:vN}(h:k≠q.k):look (q :: m) k=look m k:=by rw[jbc,if_neg h]
theorem jzp:∀ (l m:vL),okL l->okL m->jkM l m (jaW l m):=by
 intro l m
 fun_induction jaW l m with
 | case1=>exact fun _ _=>⟨by simp,by simp,fun _ _=>rfl,rfl⟩
 | case2 p l ih =>
  intro z o;refine (ih z.tail o).cons (jg2 z.lt (by simp)) rfl (jrb z.head) (fun k E=>jcL E) (fun _ _=>rfl)
 | case3 q m ih =>
  intro z o;exact (ih z o.tail).cons (jg2 (by simp) o.lt) (je1 q m) (jsj o.head) (fun _ _=>rfl) (fun k E=>jcL E)
 | case4 p l q m h ih =>
  intro z o;have K:=(jbr _ _).1 h;have Q:∀ x∈q :: m,Lt p.k x.k:=fun x H=>by
   rcases bK.1 H with rfl | H
   ·exact K
   ·exact jdK _ _ _ K (o.lt x H)
  refine (ih z.tail o).cons (jg2 z.lt Q) (jpC Q) (jrb z.head) (fun k E=>jcL E) (fun _ _=>rfl)
 | case5 p l q m h h' ih =>
  intro z o;have K:=(jbr _ _).1 h';have Z:∀ x∈p :: l,Lt q.k x.k:=fun x H=>by
   rcases bK.1 H with rfl | H
   ·exact K
   ·exact jdK _ _ _ K (z.lt x H)
  exact (ih z o.tail).cons (jg2 Z o.lt) (je1 q m) (jsj o.head) (fun _ _=>rfl) (fun k E=>jcL E)
 | case6 p l q m h h' h3 ih =>
  intro z o;have E:p.k=q.k:=by
   rcases jjo p.k q.k with e | e | e
   ·exact absurd ((jbr _ _).2 e) h
   ·exact e
   ·exact absurd ((jbr _ _).2 e) h'
  have hv:p.2=q.2:=by
   rw[bW,bW]at h3
   obtain⟨⟨⟨a⟩⟩,⟨⟨b⟩⟩⟩:=p
   obtain⟨⟨⟨c⟩⟩,⟨⟨d⟩⟩⟩:=q
   simp at h3;simp[h3]
  have:=jgu E hv
  subst this;have O:=ih z.tail o.tail;have J:=jg2 z.lt o.lt
  refine⟨O.keys,fun c X=>?_,fun k hh=>?_,O.fine⟩
  ·rw[jcL (fun e=>lt_irrefl _ (e ▸ J c X)),O.done c X]
  ·by_cases e:k=p.k
   ·rw[e,je1,je1]
   ·rw[jcL e,jcL e,O.rest k hh]
 | case7 p l q m h h' h3 ih =>
  intro z o;have E:p.k=q.k:=by
   rcases jjo p.k q.k with e | e | e
   ·exact absurd ((jbr _ _).2 e) h
   ·exact e
   ·exact absurd ((jbr _ _).2 e) h'
  have J:=jg2 (fun x H=>E ▸ z.lt x H) o.lt;exact (ih z.tail o.tail).cons J (je1 q m) (jsj o.head) (fun k e=>jcL (by rw[E];exact e)) (fun k e=>jcL e)
theorem jgf{l:vL}(h:jat l=0):okL l:=⟨jmZ h,(jaw h).rise⟩
theorem jfp{l m:vL}(h1:jat l=0)(h2:jat m=0):jkM l m (jb3 l m):=by
 unfold jb3;rw[if_pos ⟨h1,h2⟩];exact jzp l m (jgf h1) (jgf h2)
theorem ji8:∀ l:vL,jaW l l=[]
 | []=>by rw[jaW]
 | p :: l=>by
  rw[jaW,if_neg,if_neg,if_pos (by simp),ji8 l]
  ·intro h;exact lt_irrefl _ ((jbr _ _).1 h)
  ·intro h;exact lt_irrefl _ ((jbr _ _).1 h)
theorem jpg(l:vL):jb3 l l=[]:=by unfold jb3;split;exact ji8 l;rfl
section
attribute [local go_sem] Oper.semAt_some
theorem jom{w:vW}{B:Nat}{T:TypeId}{sz g n cap m:Nat}{xs:List vV}(h:w.ownsRow B T sz (.slice (some ⟨g,0,none⟩) n cap) n xs)(hm:m<=n):w.ownsRow B T sz (.slice (some ⟨g,0,none⟩) m cap) m (xs.take (m * sz)):=by
 obtain⟨E,⟨e,_⟩ |⟨H,z,o,e,J,K,O,Q,X,Z⟩⟩:=h
 ·cases e
 ·have q:m * sz<=n * sz:=Nat.mul_le_mul_right _ hm
  obtain⟨ha,_,hc⟩:=dY e
  have hg:g=H:=by have:=bV ha;exact congrArg Addr.block this
  subst hg hc
  refine⟨by rw[dS,E];omega,.inr ⟨g,cap,o,rfl,J,K,bL hm O,Q,X,?_⟩⟩
  rw[<-Z,List.take_take,iU q]
theorem jd2(x y:vB):∀ u∈[Value.string x,.string y],u.oneCell'=true:=by
 intro u e;simp at e;rcases e with rfl | rfl <;> rfl
theorem jor(k:vB):jdc (jbA k)=true:=by
 unfold jdc;rw[jei,jgw];simp
theorem jir:∀ l:vN,jcM (jcN l)=l
 | []=>rfl
 | b :: l=>by
  have h:(b >>> 4) <<< 4 |||(b &&& 15)=b:=by
   have h:∀ b:Fin 256,((UInt8.ofNat b.1) >>> 4) <<< 4 |||((UInt8.ofNat b.1) &&& 15)=UInt8.ofNat b.1:=by decide +kernel
   have:=h ⟨b.toNat,b.toNat_lt⟩
   simpa only[iJ]using this
  show ((b >>> 4) <<< 4 |||(b &&& 15)) :: jcM (jcN l)=_;rw[h,jir l]
theorem jfv(k:vB):jbz (jbA k)=k:=by
 unfold jbz jbA;show (⟨(jcM (jcN k.data.toList)).toArray⟩:vB)=k;rw[jir]
end
def jkN(l:vL):Prop:=l.Pairwise fun p q=>jbH p.1 q.1=true
theorem jkN.tail{p:Pair}{l:vL}(h:jkN (p :: l)):jkN l:=(cY.1 h).2
theorem jkN.o(hi:∀ x,jbH x x=false){p:Pair}{l:vL}(h:jkN (p :: l)):p ∉ l:=fun e=>by
 have:=(cY.1 h).1 p e
 rw[hi]at this;cases this
theorem jqU(hi:∀ x,jbH x x=false)(ht:∀ x y,jbH x y=true->jbH y x=false)(htr:∀ x y z,jbH x y=true->jbH y z=true->jbH x z=true)(heq:∀ x y,jbH x y=false->jbH y x=false->x=y)
  (P:Pair->Bool):∀ (l m:vL),jkN l->jkN m->(∀ p,P p=true->(p∈l↔p∈m))->jaW (l.filter fun p => !P p) (m.filter fun p => !P p)=jaW l m:=by
 intro l m
 fun_induction jaW l m with
 | case1=>intros;simp[jaW]
 | case2 p l ih =>
  intro K O H;have X:P p=false:=by
   cases e:P p with
   | false=>rfl
   | true=>exact absurd ((H p e).1 bF) (by simp)
  have:=ih K.tail O (fun q Z=>⟨fun E=>(H q Z).1 (bD _ E),fun E=>by simp at E⟩)
  simp only[dN,X,Bool.not_false,if_true,List.filter_nil]at this ⊢;rw[jaW,this]
 | case3 q m ih =>
  intro K O H;have Z:P q=false:=by
   cases e:P q with
   | false=>rfl
   | true=>exact absurd ((H q e).2 bF) (by simp)
  have:=ih K O.tail (fun p X=>⟨fun E=>by simp at E,fun E=>(H p X).2 (bD _ E)⟩)
  simp only[dN,Z,Bool.not_false,if_true,List.filter_nil]at this ⊢;rw[jaW,this]
 | case4 p l q m hlt ih =>
  intro K O H;have X:P p=false:=by
   cases e:P p with
   | false=>rfl
   | true =>
    rcases bK.1 ((H p e).1 bF)with rfl | E
    ·rw[hi]at hlt;cases hlt
    ·have:=ht _ _ ((cY.1 O).1 p E)
     rw[hlt]at this;cases this
  have Q:=ih K.tail O (fun x J=>⟨fun E=>(H x J).1 (bD _ E),fun E=>by
   rcases bK.1 ((H x J).2 E)with rfl | h
   ·rw[X]at J;cases J
   ·exact h⟩)
  rw[dN,if_pos (by rw[X];rfl)];cases E:(q :: m).filter fun p => !P p with
  | nil=>rw[E]at Q;rw[jaW,Q]
  | cons q' m' =>
   have a1:q'∈q :: m:=(cH.1 (by rw[E];exact bF:q'∈(q :: m).filter fun p => !P p)).1;have hl:jbH p.1 q'.1=true:=by
    rcases bK.1 a1 with rfl | h
    ·exact hlt
    ·exact htr _ _ _ hlt ((cY.1 O).1 q' h)
   rw[E]at Q;rw[jaW,if_pos hl,Q]
 | case5 p l q m hlt hgt ih =>
  intro K O H;have Z:P q=false:=by
   cases e:P q with
   | false=>rfl
   | true =>
    rcases bK.1 ((H q e).2 bF)with rfl | E
    ·rw[hi]at hgt;cases hgt
    ·have:=ht _ _ ((cY.1 K).1 q E)
     rw[hgt]at this;cases this
  have Q:=ih K O.tail (fun x J=>⟨fun E=>by
   rcases bK.1 ((H x J).1 E)with rfl | h
   ·rw[Z]at J;cases J
   ·exact h,fun E=>(H x J).2 (bD _ E)⟩)
  rw[show (q :: m).filter (fun p => !P p)=q :: m.filter fun p => !P p by rw[dN,if_pos (by rw[Z];rfl)]];cases E:(p :: l).filter fun p => !P p with
  | nil=>rw[E]at Q;rw[jaW,Q]
  | cons p' l' =>
   have a2:p'∈p :: l:=(cH.1 (by rw[E];exact bF:p'∈(p :: l).filter fun p => !P p)).1;have hl:jbH q.1 p'.1=true:=by
    rcases bK.1 a2 with rfl | h
    ·exact hgt
    ·exact htr _ _ _ hgt ((cY.1 K).1 p' h)
   rw[E]at Q;rw[jaW,if_neg (by rw[ht _ _ hl];simp),if_pos hl,Q]
 | case6 p l q m hlt hgt hv ih =>
  intro K O H;have hk:p.1=q.1:=heq _ _ (by simpa using hlt) (by simpa using hgt);have a3:p=q:=Prod.ext hk (by
   have h:p.2.toList=q.2.toList:=by simpa using hv
   rw[bW,bW]at h;exact jbK h)
  subst a3;have Q:=ih K.tail O.tail (fun x J=>by
   have h:=H x J;constructor
   ·intro E
    rcases bK.1 (h.1 (bD _ E))with rfl | h3
    ·exact absurd E (K.o hi)
    ·exact h3
   ·intro E
    rcases bK.1 (h.2 (bD _ E))with rfl | h3
    ·exact absurd E (O.o hi)
    ·exact h3)
  cases e:P p with
  | true=>rw[dN,if_neg (by rw[e];simp),dN,if_neg (by rw[e];simp)];exact Q
  | false =>
   rw[dN,if_pos (by rw[e];rfl),dN,if_pos (by rw[e];rfl),jaW,if_neg hlt,if_neg hgt,if_pos hv];exact Q
 | case7 p l q m hlt hgt hv ih =>
  intro K O H;have hk:p.1=q.1:=heq _ _ (by simpa using hlt) (by simpa using hgt);have a0:¬ p=q:=fun e=>hv (by rw[e];simp);have X:P p=false:=by
   cases e:P p with
   | false=>rfl
   | true =>
    rcases bK.1 ((H p e).1 bF)with h | E
    ·exact absurd h a0
    ·have:=(cY.1 O).1 p E
     rw[<-hk,hi]at this;cases this
  have Z:P q=false:=by
   cases e:P q with
   | false=>rfl
   | true =>
    rcases bK.1 ((H q e).2 bF)with h | E
    ·exact absurd h.symm a0
    ·have:=(cY.1 K).1 q E
     rw[hk,hi]at this;cases this
  have Q:=ih K.tail O.tail (fun x J=>by
   have h:=H x J;constructor
   ·intro E
    rcases bK.1 (h.1 (bD _ E))with rfl | h3
    ·rw[Z]at J;cases J
    ·exact h3
   ·intro E
    rcases bK.1 (h.2 (bD _ E))with rfl | h3
    ·rw[X]at J;cases J
    ·exact h3)
  rw[dN,if_pos (by rw[X];rfl),dN,if_pos (by rw[Z];rfl),jaW,if_neg hlt,if_neg hgt,if_neg hv,Q]
end Go.Proofs.YtmobgkphhbmhbaaGreatDoor
