/- Lemmas; each is under no condition but those that it states. -/
import Derived.Test.YtepbencaoiompaaGreatDoorPa21
namespace Go.Proofs.YtepbencaoiompaaGreatDoor
set_option linter.unusedSimpArgs false
set_option linter.unusedVariables false
set_option maxRecDepth 100000
set_option maxHeartbeats 16000000
open Go Go.RowKit
theorem jnr(m:vL)(k:vN):valM m k=(look m k).getD ⟨#[]⟩:=rfl
theorem jiR{k:vN}:∀ {m:vL},k∈m.map Pair.k->∃ v,look m k=some v
 | [],h=>by cases h
 | q :: r,h=>by
  rw[jbl]
  by_cases e:k=q.k
  ·exact⟨_,if_pos e⟩
  ·rw[if_neg e]
   rcases bM.1 h with h | h
   ·exact absurd h e
   ·exact jiR h
theorem jpx{k:vN}{v:vB}:∀ {m:vL},look m k=some v->∃ p∈m,p.k=k/\p.2=v
 | [],h=>by cases h
 | q :: r,h=>by
  rw[jbl]at h
  by_cases e:k=q.k
  ·rw[if_pos e]at h
   exact⟨q,bD,e.symm,bQ h⟩
  ·rw[if_neg e]at h
   obtain⟨p,o,z⟩:=jpx h
   exact⟨p,bC _ o,z⟩
theorem jo4(k:vB):∀ m:vL,(delM m k).map Pair.k=(m.map Pair.k).erase k.data.toList
 | []=>rfl
 | q :: r=>by
  rw[delM,bV,List.erase_cons]
  by_cases h:k.data.toList=q.k
  ·rw[if_pos h,if_pos (by simp[h])]
  ·rw[if_neg h,if_neg (by intro e;exact h (by simpa using (eq_of_beq e).symm)),bV,jo4 k r]
theorem jm4(p:Pair):∀ m:vL,(putM m p).map Pair.k=if p.k∈m.map Pair.k then m.map Pair.k else m.map Pair.k++[p.k]
 | []=>rfl
 | q :: r=>by
  rw[putM]
  by_cases h:p.k=q.k
  ·rw[if_pos h,if_pos (by simp[h])];simp[h]
  ·rw[if_neg h,bV,jm4 p r]
   by_cases h2:p.k∈r.map Pair.k
   ·rw[if_pos h2,if_pos (by rw[bV];exact bC _ h2)];rfl
   ·rw[if_neg h2,if_neg (by rw[bV,bM];exact fun e=>e.elim h h2)];rfl
theorem jm5(p:Pair){m:vL}(h:(m.map Pair.k).Nodup):((putM m p).map Pair.k).Nodup:=by
 rw[jm4];split
 ·exact h
 ·rename_i hn
  rw[fF]
  exact⟨h,by simp,fun a o b hb e=>by simp at hb;subst hb;subst e;exact hn o⟩
theorem jss(k:vB){m:vL}(h:(m.map Pair.k).Nodup):((delM m k).map Pair.k).Nodup:=by
 rw[jo4];exact h.erase _
theorem jvo(c:Chg){m:vL}(h:(m.map Pair.k).Nodup):((doM m c).map Pair.k).Nodup:=by
 unfold doM;split
 ·exact jss _ h
 ·exact jm5 _ h
theorem jmk:∀ (cs:List Chg) {m:vL},(m.map Pair.k).Nodup->((cs.foldl doM m).map Pair.k).Nodup
 | [],_,h=>h
 | c :: r,_,h=>jmk r (jvo c h)
theorem jke:∀ (l:vL) {m:vL},(m.map Pair.k).Nodup->((l.foldl putM m).map Pair.k).Nodup
 | [],_,h=>h
 | c :: r,_,h=>jke r (jm5 c h)
theorem jnJ(l:vL)(cs:List Chg):((jdC l cs).map Pair.k).Nodup:=jmk cs (jke l (by simp))
def jmD(k:vN)(o:Option vB)(c:Chg):Option vB:=if k=c.key.data.toList then (if c.gone then none else some c.value)else o
theorem jtd:∀ (a b:vN),Lt a b↔a < b
 | a,[]=>⟨fun h=>absurd h (not_lt_nil _),fun h=>absurd h (List.not_lt_nil _)⟩
 | [],b :: y=>⟨fun _=>List.nil_lt_cons _ _,fun _=>jpD⟩
 | a :: x,b :: y=>by rw[jbH,List.cons_lt_cons_iff,jtd x y]
theorem jnA.nodup{l:vL}(h:jnA l):(l.map Pair.k).Nodup:=by
 unfold List.Nodup;rw[List.pairwise_map];refine h.imp fun {p q} h=>?_;intro e;rw[e]at h;exact lt_irrefl _ h
theorem jhF(ks:List (vN))(k:vN):k∈jeI ks↔k∈ks:=(iJ _ _).mem_iff
theorem joy{ks:List (vN)}(h:ks.Nodup):(jeI ks).Pairwise Lt:=by
 have z:∀ a b c:vN,decide (a<=b)=true->decide (b<=c)=true->decide (a<=c)=true:=fun a b c o q=>by simp only[decide_eq_true_eq]at *;exact List.le_trans o q
 have to:∀ a b:vN,(decide (a<=b) || decide (b<=a))=true:=fun a b=>by simp only[Bool.or_eq_true,decide_eq_true_eq];exact List.le_total a b
 have o:(jeI ks).Pairwise (fun x y=>decide (x<=y)=true):=List.pairwise_mergeSort z to ks;have q:(jeI ks).Nodup:=(iJ _ _).nodup_iff.2 h;refine (o.and q).imp fun {a b} h=>?_;have A:a<=b:=by simpa using h.1
 rcases jj5 a b with e | e | e
 ·exact e
 ·exact absurd e h.2
 ·exact absurd ((jtd _ _).1 e) (List.not_lt.2 A)
theorem jrn(m:vL):(jc8 m).map Pair.k=jeI (m.map Pair.k):=by
 unfold jc8;rw[dL]
 conv=>rhs;rw[<-List.map_id (jeI (m.map Pair.k))]
 exact dF fun k _=>rfl
theorem juj(m:vL):(jc8 m).length=m.length:=by
 unfold jc8;rw[cB,jg0,cB]
theorem jjb{m:vL}(h:(m.map Pair.k).Nodup):jnA (jc8 m):=by
 have e:=joy h;rw[<-jrn,List.pairwise_map]at e;exact e
theorem jmK(f:vN->vB)(k:vN):∀ ks:List (vN),look (ks.map fun x=>((⟨x.toArray⟩,f x):Pair)) k=if k∈ks then some (f k)else none
 | []=>rfl
 | x :: r=>by
  rw[bV,jbl,jmK f k r];have e:Pair.k ((⟨x.toArray⟩,f x):Pair)=x:=rfl;rw[e]
  by_cases h:k=x
  ·rw[if_pos h,if_pos (by simp[h])];simp[h]
  ·rw[if_neg h]
   by_cases h2:k∈r
   ·rw[if_pos h2,if_pos (bC _ h2)]
   ·rw[if_neg h2,if_neg (by rw[bM];exact fun e=>e.elim h h2)]
theorem jta(m:vL)(k:vN):look (jc8 m) k=look m k:=by
 unfold jc8;rw[jmK]
 by_cases h:k∈m.map Pair.k
 ·rw[if_pos ((jhF _ _).2 h)]
  obtain⟨v,o⟩:=jiR h
  rw[jnr,o];rfl
 ·rw[if_neg (fun e=>h ((jhF _ _).1 e)),jeB h]
def okP(p:Pair):Prop:=jei p.1=true/\jcT p.2=true
theorem joo{p x:Pair}:∀ {m:vL},x∈putM m p->x=p\/x∈m
 | [],h=>.inl (by simpa [putM]using h)
 | q :: r,h=>by
  rw[putM]at h;split at h
  ·rcases bM.1 h with h | h
   ·exact .inl h
   ·exact .inr (bC _ h)
  ·rcases bM.1 h with h | h
   ·exact .inr (h ▸ bD)
   ·exact (joo h).imp id (bC _)
theorem jo3(k:vB):∀ m:vL,(delM m k).Sublist m
 | []=>List.Sublist.refl _
 | x :: r=>by
  unfold delM;split
  ·exact List.sublist_cons_self _ _
  ·exact (jo3 k r).cons_cons _
theorem jtT:∀ (l:vL) {m:vL},(∀ p∈l,okP p)->(∀ p∈m,okP p)->∀ p∈l.foldl putM m,okP p
 | [],_,_,h=>h
 | q :: r,m,h1,h2=>jtT r (fun p o=>h1 p (bC _ o)) fun p o=>(joo o).elim (fun e=>e ▸ h1 q bD) (h2 p)
theorem jxj:∀ (cs:List Chg) {m:vL},cs.any Chg.bad=false->(∀ p∈m,okP p)->∀ p∈cs.foldl doM m,okP p
 | [],_,_,h=>h
 | c :: r,m,h1,h2=>by
  rw[List.any_cons,gN]at h1;refine jxj r h1.2 fun p e=>?_;unfold doM at e;have hb:=h1.1;unfold Chg.bad at hb;cases hg:c.gone with
  | true=>rw[if_pos hg]at e;exact h2 p ((jo3 _ _).subset e)
  | false =>
   rw[if_neg (by rw[hg];simp)]at e;rcases joo e with rfl | e
   ·simp[hg]at hb;exact hb
   ·exact h2 p e
theorem jok{l:vL}(h:jaD l=0):∀ p∈l,okP p:=fun p e=>by
 obtain⟨o,q,z,A⟩:=(jaE h).size p e
 exact⟨decide_eq_true ⟨o,q⟩,decide_eq_true ⟨z,A⟩⟩
theorem jrW{l:vL}{cs:List Chg}(h:jaD l=0)(hc:cs.any Chg.bad=false):∀ p∈jdC l cs,okP p:=
 jxj cs hc (jtT l (jok h) (by simp))
theorem jpG{l:vL}(h1:∀ p∈l,okP p)(h2:jnA l)(h3:l.length<=40):jaD l=0:=by
 unfold jaD;rw[if_neg,if_neg vO];intro h
 obtain⟨i,e,hb⟩:=fQ.1 h
 have e:=dR.1 e;have g:∀ j (q:j < l.length),l.getD j (⟨#[]⟩,⟨#[]⟩)=l[j]:=fun j q=>by rw[bE,bA q];rfl
 unfold badN at hb;rw[g i e,(h1 _ (dY e)).1,(h1 _ (dY e)).2]at hb;simp only[Bool.not_true,Bool.or_self,Bool.false_or,cI,decide_eq_true_eq,gY]at hb;rw[g (i - 1) vO]at hb
 have:=gP.1 h2 (i - 1) i vO e vO
 have o:=hb.2;unfold jb0 at o;rw[bN,bN]at o;have z:Op.bytesLess (l[i - 1]).1.data.toList (l[i]).1.data.toList=true:=this;rw[z]at o;cases o
theorem jil{l:vL}{cs:List Chg}(h:ja8 l cs=0):jaD l=0/\cs.any Chg.bad=false/\(jdC l cs).length<=40:=by
 unfold ja8 at h;split at h
 ·rename_i h1;exact absurd h h1
 rename_i h1
 split at h
 ·cases h
 rename_i h2
 split at h
 ·cases h
 rename_i h3
 exact⟨by simpa using h1,by simpa using h2,by omega⟩
theorem jrJ{m:vL}(h:∀ p∈m,okP p):∀ p∈jc8 m,okP p:=fun p z=>by
 obtain⟨k,A,rfl⟩:=bI.1 z
 obtain⟨v,o⟩:=jiR ((jhF _ _).1 A)
 obtain⟨q,E,H,J⟩:=jpx o
 have:=h q E
 rw[jnr,o];have e:((⟨k.toArray⟩,(some v).getD ⟨#[]⟩):Pair)=q:=jgP H.symm J.symm;rw[e];exact this
theorem jcP{l:vL}{cs:List Chg}(h:ja8 l cs=0):jaD (jc8 (jdC l cs))=0:=by
 obtain⟨e,o,q⟩:=jil h
 exact jpG (jrJ (jrW e o)) (jjb (jnJ l cs)) (by rw[juj];exact q)
def jdD(xs:List Chg):List vV:=xs.flatMap fun c=>[.string c.key,.string c.value,.bool c.gone]
theorem jc2(xs:List Chg)(c:Chg):jdD (xs++[c])=jdD xs++[.string c.key,.string c.value,.bool c.gone]:=by simp[jdD]
theorem jjI(xs:List Chg):(jdD xs).length=xs.length * 3:=by
 induction xs with
 | nil=>rfl
 | cons x r ih=>unfold jdD at *;rw[cG,bF,ih];simp;omega
theorem Tryz.infoChg:(Tryz.prog.info? 50).map (fun i=>(i.zero,i.size,i.bytes))=some (some (.agg #[.string ⟨#[]⟩,.string ⟨#[]⟩,.bool false]),3,40):=vY
theorem Tryz.uChgs:Tryz.prog.underlying 23=some (.slice 50):=vY
theorem Tryz.sChgs:jeN Tryz.prog 23 50 3 40:=jeN.mk' Tryz.uChgs Tryz.infoChg rfl vI
abbrev CRow(w0 w:vW)(v:vV)(n:Nat)(xs:List Chg):Prop:=ORow 50 3 w0 w v n (jdD xs)
def ja9:vL->vL->List Chg
 | [],[]=>[]
 | p :: l,[]=>⟨p.1,⟨#[]⟩,true⟩ :: ja9 l []
 | [],q :: m=>⟨q.1,q.2,false⟩ :: ja9 [] m
 | p :: l,q :: m =>
  if jb0 p.1 q.1=true then ⟨p.1,⟨#[]⟩,true⟩ :: ja9 l (q :: m)
  else if jb0 q.1 p.1=true then ⟨q.1,q.2,false⟩ :: ja9 (p :: l) m
  else if (p.2.toList == q.2.toList)=true then ja9 l m else ⟨q.1,q.2,false⟩ :: ja9 l m
termination_by l m=>l.length+m.length
def jdz(l m:vL):List Chg:=if jaD l=0/\jaD m=0 then ja9 l m else []
theorem jdj{α:Type}{l:List α}{i:Nat}{x:α}(h:l[i]?=some x):l.drop i=x :: l.drop (i+1):=by
 obtain⟨o,e⟩:=bW.1 h
 rw[<-e];exact iM o
structure DfR(w:World)(l m:vL)(c:Value)(i j:Nat)(wr:World)(n:Nat)(acc:List Chg):Prop where
 hi:i<=l.length
 hj:j<=m.length
 hn:n<=i+j
 row:CRow w wr c n acc
 eq:acc++ja9 (l.drop i) (m.drop j)=ja9 l m
def jBd(w:vW)(l m:vL)(c vi vj:vV)(wr:vW):Prop:=∃ i j n acc,vi=.int .i64 (i:Nat)/\vj=.int .i64 (j:Nat)/\DfR w l m c i j wr n acc
theorem jAc{l m:vL}{i j:Nat}(hi:i=l.length)(hj:j=m.length):ja9 (l.drop i) (m.drop j)=[]:=by
 subst hi;subst hj;rw[iB,iB];simp[ja9]
theorem jvk{l m:vL}{i j:Nat}{p:Pair}(hp:l[i]?=some p)(hj:j=m.length):ja9 (l.drop i) (m.drop j)=⟨p.1,⟨#[]⟩,true⟩ :: ja9 (l.drop (i+1)) (m.drop j):=by
 subst hj;rw[iB,jdj hp];simp[ja9]
theorem jya{l m:vL}{i j:Nat}{q:Pair}(hq:m[j]?=some q)(hi:i=l.length):ja9 (l.drop i) (m.drop j)=⟨q.1,q.2,false⟩ :: ja9 (l.drop i) (m.drop (j+1)):=by
 subst hi;rw[iB,jdj hq];simp[ja9]
theorem jvl{l m:vL}{i j:Nat}{p q:Pair}(hp:l[i]?=some p)(hq:m[j]?=some q)(h:jb0 p.1 q.1=true):ja9 (l.drop i) (m.drop j)=⟨p.1,⟨#[]⟩,true⟩ :: ja9 (l.drop (i+1)) (m.drop j):=by
 rw[jdj hp,jdj hq,ja9,if_pos h]
theorem jyb{l m:vL}{i j:Nat}{p q:Pair}(hp:l[i]?=some p)(hq:m[j]?=some q)(h:jb0 p.1 q.1=false)(h2:jb0 q.1 p.1=true):ja9 (l.drop i) (m.drop j)=⟨q.1,q.2,false⟩ :: ja9 (l.drop i) (m.drop (j+1)):=by
 rw[jdj hp,jdj hq,ja9,if_neg (by rw[h];simp),if_pos h2]
theorem jyc{l m:vL}{i j:Nat}{p q:Pair}(hp:l[i]?=some p)(hq:m[j]?=some q)(h:jb0 p.1 q.1=false)(h2:jb0 q.1 p.1=false)(h3:(p.2.toList == q.2.toList)=true):ja9 (l.drop i) (m.drop j)=ja9 (l.drop (i+1)) (m.drop (j+1)):=by
 rw[jdj hp,jdj hq,ja9,if_neg (by rw[h];simp),if_neg (by rw[h2];simp),if_pos h3]
theorem jvm{l m:vL}{i j:Nat}{p q:Pair}(hp:l[i]?=some p)(hq:m[j]?=some q)(h:jb0 p.1 q.1=false)(h2:jb0 q.1 p.1=false)(h3:(p.2.toList == q.2.toList)=false):ja9 (l.drop i) (m.drop j)=⟨q.1,q.2,false⟩ :: ja9 (l.drop (i+1)) (m.drop (j+1)):=by
 rw[jdj hp,jdj hq,ja9,if_neg (by rw[h];simp),if_neg (by rw[h2];simp),if_neg (by rw[h3];simp)]
theorem jmj(w:vW)(v u:vV)(l m:vL)(hv:RdP w v l)(hu:RdP w u m)(hn1:l.length<=9223372036854775807)(hn2:m.length<=9223372036854775807)(hs1:∀ p∈l,p.1.size<=9223372036854775807/\p.2.size<=9223372036854775807)(hs2:∀ p∈m,p.1.size<=9223372036854775807/\p.2.size<=9223372036854775807) :
  vQ 32 #[v,u] w fun e w'=>∃ u,e=.returned u/\CRow w w' u (jdz l m).length (jdz l m):=by
 have a3:=Hd (jhi w v l hv hn1 hs1);have b3:=Hd (fun w1 (h1:Ext w w1)=>jhi w1 u m (hu.ext h1) hn2 hs2);have HV:=Hd hv;have HU:=Hd hu
 obtain⟨a,c,rfl⟩:=hv.sl
 obtain⟨a',c',d8⟩:=hu.sl
 subst d8;clear hv hu hs1 hs2
 by_cases hck:jaD l=0
 case neg =>
  have HD:=Hd (show jdz l m=[] by unfold jdz;rw[if_neg (fun h=>hck h.1)]);rw[HD.o]
  obtain⟨x,hx⟩:=vE (jaD l)
  rw[<-hx]at hck a3;have e6:(x == 0)=false:=by simpa using hck
  have d9:(x != 0)=true:=by simpa using hck
  clear hck hx HV HU b3 HD;go_enter Tryz.func32,Tryz.ntmps32;go_wp2_with fail
  refine a3.o.mono ?_;rintro e w1 ⟨rfl,hE⟩;have HE:=Hd hE;clear hE a3;go_wp2_with fail
  go_ret
  exact⟨_,rfl,ORow.nil _ _ HE.o⟩
 by_cases hck2:jaD m=0
 case neg =>
  have HD:=Hd (show jdz l m=[] by unfold jdz;rw[if_neg (fun h=>hck2 h.2)]);rw[HD.o];rw[hck]at a3
  obtain⟨x,hx⟩:=vE (jaD m)
  rw[<-hx]at hck2 b3;have e6:(x == 0)=false:=by simpa using hck2
  have d9:(x != 0)=true:=by simpa using hck2
  clear hck hck2 hx HV HU HD;go_enter Tryz.func32,Tryz.ntmps32;go_wp2_with fail
  refine a3.o.mono ?_;rintro e w1 ⟨rfl,hE⟩;have HE:=Hd hE;clear hE a3;go_wp2_with fail
  refine vH (b3.o w1 HE.o) fun w2 hE=>?_;have c6:=Hd (HE.o.trans hE);clear b3 HE;go_wp2_with fail
  go_ret
  exact⟨_,rfl,ORow.nil _ _ c6.o⟩
 have f0:=(jaE hck).len;have f1:=(jaE hck2).len;have HD:=Hd (show jdz l m=ja9 l m by unfold jdz;rw[if_pos ⟨hck,hck2⟩]);rw[HD.o];rw[hck]at a3;rw[hck2]at b3;clear hck hck2 HD hn1 hn2
 obtain⟨R,hR⟩:=vE (ja9 l m)
 rw[<-hR];have e0:=Hd hR;clear hR;go_enter Tryz.func32,Tryz.ntmps32;go_wp2_with fail
 refine a3.o.mono ?_;rintro e w1 ⟨rfl,hE⟩;have HE:=Hd hE;clear hE a3;go_wp2_with fail
 refine vH (b3.o w1 HE.o) fun w2 hE=>?_;have c6:=Hd (HE.o.trans hE);clear b3 HE;go_wp2_with fail
 go_loopw [5,6,7] (fun v i j wr=>jBd w l m v i j wr) (fun _ i j _=>(l.length - (intOf i).toNat)+(m.length - (intOf j).toNat))
 case atStart=>exact⟨0,0,0,[],rfl,rfl,by omega,by omega,by omega,ORow.nil _ _ c6.o,by simp⟩
 case round =>
  obtain⟨i,j,n,O,rfl,rfl,e7⟩:=hrel
  obtain⟨hi,hj,hn,b6,e1⟩:=e7
  obtain⟨a2,c2,rfl⟩:=b6.sl
  have HR:=Hd b6;have J:=Hd e1;clear b6 e1 c6
  by_cases hjm:j < m.length
  ·by_cases hil:i < l.length
   ·obtain⟨q,hq⟩:∃ q,m[j]?=some q:=⟨_,bA hjm⟩
    rcases HU.o with⟨_,_,_,h0⟩ |⟨bm,om,cm,hh,hb,hc,hcell⟩
    ·rw[h0]at hjm;cases hjm
    cases hh
    obtain⟨d1,d2⟩:=hcell j q hq
    have a1:=Hd (jaa d1 HR.o.ext);have a7:=Hd (jaa d2 HR.o.ext);have NB:Hid (¬(Value.slice a2 n c2).ownBlock=some bm):=(fun e=>by have:=HR.o.new bm e;omega);have HQ:=Hd hq;have b2:(j:Int) < (m.length:Int):=vO
    obtain⟨y1,y2⟩:=q
    simp only at a1 a7;clear hcell hb hc hq
    obtain⟨p,hp⟩:∃ p,l[i]?=some p:=⟨_,bA hil⟩
    rcases HV.o with⟨_,_,_,h0⟩ |⟨bl,ol,cl,hh,hb,hc,hcell⟩
    ·rw[h0]at hil;cases hil
    cases hh
    obtain⟨d3,d4⟩:=hcell i p hp
    have Q:=Hd (jaa d3 HR.o.ext);have b4:=Hd (jaa d4 HR.o.ext);have HP:=Hd hp;have b1:(i:Int) < (l.length:Int):=vO
    obtain⟨x1,x2⟩:=p
    simp only at Q b4;clear hcell hb hc hp;have eA:((j:Int) ==(m.length:Int))=false:=by simp;omega
    have eN:((i:Int) ==(l.length:Int))=false:=by simp;omega
    cases hls:jb0 x1 y1 with
    | true =>
     have HN:=Hd (show O++[_]++ja9 _ _=ja9 l m from by rw[bX,gZ, <-jvl HP.o HQ.o hls];exact J.o);unfold jb0 at hls;clear J;go_wp2_with fail
     refine jan [0,1,2,3,4,5,6,7,8,9,10,11,12,13,14,15,16,17,18,19,20,21,22,23] Ext ExtR ExtT vY vY vY ?_;iterate 14 refine vK ?_
     refine qKL ⟨bl,ol+i * 2,none⟩ (.string x1) rfl (fun w3 E=>jac Tryz.uStr rfl (jaa (by exact Q.o) ((jaq _).trans E))) ?_;refine vS ?_;iterate 4 refine vK ?_
     refine qKL ⟨bm,om+j * 2,none⟩ (.string y1) rfl (fun w3 E=>jac Tryz.uStr rfl (jaa (by exact a1.o) ((jaq _).trans E))) ?_;refine vS ?_;iterate 4 refine vK ?_
     refine qKE (fun w5 A=>?_);have X:=Hd (HR.o.mono ((jaq _).trans A));have e8:=jaa Q.o ((jaq _).trans A);clear A HR Q b4 a1 a7;go_wp2_with (at_builtin;refine jba Tryz.sChgs (X.o.mono ((ExtR _).alloc _)) (.tmp 79) (.tmp 86) rfl rfl rfl (ja3 (Blk.new _ _)) (news:=[.string x1,.string ⟨#[]⟩,.bool true]) (by intro u hu;simp at hu;rcases hu with rfl | rfl | rfl <;> rfl) rfl rfl ?c1 ?c2 (fun v' w' r1 r2 r3=>?_))
     case c1=>unfold maxLen;omega
     case c2=>omega
     have H:CRow w w' v' (n+1) (O++[⟨x1,⟨#[]⟩,true⟩]):=by unfold CRow;rw[jc2];exact r1
     obtain⟨a8,c8,rfl⟩:=H.sl
     have d5:=Hd H;clear r1 r2 r3 H;go_wp2_with fail
     go_roundw
     case rel=>exact⟨i+1,j,n+1,_,by go_num,rfl,by omega,hj,by omega,d5.o,HN.o⟩
     case measure=>exact vJ
    | false =>
     have d6:=Hd hls;unfold jb0 at hls;go_wp2_with fail
     refine jan [0,1,2,3,4,5,6,7,8,9,10,11,12,13,14,15,16,17,18,19,20,21,22,23] Ext ExtR ExtT vY vY vY ?_;iterate 14 refine vK ?_
     refine qKL ⟨bl,ol+i * 2,none⟩ (.string x1) rfl (fun w3 E=>jac Tryz.uStr rfl (jaa (by exact Q.o) ((jaq _).trans E))) ?_;refine vS ?_;iterate 4 refine vK ?_
     refine qKL ⟨bm,om+j * 2,none⟩ (.string y1) rfl (fun w3 E=>jac Tryz.uStr rfl (jaa (by exact a1.o) ((jaq _).trans E))) ?_;refine vS ?_;iterate 4 refine vK ?_
     refine qKE (fun w5 A=>?_);have b5:=Hd (HR.o.mono ((jaq _).trans A));have a5:=Hd (jaa Q.o ((jaq _).trans A));have b7:=Hd (jaa b4.o ((jaq _).trans A));have a0:=Hd (jaa a1.o ((jaq _).trans A));have a6:=Hd (jaa a7.o ((jaq _).trans A));clear A HR Q b4 a1 a7 hls;cases hlt2:jb0 y1 x1 with
     | true =>
      have HN:=Hd (show O++[_]++ja9 _ _=ja9 l m from by rw[bX,gZ, <-jyb HP.o HQ.o d6.o hlt2];exact J.o);unfold jb0 at hlt2;clear J;go_wp2_with fail
      refine jan [0,1,2,3,4,5,6,7,8,9,10,11,12,13,14,15,16,17] Ext ExtR ExtT vY vY vY ?_;iterate 9 refine vK ?_
      refine qKL ⟨bm,om+j * 2,none⟩ (.string y1) rfl (fun w3 E=>jac Tryz.uStr rfl (jaa (by exact a0.o) ((jaq _).trans E))) ?_;refine vS ?_;iterate 4 refine vK ?_
      refine qKL ⟨bl,ol+i * 2,none⟩ (.string x1) rfl (fun w3 E=>jac Tryz.uStr rfl (jaa (by exact a5.o) ((jaq _).trans E))) ?_;refine vS ?_;iterate 3 refine vK ?_
      refine qKE (fun w5 A=>?_);have X:=Hd (b5.o.mono ((jaq _).trans A));have b8:=Hd (jaa a0.o ((jaq _).trans A));have b9:=Hd (jaa a6.o ((jaq _).trans A));clear A b5 a5 b7 a0 a6 hlt2;go_wp2_with fail
      refine ja5 [0,1,2,3,4,5,6,7,8,9,10,11,12,13,14] [12,13] Ext (jag (fun b=>(Value.slice a2 n c2).ownBlock=some b)) ExtR ExtT (fun x y z h k=>jag.trans h k) (fun x y h=>h.mono (fun _ _ h=>h.elim)) vY vY vY ?_;iterate 5 refine vD ?_
      refine qDL ⟨bm,om+j * 2,none⟩ (.string y1) rfl (fun w3 E=>jac Tryz.uStr rfl (jaF (by exact b8.o) E NB.o)) ?_;refine vS ?_;iterate 4 refine vD ?_
      refine qDL ⟨bm,om+j * 2+1,none⟩ (.string y2) rfl (fun w3 E=>jac Tryz.uStr rfl (jaF (by exact b9.o) E NB.o)) ?_;refine vS ?_
      refine vD ?_
      refine qDH _ rfl (fun w6 A K hK=>?_);have a9:=Hd (X.o.mono ((jaq _).trans A));clear A;go_simp;refine hK _ _ ((jag.refl _ w6).alloc _) ?_;clear hK K;refine qDH _ rfl (fun w7 A K hK=>?_);have b0:=Hd (a9.o.mono (((ExtR w6).alloc _).trans A));have hB:∀ k u,([.string y1,.string y2,.bool false]:List vV)[k]?=some u->w7.cell? ((⟨w6.heap.size,0,none⟩:Addr).add k)=some u:=fun k u hk=>jaa (ja3 (Blk.new w6 (.cells [Value.string y1,.string y2,.bool false].toArray 50)) k u hk) A;refine jkr Tryz.sChgs b0.o (.tmp 108) (.tmp 120) rfl rfl hB (by intro u hu;simp at hu;rcases hu with rfl | rfl | rfl <;> rfl) rfl rfl (by unfold maxLen;omega) vO (fun v' w8 r1 r2 r3=>hK _ _ r2 ?_);have H:CRow w w8 v' (n+1) (O++[⟨y1,y2,false⟩]):=by unfold CRow;rw[jc2];exact r1
      have Z:=Hd H;clear hK K A r1 r2 r3 H hB a9 b0
      obtain⟨a4,c4,rfl⟩:=Z.o.sl
      refine vS ?_
      refine vD ?_
      refine jcA vY (fun w9 A=>?_);have c0:=Hd (Z.o.mono A);clear A Z;go_wp2_with fail
      go_roundw
      case rel=>exact⟨i,j+1,n+1,_,rfl,by go_num,by omega,by omega,by omega,c0.o,HN.o⟩
      case measure=>exact vJ
     | false =>
      have e2:=Hd hlt2;unfold jb0 at hlt2;go_wp2_with fail
      refine jan [0,1,2,3,4,5,6,7,8,9,10,11,12,13,14,15,16,17] Ext ExtR ExtT vY vY vY ?_;iterate 9 refine vK ?_
      refine qKL ⟨bm,om+j * 2,none⟩ (.string y1) rfl (fun w3 E=>jac Tryz.uStr rfl (jaa (by exact a0.o) ((jaq _).trans E))) ?_;refine vS ?_;iterate 4 refine vK ?_
      refine qKL ⟨bl,ol+i * 2,none⟩ (.string x1) rfl (fun w3 E=>jac Tryz.uStr rfl (jaa (by exact a5.o) ((jaq _).trans E))) ?_;refine vS ?_;iterate 3 refine vK ?_
      refine qKE (fun w5 A=>?_);have c7:=Hd (b5.o.mono ((jaq _).trans A));have c9:=Hd (jaa b7.o ((jaq _).trans A));have d7:=Hd (jaa a0.o ((jaq _).trans A));have c3:=Hd (jaa a6.o ((jaq _).trans A));clear A b5 a5 b7 a0 a6 hlt2;cases hvv:(x2.toList == y2.toList)with
      | true =>
       have HN:=Hd (show O++ja9 _ _=ja9 l m from by rw[<-jyc HP.o HQ.o d6.o e2.o hvv];exact J.o);clear J;go_wp2_with fail
       refine jan [0,1,2,3,4,5,6,7,8,9,10] Ext ExtR ExtT vY vY vY ?_;iterate 4 refine vK ?_
       refine qKL ⟨bl,ol+i * 2+1,none⟩ (.string x2) rfl (fun w3 E=>jac Tryz.uStr rfl (jaa (by exact c9.o) ((jaq _).trans E))) ?_;refine vS ?_;iterate 4 refine vK ?_
       refine qKL ⟨bm,om+j * 2+1,none⟩ (.string y2) rfl (fun w3 E=>jac Tryz.uStr rfl (jaa (by exact c3.o) ((jaq _).trans E))) ?_;refine vS ?_
       refine vK ?_
       refine qKE (fun w5 A=>?_);have X:=Hd (c7.o.mono ((jaq _).trans A));clear A c7 c9 d7 c3;go_wp2_with fail
       go_roundw
       case rel=>exact⟨i+1,j+1,n,O,by go_num,by go_num,by omega,by omega,by omega,X.o,HN.o⟩
       case measure=>exact vJ
      | false =>
       have HN:=Hd (show O++[_]++ja9 _ _=ja9 l m from by rw[bX,gZ, <-jvm HP.o HQ.o d6.o e2.o hvv];exact J.o);clear J;go_wp2_with fail
       refine jan [0,1,2,3,4,5,6,7,8,9,10] Ext ExtR ExtT vY vY vY ?_;iterate 4 refine vK ?_
       refine qKL ⟨bl,ol+i * 2+1,none⟩ (.string x2) rfl (fun w3 E=>jac Tryz.uStr rfl (jaa (by exact c9.o) ((jaq _).trans E))) ?_;refine vS ?_;iterate 4 refine vK ?_
       refine qKL ⟨bm,om+j * 2+1,none⟩ (.string y2) rfl (fun w3 E=>jac Tryz.uStr rfl (jaa (by exact c3.o) ((jaq _).trans E))) ?_;refine vS ?_
       refine vK ?_
       refine qKE (fun w5 A=>?_);have X:=Hd (c7.o.mono ((jaq _).trans A));have b8:=Hd (jaa d7.o ((jaq _).trans A));have b9:=Hd (jaa c3.o ((jaq _).trans A));clear A c7 c9 d7 c3;go_wp2_with fail
       refine ja5 [0,1,2,3,4,5,6,7,8,9,10,11,12,13,14] [12,13] Ext (jag (fun b=>(Value.slice a2 n c2).ownBlock=some b)) ExtR ExtT (fun x y z h k=>jag.trans h k) (fun x y h=>h.mono (fun _ _ h=>h.elim)) vY vY vY ?_;iterate 5 refine vD ?_
       refine qDL ⟨bm,om+j * 2,none⟩ (.string y1) rfl (fun w3 E=>jac Tryz.uStr rfl (jaF (by exact b8.o) E NB.o)) ?_;refine vS ?_;iterate 4 refine vD ?_
       refine qDL ⟨bm,om+j * 2+1,none⟩ (.string y2) rfl (fun w3 E=>jac Tryz.uStr rfl (jaF (by exact b9.o) E NB.o)) ?_;refine vS ?_
       refine vD ?_
       refine qDH _ rfl (fun w6 A K hK=>?_);have a9:=Hd (X.o.mono ((jaq _).trans A));clear A;go_simp;refine hK _ _ ((jag.refl _ w6).alloc _) ?_;clear hK K;refine qDH _ rfl (fun w7 A K hK=>?_);have b0:=Hd (a9.o.mono (((ExtR w6).alloc _).trans A));have hB:∀ k u,([.string y1,.string y2,.bool false]:List vV)[k]?=some u->w7.cell? ((⟨w6.heap.size,0,none⟩:Addr).add k)=some u:=fun k u hk=>jaa (ja3 (Blk.new w6 (.cells [Value.string y1,.string y2,.bool false].toArray 50)) k u hk) A;refine jkr Tryz.sChgs b0.o (.tmp 37) (.tmp 49) rfl rfl hB (by intro u hu;simp at hu;rcases hu with rfl | rfl | rfl <;> rfl) rfl rfl (by unfold maxLen;omega) vO (fun v' w8 r1 r2 r3=>hK _ _ r2 ?_);have H:CRow w w8 v' (n+1) (O++[⟨y1,y2,false⟩]):=by unfold CRow;rw[jc2];exact r1
       have Z:=Hd H;clear hK K A r1 r2 r3 H hB a9 b0
       obtain⟨a4,c4,rfl⟩:=Z.o.sl
       refine vS ?_
       refine vD ?_
       refine jcA vY (fun w9 A=>?_);have c0:=Hd (Z.o.mono A);clear A Z;go_wp2_with fail
       go_roundw
       case rel=>exact⟨i+1,j+1,n+1,_,by go_num,by go_num,by omega,by omega,by omega,c0.o,HN.o⟩
       case measure=>exact vJ
   ·obtain⟨q,hq⟩:∃ q,m[j]?=some q:=⟨_,bA hjm⟩
    rcases HU.o with⟨_,_,_,h0⟩ |⟨bm,om,cm,hh,hb,hc,hcell⟩
    ·rw[h0]at hjm;cases hjm
    cases hh
    obtain⟨d1,d2⟩:=hcell j q hq
    have a1:=Hd (jaa d1 HR.o.ext);have a7:=Hd (jaa d2 HR.o.ext);have NB:Hid (¬(Value.slice a2 n c2).ownBlock=some bm):=(fun e=>by have:=HR.o.new bm e;omega);have HQ:=Hd hq;have b2:(j:Int) < (m.length:Int):=vO
    obtain⟨y1,y2⟩:=q
    simp only at a1 a7;clear hcell hb hc hq;have c5:i=l.length:=vO
    have b1:¬(i:Int) < (l.length:Int):=vO
    have eA:((j:Int) ==(m.length:Int))=false:=by simp;omega
    have eN:((i:Int) ==(l.length:Int))=true:=by simp;omega
    have HN:=Hd (show O++[_]++ja9 _ _=ja9 l m from by rw[bX,gZ, <-jya HQ.o c5];exact J.o);clear c5 J;go_wp2_with fail
    refine jan [0,1,2,3,4,5,6,7,8,9,10,11,12,13,14,15,16,17,18,19,20,21,22,23] Ext ExtR ExtT vY vY vY ?_;iterate 10 refine vK ?_
    iterate 11 (refine qKS _ rfl ?_;refine vS ?_)
    iterate 3 refine vK ?_
    refine qKE (fun w5 A=>?_);have b5:=Hd (HR.o.mono ((jaq _).trans A));have e3:=Hd (jaa a1.o ((jaq _).trans A));have e4:=Hd (jaa a7.o ((jaq _).trans A));clear A HR a1 a7;go_wp2_with fail
    refine jan [0,1,2,3,4,5,6,7,8,9,10,11,12,13,14,15,16,17] Ext ExtR ExtT vY vY vY ?_;iterate 5 refine vK ?_
    iterate 11 (refine qKS _ rfl ?_;refine vS ?_)
    iterate 2 refine vK ?_
    refine qKE (fun w5 A=>?_);have X:=Hd (b5.o.mono ((jaq _).trans A));have b8:=Hd (jaa e3.o ((jaq _).trans A));have b9:=Hd (jaa e4.o ((jaq _).trans A));clear A b5 e3 e4;go_wp2_with fail
    refine ja5 [0,1,2,3,4,5,6,7,8,9,10,11,12,13,14] [12,13] Ext (jag (fun b=>(Value.slice a2 n c2).ownBlock=some b)) ExtR ExtT (fun x y z h k=>jag.trans h k) (fun x y h=>h.mono (fun _ _ h=>h.elim)) vY vY vY ?_;iterate 5 refine vD ?_
    refine qDL ⟨bm,om+j * 2,none⟩ (.string y1) rfl (fun w3 E=>jac Tryz.uStr rfl (jaF (by exact b8.o) E NB.o)) ?_;refine vS ?_;iterate 4 refine vD ?_
    refine qDL ⟨bm,om+j * 2+1,none⟩ (.string y2) rfl (fun w3 E=>jac Tryz.uStr rfl (jaF (by exact b9.o) E NB.o)) ?_;refine vS ?_
    refine vD ?_
    refine qDH _ rfl (fun w6 A K hK=>?_);have a9:=Hd (X.o.mono ((jaq _).trans A));clear A;go_simp;refine hK _ _ ((jag.refl _ w6).alloc _) ?_;clear hK K;refine qDH _ rfl (fun w7 A K hK=>?_);have b0:=Hd (a9.o.mono (((ExtR w6).alloc _).trans A));have hB:∀ k u,([.string y1,.string y2,.bool false]:List vV)[k]?=some u->w7.cell? ((⟨w6.heap.size,0,none⟩:Addr).add k)=some u:=fun k u hk=>jaa (ja3 (Blk.new w6 (.cells [Value.string y1,.string y2,.bool false].toArray 50)) k u hk) A;refine jkr Tryz.sChgs b0.o (.tmp 108) (.tmp 120) rfl rfl hB (by intro u hu;simp at hu;rcases hu with rfl | rfl | rfl <;> rfl) rfl rfl (by unfold maxLen;omega) vO (fun v' w8 r1 r2 r3=>hK _ _ r2 ?_);have H:CRow w w8 v' (n+1) (O++[⟨y1,y2,false⟩]):=by unfold CRow;rw[jc2];exact r1
    have Z:=Hd H;clear hK K A r1 r2 r3 H hB a9 b0
    obtain⟨a4,c4,rfl⟩:=Z.o.sl
    refine vS ?_
    refine vD ?_
    refine jcA vY (fun w9 A=>?_);have c0:=Hd (Z.o.mono A);clear A Z;go_wp2_with fail
    go_roundw
    case rel=>exact⟨i,j+1,n+1,_,rfl,by go_num,by omega,by omega,by omega,c0.o,HN.o⟩
    case measure=>exact vJ
  ·have d0:j=m.length:=vO
   by_cases hil:i < l.length
   ·obtain⟨p,hp⟩:∃ p,l[i]?=some p:=⟨_,bA hil⟩
    rcases HV.o with⟨_,_,_,h0⟩ |⟨bl,ol,cl,hh,hb,hc,hcell⟩
    ·rw[h0]at hil;cases hil
    cases hh
    obtain⟨d3,d4⟩:=hcell i p hp
    have Q:=Hd (jaa d3 HR.o.ext);have b4:=Hd (jaa d4 HR.o.ext);have HP:=Hd hp;have b1:(i:Int) < (l.length:Int):=vO
    obtain⟨x1,x2⟩:=p
    simp only at Q b4;clear hcell hb hc hp;have b2:¬(j:Int) < (m.length:Int):=vO
    have eA:((j:Int) ==(m.length:Int))=true:=by simp;omega
    have HN:=Hd (show O++[_]++ja9 _ _=ja9 l m from by rw[bX,gZ, <-jvk HP.o d0];exact J.o);clear d0 J;go_wp2_with fail
    refine jan [0,1,2,3,4,5,6,7,8,9,10,11,12,13,14,15,16,17,18,19,20,21,22,23] Ext ExtR ExtT vY vY vY ?_;iterate 5 refine vK ?_
    iterate 17 (refine qKS _ rfl ?_;refine vS ?_)
    iterate 2 refine vK ?_
    refine qKE (fun w5 A=>?_);have X:=Hd (HR.o.mono ((jaq _).trans A));have e8:=jaa Q.o ((jaq _).trans A);clear A HR Q b4;go_wp2_with (at_builtin;refine jba Tryz.sChgs (X.o.mono ((ExtR _).alloc _)) (.tmp 79) (.tmp 86) rfl rfl rfl (ja3 (Blk.new _ _)) (news:=[.string x1,.string ⟨#[]⟩,.bool true]) (by intro u hu;simp at hu;rcases hu with rfl | rfl | rfl <;> rfl) rfl rfl ?c1 ?c2 (fun v' w' r1 r2 r3=>?_))
    case c1=>unfold maxLen;omega
    case c2=>omega
    have H:CRow w w' v' (n+1) (O++[⟨x1,⟨#[]⟩,true⟩]):=by unfold CRow;rw[jc2];exact r1
    obtain⟨a8,c8,rfl⟩:=H.sl
    have d5:=Hd H;clear r1 r2 r3 H;go_wp2_with fail
    go_roundw
    case rel=>exact⟨i+1,j,n+1,_,by go_num,rfl,by omega,hj,by omega,d5.o,HN.o⟩
    case measure=>exact vJ
   ·have c5:i=l.length:=vO
    have HF:=Hd (show O=R by have h:=J.o;rw[jAc c5 d0,bU, <-e0.o]at h;exact h);have b1:¬(i:Int) < (l.length:Int):=vO
    have b2:¬(j:Int) < (m.length:Int):=vO
    have e5:n=R.length:=by
     have:=HR.o.len
     rw[HF.o]at this;rw[jjI]at this;omega
    have e9:=Hd e5;clear c5 d0 e5 J e0;go_wp2_with fail
    go_ret
    exact⟨_,rfl,by rw[<-e9.o, <-HF.o];exact HR.o⟩
abbrev Chg.k(c:Chg):vN:=c.key.data.toList
def Chg.o(c:Chg):Option vB:=if c.gone then none else some c.value
theorem jhu{k:vN}:∀ {cs:List Chg},(∀ c∈cs,c.k≠k)->∀ o,cs.foldl (jmD k) o=o
 | [],_,_=>rfl
 | c :: r,h,o=>by
  have e:jmD k o c=o:=by unfold jmD;rw[if_neg (fun e=>h c bD e.symm)]
  rw[fI,e,jhu fun x q=>h x (bC _ q)]
theorem jmF{c:Chg}:∀ {cs:List Chg},c∈cs->(cs.map Chg.k).Nodup->∀ o,cs.foldl (jmD c.k) o=c.o
 | [],h,_,_=>by cases h
 | d :: r,h,hn,o=>by
  rw[bV,fA]at hn;rw[fI];rcases bM.1 h with rfl | h
  ·rw[jhu fun x q e=>hn.1 (by rw[<-e];exact jB q)]
   unfold jmD Chg.o;rw[if_pos rfl]
  ·exact jmF h hn.2 _
structure jlR(l m:vL)(cs:List Chg):Prop where
 keys:(cs.map Chg.k).Nodup
 done:∀ c∈cs,look m c.k=c.o
 rest:∀ k,(∀ c∈cs,c.k≠k)->look l k=look m k
 fine:cs.any Chg.bad=false
theorem jlR.looks{l m:vL}{cs:List Chg}(h:jlR l m cs)(k:vN):cs.foldl (jmD k) (look l k)=look m k:=by
 by_cases hk:∃ c∈cs,c.k=k
 ·obtain⟨c,o,rfl⟩:=hk
  rw[jmF o h.keys,h.done c o]
 ·have q:∀ c∈cs,c.k≠k:=fun c o e=>hk ⟨c,o,e⟩
  rw[jhu q,h.rest k q]
def okL(l:vL):Prop:=(∀ p∈l,okP p)/\jnA l
theorem okL.tail{p:Pair}{l:vL}(h:okL (p :: l)):okL l:=⟨fun q e=>h.1 q (bC _ e),(dE.1 h.2).2⟩
theorem okL.head{p:Pair}{l:vL}(h:okL (p :: l)):okP p:=h.1 p bD
theorem okL.lt{p:Pair}{l:vL}(h:okL (p :: l)):∀ q∈l,Lt p.k q.k:=(dE.1 h.2).1
theorem jqK(l m:vL):∀ c∈ja9 l m,c.k∈l.map Pair.k\/c.k∈m.map Pair.k:=by
 fun_induction ja9 l m with
 | case1=>intro c e;cases e
 | case2 p l ih =>
  intro c e;rcases bM.1 e with rfl | e
  ·exact .inl (by simp[Chg.k,Pair.k])
  ·rcases ih c e with h | h
   ·exact .inl (bC _ h)
   ·exact .inr h
 | case3 q m ih =>
  intro c e;rcases bM.1 e with rfl | e
  ·exact .inr (by simp[Chg.k,Pair.k])
  ·rcases ih c e with h | h
   ·exact .inl h
   ·exact .inr (bC _ h)
 | case4 p l q m h ih =>
  intro c e;rcases bM.1 e with rfl | e
  ·exact .inl (by simp[Chg.k,Pair.k])
  ·rcases ih c e with h | h
   ·exact .inl (bC _ h)
   ·exact .inr h
 | case5 p l q m h h2 ih =>
  intro c e;rcases bM.1 e with rfl | e
  ·exact .inr (by simp[Chg.k,Pair.k])
  ·rcases ih c e with h | h
   ·exact .inl h
   ·exact .inr (bC _ h)
 | case6 p l q m h h2 h3 ih =>
  intro c e;rcases ih c e with h | h
  ·exact .inl (bC _ h)
  ·exact .inr (bC _ h)
 | case7 p l q m h h2 h3 ih =>
  intro c e;rcases bM.1 e with rfl | e
  ·exact .inr (by simp[Chg.k,Pair.k])
  ·rcases ih c e with h | h
   ·exact .inl (bC _ h)
   ·exact .inr (bC _ h)
theorem jq6{k:vN}{m:vL}(h:∀ q∈m,Lt k q.k):look m k=none:=jeB fun o=>by
 obtain⟨q,z,e⟩:=bI.1 o
 exact lt_irrefl _ (e ▸ h q z)
theorem jht{k:vN}{l m:vL}(h1:∀ q∈l,Lt k q.k)(h2:∀ q∈m,Lt k q.k):∀ c∈ja9 l m,Lt k c.k:=fun c z=>by
 rcases jqK l m c z with h | h
 ·obtain⟨q,o,e⟩:=bI.1 h;rw[<-e];exact h1 q o
 ·obtain⟨q,o,e⟩:=bI.1 h;rw[<-e];exact h2 q o
theorem jlR.cons{l m l' m':vL}{c:Chg}{cs:List Chg}(h:jlR l m cs)(hk:∀ d∈cs,Lt c.k d.k)(hc:look m' c.k=c.o)(hb:c.bad=false)
  (hl:∀ k,k≠c.k->look l' k=look l k) (hm:∀ k,k≠c.k->look m' k=look m k):jlR l' m' (c :: cs):=by
 refine⟨?_,?_,?_,?_⟩
 ·rw[bV,fA]
  refine⟨fun z=>?_,h.keys⟩
  obtain⟨d,q,e⟩:=bI.1 z
  exact lt_irrefl _ (e ▸ hk d q)
 ·intro d q
  rcases bM.1 q with rfl | q
  ·exact hc
  ·rw[hm _ (fun e=>lt_irrefl _ (e ▸ hk d q)),h.done d q]
 ·intro k z
  have A:k≠c.k:=fun e=>z c bD e.symm;rw[hl k A,hm k A,h.rest k fun d q=>z d (bC _ q)]
 ·rw[List.any_cons,hb,h.fine];rfl
theorem jsM{p:Pair}(h:okP p):Chg.bad ⟨p.1,⟨#[]⟩,true⟩=false:=by
 unfold Chg.bad;rw[h.1];rfl
theorem jtS{p:Pair}(h:okP p):Chg.bad ⟨p.1,p.2,false⟩=false:=by
 unfold Chg.bad;rw[h.1,h.2];rfl
theorem jfr(q:Pair)(m:vL):look (q :: m) q.k=some q.2:=by rw[jbl,if_pos rfl]
theorem jc5{q:Pair}{m:vL}{k:vN}(h:k≠q.k):look (q :: m) k=look m k:=by rw[jbl,if_neg h]
theorem jBU:∀ (l m:vL),okL l->okL m->jlR l m (ja9 l m):=by
 intro l m
 fun_induction ja9 l m with
 | case1=>exact fun _ _=>⟨by simp,by simp,fun _ _=>rfl,rfl⟩
 | case2 p l ih =>
  intro z o;refine (ih z.tail o).cons (jht z.lt (by simp)) rfl (jsM z.head) (fun k A=>jc5 A) (fun _ _=>rfl)
 | case3 q m ih =>
  intro z o;exact (ih z o.tail).cons (jht (by simp) o.lt) (jfr q m) (jtS o.head) (fun _ _=>rfl) (fun k A=>jc5 A)
 | case4 p l q m h ih =>
  intro z o;have J:=(jbS _ _).1 h;have O:∀ x∈q :: m,Lt p.k x.k:=fun x E=>by
   rcases bM.1 E with rfl | E
   ·exact J
   ·exact jd5 _ _ _ J (o.lt x E)
  refine (ih z.tail o).cons (jht z.lt O) (jq6 O) (jsM z.head) (fun k A=>jc5 A) (fun _ _=>rfl)
 | case5 p l q m h h' ih =>
  intro z o;have J:=(jbS _ _).1 h';have X:∀ x∈p :: l,Lt q.k x.k:=fun x E=>by
   rcases bM.1 E with rfl | E
   ·exact J
   ·exact jd5 _ _ _ J (z.lt x E)
  exact (ih z o.tail).cons (jht X o.lt) (jfr q m) (jtS o.head) (fun _ _=>rfl) (fun k A=>jc5 A)
 | case6 p l q m h h' h3 ih =>
  intro z o;have A:p.k=q.k:=by
   rcases jj5 p.k q.k with e | e | e
   ·exact absurd ((jbS _ _).2 e) h
   ·exact e
   ·exact absurd ((jbS _ _).2 e) h'
  have Z:p.2=q.2:=by
   rw[bN,bN]at h3
   obtain⟨⟨⟨a⟩⟩,⟨⟨b⟩⟩⟩:=p
   obtain⟨⟨⟨c⟩⟩,⟨⟨d⟩⟩⟩:=q
   simp at h3;simp[h3]
  have:=jgP A Z
  subst this;have K:=ih z.tail o.tail;have H:=jht z.lt o.lt
  refine⟨K.keys,fun c Q=>?_,fun k hh=>?_,K.fine⟩
  ·rw[jc5 (fun e=>lt_irrefl _ (e ▸ H c Q)),K.done c Q]
  ·by_cases e:k=p.k
   ·rw[e,jfr,jfr]
   ·rw[jc5 e,jc5 e,K.rest k hh]
 | case7 p l q m h h' h3 ih =>
  intro z o;have A:p.k=q.k:=by
   rcases jj5 p.k q.k with e | e | e
   ·exact absurd ((jbS _ _).2 e) h
   ·exact e
   ·exact absurd ((jbS _ _).2 e) h'
  have H:=jht (fun x E=>A ▸ z.lt x E) o.lt;exact (ih z.tail o.tail).cons H (jfr q m) (jtS o.head) (fun k e=>jc5 (by rw[A];exact e)) (fun k e=>jc5 e)
theorem jgx{l:vL}(h:jaD l=0):okL l:=⟨jok h,(jaE h).rise⟩
theorem jjQ{l m:vL}(h1:jaD l=0)(h2:jaD m=0):jlR l m (jdz l m):=by
 unfold jdz;rw[if_pos ⟨h1,h2⟩];exact jBU l m (jgx h1) (jgx h2)
section
attribute [local go_sem] Oper.semAt_some
def revJ(j:Nat):List Nat:=(List.range 16).reverse.take j
theorem jtZ{j:Nat}(h:j < 16):revJ (j+1)=revJ j++[15 - j]:=by
 unfold revJ
 have:(List.range 16).reverse[j]?=some (15 - j):=by
  rw[List.getElem?_reverse (by simpa using h),gJ,fB vO]
 rw[cE,this];rfl
theorem jkR{F:BSet}{w2 w3:vW}{m:Nat}{a:Act}{o:Oper}(ho:execOp a.eval o=(do pure (.value (<-convert 42 9 (.slice (some ⟨w2.heap.size,0,none⟩) 1 1)))))
  (h:jag F (w2.alloc (.cells #[.int .u8 (m:Int)] 5)) w3) (hF:¬ F w2.heap.size) (hm:m < 16):(execOp a.eval o).run Tryz.prog w3=.ok (.value (.string (nib1 m))) w3:=by
 have q:=(Blk.new w2 (.cells #[.int .u8 (m:Int)] 5)).keeps h hF;have e:(m:Int)=((UInt8.ofNat m).toNat:Int):=by rw[joD m vO]
 have z:w3.ownsRow 0 5 1 (.slice (some ⟨w2.heap.size,0,none⟩) 1 1) 1 (jaN [UInt8.ofNat m]):=
  ⟨rfl,.inr ⟨_,1,_,rfl,bY _,q,bL _,by unfold maxLen;omega,rfl,by rw[e];rfl⟩⟩
 have A:=jbj w3 Tryz.uBytes Tryz.uU8 Tryz.uStr z;rw[ho,bS,A];rfl
end
abbrev Key:=vN
abbrev EntK:=Ent Key
def kvE(x:EntK):Key × vV:=(x.1,x.2.1)
def getV(m:List (Key × vV))(k:Key):Option vV:=(m.find? fun x=>decide (k=x.1)).map (·.2)
def putV:List (Key × vV)->Key->vV->List (Key × vV)
 | [],k,v=>[(k,v)]
 | x :: r,k,v=>if k=x.1 then (k,v) :: r else x :: putV r k v
structure MapV(es:List EntK)(ck:Nat)(m:List (Key × Value)):Prop where
 same:es.map kvE=m
 born:(es.map (·.2.2)).Nodup
 lt:∀ x∈es,x.2.2 < ck
 keys:(m.map (·.1)).Nodup
theorem MapV.nil(ck:Nat):MapV [] ck []:=⟨rfl,by simp,by simp,by simp⟩
theorem MapV.len{es:List EntK}{ck:Nat}{m:List (Key × vV)}(h:MapV es ck m):es.length=m.length:=by rw[<-h.same];simp
theorem jxp(k:Key):∀ es:List EntK,jaS es k=getV (es.map kvE) k
 | []=>rfl
 | x :: r=>by
  have e:=jxp k r;unfold getV jaS at *;rw[bV,fT,fT]
  by_cases h:k=x.1
  ·simp[h,kvE]
  ·simp[h,kvE]at e ⊢;exact e
theorem MapV.get{es:List EntK}{ck:Nat}{m:List (Key × vV)}(h:MapV es ck m)(k:Key):jaS es k=getV m k:=by rw[jxp,h.same]
theorem jtR(k:Key)(v:vV)(n:Nat):∀ es:List EntK,(jbo es k v n).map kvE=putV (es.map kvE) k v
 | []=>rfl
 | x :: r=>by
  unfold jbo;rw[bV,putV]
  by_cases h:k=x.1
  ·rw[if_pos h,if_pos (show k=(kvE x).1 from h),bV];rfl
  ·rw[if_neg h,if_neg (show ¬ k=(kvE x).1 from h),bV,jtR k v n r]
theorem jmv(x:EntK)(r:List EntK)(k:Key):jaS (x :: r) k=if k=x.1 then some x.2.1 else jaS r k:=by
 by_cases h:k=x.1 <;> simp[jaS,h]
theorem jm2(k:Key)(v:vV)(n:Nat):∀ es:List EntK,(jbo es k v n).map (·.2.2)=if (jaS es k).isSome then es.map (·.2.2)else es.map (·.2.2)++[n]
 | []=>rfl
 | x :: r=>by
  unfold jbo;rw[jmv]
  by_cases h:k=x.1
  ·rw[if_pos h,if_pos h];simp
  ·rw[if_neg h,if_neg h,bV,jm2 k v n r]
   cases (jaS r k).isSome <;> simp
theorem jm3(k:Key)(v:vV):∀ m:List (Key × vV),(putV m k v).map (·.1)=if k∈m.map (·.1)then m.map (·.1)else m.map (·.1)++[k]
 | []=>rfl
 | x :: r=>by
  rw[putV]
  by_cases h:k=x.1
  ·rw[if_pos h,if_pos (by simp[h])];simp[h]
  ·rw[if_neg h,bV,jm3 k v r]
   by_cases h2:k∈r.map (·.1)
   ·rw[if_pos h2,if_pos (by rw[bV];exact bC _ h2)];rfl
   ·rw[if_neg h2,if_neg (by rw[bV,bM];exact fun e=>e.elim h h2)];rfl
theorem MapV.put{es:List EntK}{ck:Nat}{m:List (Key × vV)}(h:MapV es ck m)(k:Key)(v:vV):MapV (jbo es k v ck) (if (jaS es k).isSome then ck else ck+1) (putV m k v):=by
 have hb:=jm2 k v ck es
 refine⟨by rw[jtR,h.same],?_,?_,?_⟩
 ·rw[hb]
  split
  ·exact h.born
  ·rw[fF]
   refine⟨h.born,by simp,fun a q b hb e=>?_⟩
   obtain⟨x,z,E⟩:=bI.1 q
   have:=h.lt x z
   simp at hb;omega
 ·intro x z
  have o:x.2.2∈(jbo es k v ck).map (·.2.2):=bI.2 ⟨x,z,rfl⟩;rw[hb]at o;split at o
  ·rename_i hs
   rw[if_pos hs]
   obtain⟨y,A,e⟩:=bI.1 o
   rw[<-e];exact h.lt y A
  ·rename_i hs
   rw[if_neg hs];rcases bT.1 o with o | o
   ·obtain⟨y,A,e⟩:=bI.1 o
    have:=h.lt y A;omega
   ·simp at o;omega
 ·rw[jm3]
  split
  ·exact h.keys
  ·rename_i hn
   rw[fF]
   exact⟨h.keys,by simp,fun a q b hb e=>by simp at hb;subst hb;subst e;exact hn q⟩
structure It where
 text:vB
 refs:vM
 used:Int
 held:Int
abbrev Nd5:=Key × Nat × It
abbrev vT:=List Nd5
theorem Tryz.uMapIt:Tryz.prog.underlying 55=some (.map 9 63):=vY
theorem Tryz.zeroIt(w:vW):(zeroValue 63).run Tryz.prog w=.ok (.pointer none) w:=vY
structure je9(W:World)(b:Nat)(it:It):Prop where
 cells:∃ rv,Blk W b (.cells #[.string it.text,rv,.int .i64 it.used,.int .i64 it.held] 65)/\W.ownsRow 0 9 1 rv it.refs.length (it.refs.map Value.string)
def jjo(W:vW)(F:BSet):Prop:=∀ b cur fz,F b->¬ Blk W b (.cells cur 9 fz)
theorem jjo.none(W:vW):jjo W (fun _=>False):=fun _ _ _ h=>h.elim
theorem jgY{W W':vW}{F:BSet}{v:vV}{n:Nat}{xs:List vV}(h:W.ownsRow 0 9 1 v n xs)(k:jag F W W')(hF:jjo W F):W'.ownsRow 0 9 1 v n xs:=by
 refine jaY h k fun b hb z=>?_
 obtain⟨_,⟨o,_⟩ |⟨g,A,q,o,_,E,_⟩⟩:=h
 ·rw[o]at hb;cases hb
 ·rw[o]at hb
  have e:some g=some b:=hb;obtain rfl:=bQ e;exact hF g q (0,0) z E
theorem je9.keeps{W W':vW}{F:BSet}{b:Nat}{it:It}(h:je9 W b it)(k:jag F W W')(hb:¬ F b)(hF:jjo W F):je9 W' b it:=by
 obtain⟨e,o,q⟩:=h.cells
 exact⟨e,o.keeps k hb,jgY q k hF⟩
theorem je9.lt{W:vW}{b:Nat}{it:It}(h:je9 W b it):b < W.heap.size:=by obtain⟨o,e,_⟩:=h.cells;exact e.lt
def kvN(x:Nd5):Key × vV:=(x.1,.pointer (some ⟨x.2.1,0,none⟩))
structure jdy(W:World)(bm:Nat)(L:vT):Prop where
 mp:∃ es ck,Blk W bm (.map (Tryz.ES.arr es) ck)/\MapV es ck (L.map kvN)
 blks:(L.map (·.2.1)).Nodup
 items:∀ x∈L,je9 W x.2.1 x.2.2
theorem jdy.keeps{W W':vW}{F:BSet}{bm:Nat}{L:vT}(h:jdy W bm L)(k:jag F W W')(hm:¬ F bm)(hL:∀ x∈L,¬ F x.2.1)(hF:jjo W F):jdy W' bm L:=by
 obtain⟨o,q,z,A⟩:=h.mp
 exact⟨⟨o,q,z.keeps k hm,A⟩,h.blks,fun x e=>(h.items x e).keeps k (hL x e) hF⟩
theorem jdy.ext{W W':vW}{bm:Nat}{L:vT}(h:jdy W bm L)(k:Ext W W'):jdy W' bm L:=h.keeps k (fun h=>h) (fun _ _ h=>h) (jjo.none W)
def atL(L:vT)(k:Key):Option Nd5:=L.find? fun x=>decide (k=x.1)
theorem jsI(k:Key):∀ L:vT,getV (L.map kvN) k=(atL L k).map fun x=>.pointer (some ⟨x.2.1,0,none⟩)
 | []=>rfl
 | x :: r=>by
  have e:=jsI k r;unfold getV atL at *;rw[bV,fT,fT]
  by_cases h:k=x.1
  ·simp[h,kvN]
  ·simp[h,kvN]at e ⊢;exact e
theorem jaU{L:vT}{k:Key}{x:Nd5}(h:atL L k=some x):x∈L/\x.1=k:=by
 unfold atL at h;have e:=List.find?_some h
 exact⟨List.mem_of_find?_eq_some h,(of_decide_eq_true e).symm⟩
def ptrO(o:Option Nd5):vV:=match o with | some x=>.pointer (some ⟨x.2.1,0,none⟩) | none=>.pointer none
theorem jdy.look{W:vW}{bm:Nat}{L:vT}(h:jdy W bm L)(k:vB)(ok:Bool) :
  (Instr.lookup 55 (.map (some bm)) (.string k) ok).run Tryz.prog W=.ok (if ok then .tuple #[ptrO (atL L k.data.toList),.bool (atL L k.data.toList).isSome]else ptrO (atL L k.data.toList)) W:=by
 obtain⟨q,z,e,o⟩:=h.mp
 have:=jcg Tryz.ES Tryz.uMapIt e (Tryz.zeroIt W) k.data.toList ok
 rw[o.get,jsI]at this;cases ha:atL L k.data.toList with
 | none=>rw[ha]at this;exact this
 | some x=>rw[ha]at this;exact this
structure jax(W:World)(s bm:Nat)(room:Int)(L:vT):Prop where
 st:Blk W s (.cells #[.int .i64 room,.map (some bm)] 57)
 mp:jdy W bm L
theorem jax.ext{W W':vW}{s bm:Nat}{room:Int}{L:vT}(h:jax W s bm room L)(k:Ext W W'):jax W' s bm room L:=⟨h.st.keeps k (fun h=>h),h.mp.ext k⟩
theorem jdF(w:vW)(s bm:Nat)(room:Int)(L:vT)(k:vB)(h:jax w s bm room L):vR 13 #[.pointer (some ⟨s,0,none⟩),.string k] w (optV ((atL L k.data.toList).map (·.2.2.text))):=by
 have A:=h.st.cell (i:=1) (v:=.map (some bm)) vF;have e:=h.mp.look k true;have z:=Hd h.mp.items;simp only[if_true]at e;clear h;cases ha:atL L k.data.toList with
 | none =>
  rw[ha]at e;unfold ptrO at e;simp only[Option.isSome]at e;clear ha;go_enter Tryz.func13,Tryz.ntmps13;go_wp2_with fail
  go_ret2
  exact⟨rfl,ExtR w⟩
 | some x =>
  rw[ha]at e
  obtain⟨E,q,_⟩:=(z.o x (jaU ha).1).cells
  have H:=q.cell (i:=0) (v:=.string x.2.2.text) vF;unfold ptrO at e;simp only[Option.isSome]at e;clear ha q;go_enter Tryz.func13,Tryz.ntmps13;go_wp2_with fail
  go_ret2
  exact⟨rfl,ExtR w⟩
def jn8(o:Option Nd5):Int:=match o with | some x=>x.2.2.held | none=>0
section
attribute [local go_sem] Oper.semAt_some
theorem MapV.lenL{es:List EntK}{ck:Nat}{L:vT}(h:MapV es ck (L.map kvN)):es.length=L.length:=by rw[h.len];simp
theorem jza(w:vW)(s bm:Nat)(room:Int)(L:vT)(h:jax w s bm room L)(h0:0<=room)(e:room<=9223372036854775807)(hl:L.length<=1000000):vR 26 #[.pointer (some ⟨s,0,none⟩)] w (.int .i64 (room - L.length)):=by
 have O:=Hd (h.st.cell (i:=1) (v:=.map (some bm)) vF);have Q:=Hd (h.st.cell (i:=0) (v:=.int .i64 room) vF)
 obtain⟨H,ck,J,q⟩:=h.mp.mp
 have X:=Hd J
 obtain⟨n,A⟩:=vE L.length
 have z:H.length=n:=by rw[q.lenL,A]
 have E:=Hd z;rw[<-A]at hl ⊢;clear h J q z A;go_enter Tryz.func26,Tryz.ntmps26;go_wp2_with fail
 refine jan [0,1,2,3,4,5,6,7,8,9,10] Ext ExtR ExtT vY vY vY ?_
 refine vK ?_
 refine jcB _ (.pointer (some ⟨s,0,none⟩)) rfl vY rfl (fun w1 _=>by kernel_rfl) ?_;refine vS ?_
 refine vK ?_
 refine qKL ⟨s,0,none⟩ _ rfl (fun w1 e=>jac Tryz.underlying3 rfl (jaa Q.o ((jaq _).trans e))) ?_;refine vS ?_
 refine vK ?_
 refine jcB _ (.pointer (some ⟨s,0,none⟩)) rfl vY rfl (fun w1 _=>by kernel_rfl) ?_;refine vS ?_
 refine vK ?_
 refine qKL ⟨s,1,none⟩ _ rfl (fun w1 e=>jac Tryz.underlying55 rfl (jaa O.o ((jaq _).trans e))) ?_;refine vS ?_;refine jcB _ (.int .i64 H.length) rfl vY rfl (fun w1 e=>by
  have Z:=ji8 Tryz.ES Tryz.uMapIt (X.o.keeps ((jaq _).trans e) (fun h=>h)) 3;simp[execOp,Act.eval,resolve,invoke,builtin,Z,bS,Result.andThen,cJ]) ?_
 refine vS ?_;rw[E.o];iterate 2 refine vK ?_
 refine qKE (fun w3 K=>?_);have HE:=Hd ((jaq _).trans K);clear K;go_wp2_with fail
 go_ret
 exact⟨rfl,HE.o⟩
theorem Tryz.makeMapIt(W:vW):(Instr.makeMap 55 none).run Tryz.prog W=.ok (.map (some W.heap.size)) (W.alloc (.map #[] 0)):=vY
theorem jnl(w:vW)(room:Int):vQ 6 #[.int .i64 room] w fun e w'=>∃ s bm,e=.returned (.pointer (some ⟨s,0,none⟩))/\Ext w w'/\jax w' s bm (max room 0) []/\w.heap.size<=bm/\w.heap.size<=s/\s≠bm:=by
 have o:=Tryz.makeMapIt;go_enter Tryz.func6,Tryz.ntmps6;go_wp2_with fail
 go_ret
 refine⟨_,_,rfl,((ExtR w).alloc _).alloc _,⟨?_,⟨[],0,?_,MapV.nil 0⟩,by simp,fun x q=>by cases q⟩,bL _,fW _,by omega⟩
 ·exact (by simpa using Blk.new (w.alloc (.map #[] 0)) (.cells #[.int .i64 (max room 0),.map (some w.heap.size)] 57))
 ·exact (Blk.new w (.map #[] 0)).alloc _
def slN(v:vV):Nat:=match v with | .slice _ n _=>n | _=>0
def jkB(s:List EntK):Array Nat:=(s.map (·.2.2)).toArray
def keyS(s:List EntK):List vV:=(s.map (·.1)).map encStr
structure HaS(w:World)(r bm ck:Nat)(es s:List EntK)(v:Value)(W:World):Prop where
 row:ORow 9 1 w W v s.length (keyS s)
 it:Blk W r (.mapIter (some bm) ck (jkB s) ck)
 sub:∀ x∈s,x∈es
 nd:(s.map (·.2.2)).Nodup
 ne:∀ b,v.ownBlock=some b->b≠r
theorem jgN{α β:Type}(f:α->β):∀ {l:List α},(l.map f).Nodup->l.Nodup
 | [],_=>gW
 | x :: r,h=>by
  rw[bV,fA]at h;exact fA.2 ⟨fun e=>h.1 (bI.2 ⟨x,e,rfl⟩),jgN f h.2⟩
theorem HaS.len{w:vW}{r bm ck:Nat}{es s:List EntK}{v:vV}{W:vW}(h:HaS w r bm ck es s v W):s.length<=es.length:=
 iC (jgN _ h.nd) (fun x e=>h.sub x e)
theorem HaS.done{w:vW}{r bm ck:Nat}{es s:List EntK}{v:vV}{W:vW}(h:HaS w r bm ck es s v W)(h0:jaX es (jkB s)=[])(hb:(es.map (·.2.2)).Nodup):s.Perm es:=by
 refine (List.perm_ext_iff_of_nodup (jgN _ h.nd) (jgN _ hb)).2 fun x=>⟨fun o=>h.sub x o,fun o=>?_⟩
 by_cases hc:x.2.2∈s.map (·.2.2)
 ·obtain⟨y,q,e⟩:=bI.1 hc
  have:y=x:=jbJ hb (h.sub y q) o e
  exact this ▸ q
 ·have:x∈jaX es (jkB s):=cN.2 ⟨o,by unfold jkB;simpa using hc⟩
  rw[h0]at this;cases this
def jBj(w:vW)(r bm ck:Nat)(es:List EntK)(v:vV)(W:vW):Prop:=∃ s,HaS w r bm ck es s v W
end
noncomputable def itOf(t:vB):It:=⟨t,jaK (nodeOf t),0,0⟩
noncomputable def ky(t:vB):Key:=(shaB t).data.toList
noncomputable def addG(m:List (Key × It))(t:vB):List (Key × It):=if m.any (fun x=>decide (ky t=x.1))then m else m++[(ky t,itOf t)]
noncomputable def readG(L:vM):List (Key × It):=L.foldl addG []
def kvI(x:Nd5):Key × It:=(x.1,x.2.2)
theorem jkz{L:vT}{k:Key}:atL L k=none↔∀ x∈L,k≠x.1:=by
 unfold atL;rw[List.find?_eq_none];simp
theorem jxY{L:vT}{k:Key}:(L.map kvI).any (fun x=>decide (k=x.1))=(atL L k).isSome:=by
 rw[List.any_map];unfold atL;rw[List.isSome_find?];rfl
theorem jiC(k:Key)(v:vV)(n:Nat):∀ es:List EntK,jaS es k=none->jbo es k v n=es++[(k,v,n)]
 | [],_=>rfl
 | x :: r,h=>by
  rw[jmv]at h;unfold jbo
  by_cases hk:k=x.1
  ·rw[if_pos hk]at h;cases h
  ·rw[if_neg hk]at h ⊢
   rw[jiC k v n r h];rfl
theorem jdy.put{W:vW}{bm:Nat}{L:vT}(h:jdy W bm L)(k:vB)(hk:atL L k.data.toList=none){b:Nat}{it:It}(hb:je9 W b it)(hn:∀ x∈L,x.2.1≠b) :
  ∃ o,(Instr.mapUpdate 55 (.map (some bm)) (.string k) (.pointer (some ⟨b,0,none⟩))).run Tryz.prog W=.ok () (W.putObj bm o)/\jdy (W.putObj bm o) bm (L++[(k.data.toList,b,it)]):=by
 obtain⟨X,K,H,O⟩:=h.mp
 have Z:jaS X k.data.toList=none:=by rw[O.get,jsI,hk];rfl
 have A:=jb5 Tryz.ES Tryz.uMapIt H k.data.toList (.pointer (some ⟨b,0,none⟩));have Q:=O.put k.data.toList (.pointer (some ⟨b,0,none⟩));rw[Z]at A Q;simp only[Option.isSome_none,cO,if_false]at A Q;have hK:jag (fun z=>z=bm) W (W.putObj bm (.map (Tryz.ES.arr (jbo X k.data.toList (.pointer (some ⟨b,0,none⟩)) K)) (K+1))):=jag.onePut W bm _;have hN:jjo W (fun z=>z=bm):=fun z a0 fz e hz=>by
  have e:z=bm:=e;subst e
  have:=H.uniq hz;cases this
 have E:∀ {c:Nat} {i:It},je9 W c i->¬ c=bm:=fun hi e=>by
  obtain⟨_,J,_⟩:=hi.cells
  subst e
  have:=H.uniq J;cases this
 refine⟨_,A,⟨_,_,H.put_same _,?_⟩,?_,?_⟩
 ·have e:putV (L.map kvN) k.data.toList (.pointer (some ⟨b,0,none⟩))=(L++[(k.data.toList,b,it)]).map kvN:=by
   rw[bZ, <-O.same, <-jtR,jiC _ _ K _ Z,bZ];rfl
  rw[<-e];exact Q
 ·rw[bZ,fF]
  exact⟨h.blks,by simp,fun a ha c J e=>by
   simp at J;subst J;subst e
   obtain⟨x,q,e⟩:=bI.1 ha
   exact hn x q e⟩
 ·intro x q
  rcases bT.1 q with q | q
  ·exact (h.items x q).keeps hK (E (h.items x q)) hN
  ·simp only[bP]at q
   subst q;exact hb.keeps hK (E hb) hN
structure ReS(w:World)(bg:Nat)(G:vT)(T:vM)(W:World):Prop where
 ext:Ext w W
 at':jdy W bg G
 is:G.map kvI=readG T
 new:w.heap.size<=bg
 news:∀ x∈G,w.heap.size<=x.2.1
theorem ReS.keeps{w:vW}{bg:Nat}{G:vT}{T:vM}{W W':vW}(h:ReS w bg G T W)(e:Ext W W'):ReS w bg G T W':=⟨h.ext.trans e,h.at'.ext e,h.is,h.new,h.news⟩
theorem jrf{L:vM}{i:Nat}{t:vB}(h:L[i]?=some t):readG (L.take (i+1))=addG (readG (L.take i)) t:=by
 unfold readG;rw[cE,h,fM];rfl
section
attribute [local go_sem] Oper.semAt_some
def frK(S:vT)(M:vM):vM:=(ja7 M).filter fun y=>(atL S y.data.toList).isNone
structure Meet(w0:World)(s:Nat)(S:vT)(bg b:Nat)(M:vM)(W:World):Prop where
 ext:Ext w0 W
 lo:w0.heap.size<=b
 c3:Blk W b (.cells #[.pointer (some ⟨s,0,none⟩)] 25)
 c5:Blk W (b+1) (.cells #[.map (some bg)] 55)
 c9:Blk W (b+4) (.cells #[.map (some (b+3))] 82)
 tab:∃ es ck,Blk W (b+3) (.map (Tryz.ES.arr es) ck)/\∀ y:vB,jaS es y.data.toList=cntV (cntB M y)
 var:∃ v n,Blk W (b+2) (.cells #[v] 22)/\W.ownsRow 0 9 1 v n ((frK S M).map Value.string)/\n<=M.length/\∀ z,v.ownBlock=some z->b+5<=z
theorem Meet.keeps{w0:vW}{s:Nat}{S:vT}{bg b:Nat}{M:vM}{W W':vW}(h:Meet w0 s S bg b M W)(e:Ext W W'):Meet w0 s S bg b M W':=by
 obtain⟨o,q,z,A⟩:=h.tab
 obtain⟨v,n,E,H,J,K⟩:=h.var
 exact⟨h.ext.trans e,h.lo,h.c3.keeps e (fun g=>g),h.c5.keeps e (fun g=>g),h.c9.keeps e (fun g=>g),⟨o,q,z.keeps e (fun g=>g),A⟩,v,n,E.keeps e (fun g=>g),jbm H e,J,K⟩
theorem jpj(S:vT)(M:vM)(x:vB):frK S (M++[x])=if memB (ja7 M) x=true then frK S M else if (atL S x.data.toList).isNone then frK S M++[x]else frK S M:=by
 unfold frK;rw[jgh];unfold addF;split
 ·rfl
 ·rw[gT]
  split
  ·rename_i h;rw[List.filter_cons_of_pos (by simpa using h)];rfl
  ·rename_i h;rw[List.filter_cons_of_neg (by simpa using h)];simp
theorem jse(M:vM)(x y:vB):cntB (M++[x]) y=cntB M y+(if x.data.toList=y.data.toList then 1 else 0):=by
 unfold cntB;rw[bZ,List.count_append,bV,iL,List.count_singleton]
 simp
def jcp(G:vT)(x:vB):vM:=match atL G x.data.toList with | some y=>y.2.2.refs | none=>[]
theorem jfU{G:vT}{x:vB}{y:Nd5}(h:atL G x.data.toList=some y):jcp G x=y.2.2.refs:=by unfold jcp;rw[h]
theorem jmt(S:vT)(M:vM):(frK S M).Nodup:=(jhO M).sublist List.filter_sublist
theorem jgi{S:vT}{M:vM}{x:vB}:x∈frK S M↔x∈M/\atL S x.data.toList=none:=by
 unfold frK;rw[cN,jaQ];simp
theorem jnK{x y:vB}(h:x.data.toList=y.data.toList):x=y:=ByteArray.ext (Array.ext' h)
theorem jpi(S:vT)(M:vM):∀ T:vM,∃ X,frK S (M++T)=frK S M++X
 | []=>⟨[],by simp⟩
 | x :: T=>by
  obtain⟨X,o⟩:=jpi S (M++[x]) T
  have e:M++x :: T=M++[x]++T:=by simp
  rw[e,o,jpj];split
  ·exact⟨X,rfl⟩
  ·split
   ·exact⟨x :: X,by simp⟩
   ·exact⟨X,rfl⟩
theorem jtj(w0:vW)(s:Nat)(S:vT)(bg:Nat):Meet w0 s S bg w0.heap.size [] (((((w0.alloc (.cells #[.pointer (some ⟨s,0,none⟩)] 25)).alloc (.cells #[.map (some bg)] 55)).alloc (.cells #[.slice none 0 0] 22)).alloc (.map #[] 0)).alloc (.cells #[.map (some (w0.heap.size+3))] 82)):=by
 obtain⟨e,H⟩:=vE (w0.alloc (.cells #[.pointer (some ⟨s,0,none⟩)] 25))
 obtain⟨o,J⟩:=vE (e.alloc (.cells #[.map (some bg)] 55))
 obtain⟨q,K⟩:=vE (o.alloc (.cells #[.slice none 0 0] 22))
 obtain⟨A,O⟩:=vE (q.alloc (.map #[] 0))
 obtain⟨W5,X⟩:=vE (A.alloc (.cells #[.map (some (w0.heap.size+3))] 82))
 rw[<-H, <-J, <-K, <-O, <-X];have z1:e.heap.size=w0.heap.size+1:=by rw[H,bK]
 have z2:o.heap.size=w0.heap.size+2:=by rw[J,bK,z1]
 have z3:q.heap.size=w0.heap.size+3:=by rw[K,bK,z2]
 have z4:A.heap.size=w0.heap.size+4:=by rw[O,bK,z3]
 have e1:Ext w0 e:=by rw[H];exact (ExtR w0).alloc _
 have e2:Ext e o:=by rw[J];exact (ExtR e).alloc _
 have Z:Ext o q:=by rw[K];exact (ExtR o).alloc _
 have Q:Ext q A:=by rw[O];exact (ExtR q).alloc _
 have E:Ext A W5:=by rw[X];exact (ExtR A).alloc _
 have b1:=by have:=Blk.new w0 (.cells #[.pointer (some ⟨s,0,none⟩)] 25);rw[<-H]at this;exact this
 have b2:=by have:=Blk.new e (.cells #[.map (some bg)] 55);rw[<-J,z1]at this;exact this
 have b3:=by have:=Blk.new o (.cells #[.slice none 0 0] 22);rw[<-K,z2]at this;exact this
 have b4:=by have:=Blk.new q (.map #[] 0);rw[<-O,z3]at this;exact this
 have b5:=by have:=Blk.new A (.cells #[.map (some (w0.heap.size+3))] 82);rw[<-X,z4]at this;exact this
 exact⟨(((e1.trans e2).trans Z).trans Q).trans E,bL _,b1.keeps (((e2.trans Z).trans Q).trans E) (fun g=>g),b2.keeps ((Z.trans Q).trans E) (fun g=>g),b5,
  ⟨[],0,b4.keeps E (fun g=>g),fun y=>rfl⟩,.slice none 0 0,0,b3.keeps (Q.trans E) (fun g=>g),fL _ _ _ _,bL _,fun z hz=>by cases hz⟩
theorem jkb{w:vW}{v:vV}{n:Nat}{xs:vM}(h:w.ownsRow 0 9 1 v n (xs.map Value.string)):RdS w v xs:=by
 have q:xs.length=n:=by have:=h.1;simpa using this
 obtain⟨_,⟨rfl,H⟩ |⟨g,e,z,rfl,J,A,E,K,O⟩⟩:=id h
 ·exact .inl ⟨none,0,rfl,bG vO⟩
 ·subst q
  refine .inr ⟨g,0,e,rfl,(dK.1 A).1,E,fun j x o=>?_⟩;have Q:=(bW.1 o).1
  have:=h.cellAt j vO
  rw[cR,this,cA,o];rfl
theorem jre(L:vM)(t:vB):readG (L++[t])=addG (readG L) t:=by unfold readG;rw[fM];rfl
theorem jfv(L:vM):(∀ p∈readG L,∃ t∈L,p=(ky t,itOf t))/\(∀ t∈L,∃ p∈readG L,p.1=ky t)/\(readG L).length<=L.length:=by
 suffices h:∀ (R o:vM),((∀ p∈readG o,∃ t∈o,p=(ky t,itOf t))/\(∀ t∈o,∃ p∈readG o,p.1=ky t)/\(readG o).length<=o.length)->(∀ p∈readG (o++R),∃ t∈o++R,p=(ky t,itOf t))/\(∀ t∈o++R,∃ p∈readG (o++R),p.1=ky t)/\(readG (o++R)).length<=(o++R).length from by
  have:=h L [] ⟨fun p z=>(by cases z),fun t A=>(by cases A),bL _⟩
  simpa using this
 intro R;induction R with
 | nil=>intro o h;simpa using h
 | cons t R ih =>
  intro o ⟨h1,h2,h3⟩
  have:=ih (o++[t]) (by
   rw[jre];unfold addG;split
   ·rename_i hb
    obtain⟨p,z,e⟩:=fQ.1 hb
    refine⟨fun p z=>by obtain⟨x,q,e⟩:=h1 p z;exact⟨x,bT.2 (.inl q),e⟩,fun x q=>?_,by rw[bF];exact bH h3 (Nat.le_add_right _ _)⟩
    rcases bT.1 q with q | q
    ·exact h2 x q
    ·simp only[bP]at q;subst q;exact⟨p,z,(of_decide_eq_true e).symm⟩
   ·refine⟨fun p z=>?_,fun x q=>?_,by rw[bF,bF];exact Nat.add_le_add_right h3 1⟩
    ·rcases bT.1 z with z | z
     ·obtain⟨x,q,e⟩:=h1 p z;exact⟨x,bT.2 (.inl q),e⟩
     ·simp only[bP]at z;subst z;exact⟨t,by simp,rfl⟩
    ·rcases bT.1 q with q | q
     ·obtain⟨p,z,e⟩:=h2 x q;exact⟨p,bT.2 (.inl z),e⟩
     ·simp only[bP]at q;subst q;exact⟨(ky x,itOf x),by simp,rfl⟩)
  simpa using this
structure jzW(L:vM):Prop where
 node:∀ t∈L,∃ n,jbc t n
 shut:∀ t∈L,∀ h∈jaK (nodeOf t),∃ t'∈L,h=shaB t'
 few:L.length<=1000
theorem jmx{L:vM}{G:vT}(h:G.map kvI=readG L){t:vB}(ht:t∈L):(atL G (shaB t).data.toList).isSome=true:=by
 obtain⟨p,o,e⟩:=(jfv L).2.1 t ht
 rw[<-h]at o
 obtain⟨x,q,rfl⟩:=bI.1 o
 cases ha:atL G (shaB t).data.toList with
 | some y=>rfl
 | none=>exact absurd e.symm (jkz.1 ha x q)
theorem jcL{L:vM}{G:vT}(h:G.map kvI=readG L){x:Nd5}(hx:x∈G):∃ t∈L,x.1=ky t/\x.2.2=itOf t:=by
 obtain⟨t,o,e⟩:=(jfv L).1 (kvI x) (by rw[<-h];exact bI.2 ⟨x,hx,rfl⟩)
 exact⟨t,o,congrArg Prod.fst e,congrArg Prod.snd e⟩
def putF(f:Nat)(v:Int)(it:It):It:=if f=2 then { it with used:=v }else { it with held:=v }
def setB(f c:Nat)(v:Int)(x:Nd5):Nd5:=if x.2.1=c then (x.1,x.2.1,putF f v x.2.2)else x
theorem jwH(f c:Nat)(v:Int)(L:vT):(L.map (setB f c v)).map kvN=L.map kvN:=by
 rw[dL];refine dF (fun x _=>?_);simp only[Function.comp,setB];split <;> rfl
theorem jwG(f c:Nat)(v:Int)(L:vT):(L.map (setB f c v)).map (·.2.1)=L.map (·.2.1):=by
 rw[dL];refine dF (fun x _=>?_);simp only[Function.comp,setB];split <;> rfl
theorem jdy.setF{W:vW}{bm:Nat}{L:vT}(h:jdy W bm L){c:Nat}{it:It}(hc:je9 W c it){f:Nat}(hf:f=2\/f=3)(v:Int):jdy (W.setCell ⟨c,f,none⟩ (.int .i64 v)) bm (L.map (setB f c v)):=by
 obtain⟨rv,o,O⟩:=hc.cells
 have q:jag (fun z=>z=c) W (W.setCell ⟨c,f,none⟩ (.int .i64 v)):=jag.oneSet W ⟨c,f,none⟩ _;have hN:jjo W (fun z=>z=c):=fun z Q fz e X=>by
  have e:z=c:=e;subst e
  have:=o.uniq X;injection this with _ A;exact absurd A vI
 obtain⟨Z,ck,J,A⟩:=h.mp
 have E:bm≠c:=fun e=>by subst e;have:=J.uniq o;cases this
 refine⟨⟨Z,ck,J.keeps q E,by rw[jwH];exact A⟩,by rw[jwG];exact h.blks,fun x hx=>?_⟩
 obtain⟨y,hy,rfl⟩:=bI.1 hx
 have K:=h.items y hy;unfold setB;split
 ·rename_i e
  obtain⟨H,hb,hr⟩:=K.cells
  rw[e]at hb
  refine⟨H,?_,?_⟩
  ·show Blk _ y.2.1 _
   rw[e];rcases hf with rfl | rfl
   ·exact hb.set_same (i:=2) _
   ·exact hb.set_same (i:=3) _
  ·have:=jgY hr q hN
   rcases hf with rfl | rfl <;> exact this
 ·rename_i e
  exact K.keeps q e hN
end
def HasS(S:vT)(t:vB):Prop:=∃ x,atL S (ky t)=some x/\x.2.2.text=t
structure HasM(S:vT)(l:vL):Prop where
 ok:jaD l=0
 has:∀ x∈jau (jay l),HasS S x
def AllN(S:vT):Prop:=∀ x∈S,∃ n,jbc x.2.2.text n
def jgs(S:vT)(r:vB)(o:Option jad):Prop:=
 (∃ d m,InlD d r m/\o=some m)\/∃ h:vB,h.size=32/\r=jaz h/\((atL S h.data.toList=none/\o=none)\/∃ y n,atL S h.data.toList=some y/\jbc y.2.2.text n/\o=some n)
theorem jgs.good{S:vT}{r:vB}{n:jad}(h:jgs S r (some n)):∃ d,jbd (InlD d) n:=by
 rcases h with⟨d,m,h1,h2⟩ |⟨h,_,_,⟨_,h2⟩ |⟨y,m,_,h1,h2⟩⟩
 ·cases d with
  | zero=>exact h1.elim
  | succ d=>cases h2;exact⟨d,h1.1⟩
 ·cases h2
 ·cases h2;exact h1.2
def jw3(r:vB):Prop:=∃ d,MayP (InlD d) r
theorem jAT{S:vT}(hN:AllN S){r:vB}(h:jw3 r):∃ o,jgs S r o:=by
 obtain⟨d,⟨h,e,q⟩ |⟨m,h⟩⟩:=h
 ·cases hy:atL S h.data.toList with
  | none=>exact⟨none,.inr ⟨h,e,q,.inl ⟨hy,rfl⟩⟩⟩
  | some y =>
   obtain⟨n,z⟩:=hN y (jaU hy).1
   exact⟨some n,.inr ⟨h,e,q,.inr ⟨y,n,hy,z,rfl⟩⟩⟩
 ·exact⟨some m,.inl ⟨d,m,h,rfl⟩⟩
theorem jyq{S:vT}{f:Nat}{T:PT}{n:jad}(hSt:jdZ f T n)(hH:32<=T.text.size->HasS S T.text):jgs S (refB T.text) (some n):=by
 by_cases hz:T.text.size < 32
 ·exact .inl ⟨f+1,n,hSt.may.2 hz,rfl⟩
 ·obtain⟨y,e,o⟩:=hH vO
  refine .inr ⟨shaB T.text,jbb _,jfT hz,.inr ⟨y,n,e,?_,rfl⟩⟩;rw[o]
  exact⟨hSt.text,f,hSt.good⟩
section
attribute [local go_sem] Oper.semAt_some
theorem jpH{w:vW}{B:Nat}{T:TypeId}{sz g n cap m:Nat}{xs:List vV}(h:w.ownsRow B T sz (.slice (some ⟨g,0,none⟩) n cap) n xs)(hm:m<=n):w.ownsRow B T sz (.slice (some ⟨g,0,none⟩) m cap) m (xs.take (m * sz)):=by
 obtain⟨A,⟨e,_⟩ |⟨E,z,o,e,H,J,K,O,Q,X⟩⟩:=h
 ·cases e
 ·have q:m * sz<=n * sz:=Nat.mul_le_mul_right _ hm
  obtain⟨Z,_,hc⟩:=fY e
  have hg:g=E:=by have:=bQ Z;exact congrArg Addr.block this
  subst hg hc
  refine⟨by rw[dM,A];omega,.inr ⟨g,cap,o,rfl,H,J,bH hm K,O,Q,?_⟩⟩
  rw[<-X,List.take_take,gR q]
theorem jeq(x y:vB):∀ u∈[Value.string x,.string y],u.oneCell'=true:=by
 intro u e;simp at e;rcases e with rfl | rfl <;> rfl
theorem jpL(k:vB):jdt (jaM k)=true:=by
 unfold jdt;rw[jbL,jcJ];simp
theorem jiW:∀ l:vN,jc7 (jcR l)=l
 | []=>rfl
 | b :: l=>by
  have h:(b >>> 4) <<< 4 |||(b &&& 15)=b:=by
   have h:∀ b:Fin 256,((UInt8.ofNat b.1) >>> 4) <<< 4 |||((UInt8.ofNat b.1) &&& 15)=UInt8.ofNat b.1:=by decide +kernel
   have:=h ⟨b.toNat,b.toNat_lt⟩
   simpa only[iN]using this
  show ((b >>> 4) <<< 4 |||(b &&& 15)) :: jc7 (jcR l)=_;rw[h,jiW l]
theorem jfR(k:vB):jbC (jaM k)=k:=by
 unfold jbC jaM;show (⟨(jc7 (jcR k.data.toList)).toArray⟩:vB)=k;rw[jiW]
end
def jlT(l:vL):Prop:=l.Pairwise fun p q=>jb0 p.1 q.1=true
theorem jlT.tail{p:Pair}{l:vL}(h:jlT (p :: l)):jlT l:=(dE.1 h).2
theorem jlT.o(hi:∀ x,jb0 x x=false){p:Pair}{l:vL}(h:jlT (p :: l)):p ∉ l:=fun e=>by
 have:=(dE.1 h).1 p e
 rw[hi]at this;cases this
theorem jsu(hi:∀ x,jb0 x x=false)(ht:∀ x y,jb0 x y=true->jb0 y x=false)(htr:∀ x y z,jb0 x y=true->jb0 y z=true->jb0 x z=true)(heq:∀ x y,jb0 x y=false->jb0 y x=false->x=y)
  (P:Pair->Bool):∀ (l m:vL),jlT l->jlT m->(∀ p,P p=true->(p∈l↔p∈m))->ja9 (l.filter fun p => !P p) (m.filter fun p => !P p)=ja9 l m:=by
 intro l m
 fun_induction ja9 l m with
 | case1=>intros;simp[ja9]
 | case2 p l ih =>
  intro J K E;have Q:P p=false:=by
   cases e:P p with
   | false=>rfl
   | true=>exact absurd ((E p e).1 bD) (by simp)
  have:=ih J.tail K (fun q X=>⟨fun A=>(E q X).1 (bC _ A),fun A=>by simp at A⟩)
  simp only[dU,Q,Bool.not_false,if_true,List.filter_nil]at this ⊢;rw[ja9,this]
 | case3 q m ih =>
  intro J K E;have X:P q=false:=by
   cases e:P q with
   | false=>rfl
   | true=>exact absurd ((E q e).2 bD) (by simp)
  have:=ih J K.tail (fun p Q=>⟨fun A=>by simp at A,fun A=>(E p Q).2 (bC _ A)⟩)
  simp only[dU,X,Bool.not_false,if_true,List.filter_nil]at this ⊢;rw[ja9,this]
 | case4 p l q m hlt ih =>
  intro J K E;have Q:P p=false:=by
   cases e:P p with
   | false=>rfl
   | true =>
    rcases bM.1 ((E p e).1 bD)with rfl | A
    ·rw[hi]at hlt;cases hlt
    ·have:=ht _ _ ((dE.1 K).1 p A)
     rw[hlt]at this;cases this
  have O:=ih J.tail K (fun x H=>⟨fun A=>(E x H).1 (bC _ A),fun A=>by
   rcases bM.1 ((E x H).2 A)with rfl | h
   ·rw[Q]at H;cases H
   ·exact h⟩)
  rw[dU,if_pos (by rw[Q];rfl)];cases A:(q :: m).filter fun p => !P p with
  | nil=>rw[A]at O;rw[ja9,O]
  | cons q' m' =>
   have a0:q'∈q :: m:=(cN.1 (by rw[A];exact bD:q'∈(q :: m).filter fun p => !P p)).1;have hl:jb0 p.1 q'.1=true:=by
    rcases bM.1 a0 with rfl | h
    ·exact hlt
    ·exact htr _ _ _ hlt ((dE.1 K).1 q' h)
   rw[A]at O;rw[ja9,if_pos hl,O]
 | case5 p l q m hlt hgt ih =>
  intro J K E;have X:P q=false:=by
   cases e:P q with
   | false=>rfl
   | true =>
    rcases bM.1 ((E q e).2 bD)with rfl | A
    ·rw[hi]at hgt;cases hgt
    ·have:=ht _ _ ((dE.1 J).1 q A)
     rw[hgt]at this;cases this
  have O:=ih J K.tail (fun x H=>⟨fun A=>by
   rcases bM.1 ((E x H).1 A)with rfl | h
   ·rw[X]at H;cases H
   ·exact h,fun A=>(E x H).2 (bC _ A)⟩)
  rw[show (q :: m).filter (fun p => !P p)=q :: m.filter fun p => !P p by rw[dU,if_pos (by rw[X];rfl)]];cases A:(p :: l).filter fun p => !P p with
  | nil=>rw[A]at O;rw[ja9,O]
  | cons p' l' =>
   have a1:p'∈p :: l:=(cN.1 (by rw[A];exact bD:p'∈(p :: l).filter fun p => !P p)).1;have hl:jb0 q.1 p'.1=true:=by
    rcases bM.1 a1 with rfl | h
    ·exact hgt
    ·exact htr _ _ _ hgt ((dE.1 J).1 p' h)
   rw[A]at O;rw[ja9,if_neg (by rw[ht _ _ hl];simp),if_pos hl,O]
 | case6 p l q m hlt hgt hv ih =>
  intro J K E;have hk:p.1=q.1:=heq _ _ (by simpa using hlt) (by simpa using hgt);have a2:p=q:=Prod.ext hk (by
   have h:p.2.toList=q.2.toList:=by simpa using hv
   rw[bN,bN]at h;exact jck h)
  subst a2;have O:=ih J.tail K.tail (fun x H=>by
   have h:=E x H;constructor
   ·intro A
    rcases bM.1 (h.1 (bC _ A))with rfl | h3
    ·exact absurd A (J.o hi)
    ·exact h3
   ·intro A
    rcases bM.1 (h.2 (bC _ A))with rfl | h3
    ·exact absurd A (K.o hi)
    ·exact h3)
  cases e:P p with
  | true=>rw[dU,if_neg (by rw[e];simp),dU,if_neg (by rw[e];simp)];exact O
  | false =>
   rw[dU,if_pos (by rw[e];rfl),dU,if_pos (by rw[e];rfl),ja9,if_neg hlt,if_neg hgt,if_pos hv];exact O
 | case7 p l q m hlt hgt hv ih =>
  intro J K E;have hk:p.1=q.1:=heq _ _ (by simpa using hlt) (by simpa using hgt);have Z:¬ p=q:=fun e=>hv (by rw[e];simp);have Q:P p=false:=by
   cases e:P p with
   | false=>rfl
   | true =>
    rcases bM.1 ((E p e).1 bD)with h | A
    ·exact absurd h Z
    ·have:=(dE.1 K).1 p A
     rw[<-hk,hi]at this;cases this
  have X:P q=false:=by
   cases e:P q with
   | false=>rfl
   | true =>
    rcases bM.1 ((E q e).2 bD)with h | A
    ·exact absurd h.symm Z
    ·have:=(dE.1 J).1 q A
     rw[hk,hi]at this;cases this
  have O:=ih J.tail K.tail (fun x H=>by
   have h:=E x H;constructor
   ·intro A
    rcases bM.1 (h.1 (bC _ A))with rfl | h3
    ·rw[X]at H;cases H
    ·exact h3
   ·intro A
    rcases bM.1 (h.2 (bC _ A))with rfl | h3
    ·rw[Q]at H;cases H
    ·exact h3)
  rw[dU,if_pos (by rw[Q];rfl),dU,if_pos (by rw[X];rfl),ja9,if_neg hlt,if_neg hgt,if_neg hv,O]
end Go.Proofs.YtepbencaoiompaaGreatDoor
