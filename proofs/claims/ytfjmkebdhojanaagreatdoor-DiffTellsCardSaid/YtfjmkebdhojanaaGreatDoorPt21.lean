/- Lemmas; each is under no condition but those that it states. -/
import Derived.Test.YtfjmkebdhojanaaGreatDoorPt20
namespace Go.Proofs.YtfjmkebdhojanaaGreatDoor
set_option linter.unusedSimpArgs false
set_option linter.unusedVariables false
set_option maxRecDepth 100000
set_option maxHeartbeats 16000000
open Go Go.RowKit
theorem jnk(m:vL)(k:vN):valM m k=(look m k).getD ⟨#[]⟩:=rfl
theorem jiM{k:vN}:∀ {m:vL},k∈m.map Pair.k->∃ v,look m k=some v
 | [],h=>by cases h
 | q :: r,h=>by
  rw[jbm]
  by_cases e:k=q.k
  ·exact⟨_,if_pos e⟩
  ·rw[if_neg e]
   rcases bM.1 h with h | h
   ·exact absurd h e
   ·exact jiM h
theorem jpo{k:vN}{v:vB}:∀ {m:vL},look m k=some v->∃ p∈m,p.k=k/\p.2=v
 | [],h=>by cases h
 | q :: r,h=>by
  rw[jbm]at h
  by_cases e:k=q.k
  ·rw[if_pos e]at h
   exact⟨q,bG,e.symm,bO h⟩
  ·rw[if_neg e]at h
   obtain⟨p,o,A⟩:=jpo h
   exact⟨p,bD _ o,A⟩
theorem joS(k:vB):∀ m:vL,(delM m k).map Pair.k=(m.map Pair.k).erase k.data.toList
 | []=>rfl
 | q :: r=>by
  rw[delM,bS,List.erase_cons]
  by_cases h:k.data.toList=q.k
  ·rw[if_pos h,if_pos (by simp[h])]
  ·rw[if_neg h,if_neg (by intro e;exact h (by simpa using (eq_of_beq e).symm)),bS,joS k r]
theorem jmN(p:Pair):∀ m:vL,(putM m p).map Pair.k=if p.k∈m.map Pair.k then m.map Pair.k else m.map Pair.k++[p.k]
 | []=>rfl
 | q :: r=>by
  rw[putM]
  by_cases h:p.k=q.k
  ·rw[if_pos h,if_pos (by simp[h])];simp[h]
  ·rw[if_neg h,bS,jmN p r]
   by_cases h2:p.k∈r.map Pair.k
   ·rw[if_pos h2,if_pos (by rw[bS];exact bD _ h2)];rfl
   ·rw[if_neg h2,if_neg (by rw[bS,bM];exact fun e=>e.elim h h2)];rfl
theorem jmO(p:Pair){m:vL}(h:(m.map Pair.k).Nodup):((putM m p).map Pair.k).Nodup:=by
 rw[jmN];split
 ·exact h
 ·rename_i hn
  rw[fL]
  exact⟨h,by simp,fun a o b hb e=>by simp at hb;subst hb;subst e;exact hn o⟩
theorem jr8(k:vB){m:vL}(h:(m.map Pair.k).Nodup):((delM m k).map Pair.k).Nodup:=by
 rw[joS];exact h.erase _
theorem ju5(c:Chg){m:vL}(h:(m.map Pair.k).Nodup):((doM m c).map Pair.k).Nodup:=by
 unfold doM;split
 ·exact jr8 _ h
 ·exact jmO _ h
theorem jl4:∀ (cs:List Chg) {m:vL},(m.map Pair.k).Nodup->((cs.foldl doM m).map Pair.k).Nodup
 | [],_,h=>h
 | c :: r,_,h=>jl4 r (ju5 c h)
theorem jj7:∀ (l:vL) {m:vL},(m.map Pair.k).Nodup->((l.foldl putM m).map Pair.k).Nodup
 | [],_,h=>h
 | c :: r,_,h=>jj7 r (jmO c h)
theorem jnC(l:vL)(cs:List Chg):((je1 l cs).map Pair.k).Nodup:=jl4 cs (jj7 l (by simp))
def jmm(k:vN)(o:Option vB)(c:Chg):Option vB:=if k=c.key.data.toList then (if c.gone then none else some c.value)else o
theorem jsP:∀ (a b:vN),Lt a b↔a < b
 | a,[]=>⟨fun h=>absurd h (not_lt_nil _),fun h=>absurd h (List.not_lt_nil _)⟩
 | [],b :: y=>⟨fun _=>List.nil_lt_cons _ _,fun _=>jpu⟩
 | a :: x,b :: y=>by rw[jbG,List.cons_lt_cons_iff,jsP x y]
theorem jnr.nodup{l:vL}(h:jnr l):(l.map Pair.k).Nodup:=by
 unfold List.Nodup;rw[iR];refine h.imp fun {p q} h=>?_;intro e;rw[e]at h;exact lt_irrefl _ h
theorem jhy(ks:List (vN))(k:vN):k∈jdZ ks↔k∈ks:=(gW _ _).mem_iff
theorem jje{ks:List (vN)}(h:ks.Nodup):(jdZ ks).Pairwise Lt:=by
 have E:∀ a b c:vN,decide (a<=b)=true->decide (b<=c)=true->decide (a<=c)=true:=fun a b c o A=>by simp only[decide_eq_true_eq]at *;exact List.le_trans o A
 have to:∀ a b:vN,(decide (a<=b) || decide (b<=a))=true:=fun a b=>by simp only[Bool.or_eq_true,decide_eq_true_eq];exact List.le_total a b
 have o:(jdZ ks).Pairwise (fun x y=>decide (x<=y)=true):=List.pairwise_mergeSort E to ks;have A:(jdZ ks).Nodup:=(gW _ _).nodup_iff.2 h;refine (o.and A).imp fun {a b} h=>?_;have H:a<=b:=by simpa using h.1
 rcases jiN a b with e | e | e
 ·exact e
 ·exact absurd e h.2
 ·exact absurd ((jsP _ _).1 e) (List.not_lt.2 H)
theorem jq6(m:vL):(jc1 m).map Pair.k=jdZ (m.map Pair.k):=by
 unfold jc1;rw[dN]
 conv=>rhs;rw[<-List.map_id (jdZ (m.map Pair.k))]
 exact dI fun k _=>rfl
theorem jt1(m:vL):(jc1 m).length=m.length:=by
 unfold jc1;rw[cC,jgT,cC]
theorem jjd{m:vL}(h:(m.map Pair.k).Nodup):jnr (jc1 m):=by
 have e:=jje h;rw[<-jq6,iR]at e;exact e
theorem jmt(f:vN->vB)(k:vN):∀ ks:List (vN),look (ks.map fun x=>((⟨x.toArray⟩,f x):Pair)) k=if k∈ks then some (f k)else none
 | []=>rfl
 | x :: r=>by
  rw[bS,jbm,jmt f k r];have e:Pair.k ((⟨x.toArray⟩,f x):Pair)=x:=rfl;rw[e]
  by_cases h:k=x
  ·rw[if_pos h,if_pos (by simp[h])];simp[h]
  ·rw[if_neg h]
   by_cases h2:k∈r
   ·rw[if_pos h2,if_pos (bD _ h2)]
   ·rw[if_neg h2,if_neg (by rw[bM];exact fun e=>e.elim h h2)]
theorem jsM(m:vL)(k:vN):look (jc1 m) k=look m k:=by
 unfold jc1;rw[jmt]
 by_cases h:k∈m.map Pair.k
 ·rw[if_pos ((jhy _ _).2 h)]
  obtain⟨v,o⟩:=jiM h
  rw[jnk,o];rfl
 ·rw[if_neg (fun e=>h ((jhy _ _).1 e)),jet h]
def okP(p:Pair):Prop:=jcB p.1=true/\jbY p.2=true
theorem joh{p x:Pair}:∀ {m:vL},x∈putM m p->x=p\/x∈m
 | [],h=>.inl (by simpa [putM]using h)
 | q :: r,h=>by
  rw[putM]at h;split at h
  ·rcases bM.1 h with h | h
   ·exact .inl h
   ·exact .inr (bD _ h)
  ·rcases bM.1 h with h | h
   ·exact .inr (h ▸ bG)
   ·exact (joh h).imp id (bD _)
theorem joR(k:vB):∀ m:vL,(delM m k).Sublist m
 | []=>List.Sublist.refl _
 | x :: r=>by
  unfold delM;split
  ·exact List.sublist_cons_self _ _
  ·exact (joR k r).cons_cons _
theorem jtx:∀ (l:vL) {m:vL},(∀ p∈l,okP p)->(∀ p∈m,okP p)->∀ p∈l.foldl putM m,okP p
 | [],_,_,h=>h
 | q :: r,m,h1,h2=>jtx r (fun p o=>h1 p (bD _ o)) fun p o=>(joh o).elim (fun e=>e ▸ h1 q bG) (h2 p)
theorem jwH:∀ (cs:List Chg) {m:vL},cs.any Chg.bad=false->(∀ p∈m,okP p)->∀ p∈cs.foldl doM m,okP p
 | [],_,_,h=>h
 | c :: r,m,h1,h2=>by
  rw[List.any_cons,gU]at h1;refine jwH r h1.2 fun p e=>?_;unfold doM at e;have hb:=h1.1;unfold Chg.bad at hb;cases hg:c.gone with
  | true=>rw[if_pos hg]at e;exact h2 p ((joR _ _).subset e)
  | false =>
   rw[if_neg (by rw[hg];simp)]at e;rcases joh e with rfl | e
   ·simp[hg]at hb;exact hb
   ·exact h2 p e
theorem jn9{l:vL}(h:jaz l=0):∀ p∈l,okP p:=fun p e=>by
 obtain⟨o,A,E,H⟩:=(jaD h).size p e
 exact⟨decide_eq_true ⟨o,A⟩,decide_eq_true ⟨E,H⟩⟩
theorem jrz{l:vL}{cs:List Chg}(h:jaz l=0)(hc:cs.any Chg.bad=false):∀ p∈je1 l cs,okP p:=
 jwH cs hc (jtx l (jn9 h) (by simp))
theorem jpx{l:vL}(h1:∀ p∈l,okP p)(h2:jnr l)(h3:l.length<=40):jaz l=0:=by
 unfold jaz;rw[if_neg,if_neg vO];intro h
 obtain⟨i,e,hb⟩:=fP.1 h
 have e:=fA.1 e;have g:∀ j (A:j < l.length),l.getD j (⟨#[]⟩,⟨#[]⟩)=l[j]:=fun j A=>by rw[bH,bA A];rfl
 unfold badN at hb;rw[g i e,(h1 _ (dD e)).1,(h1 _ (dD e)).2]at hb;simp only[Bool.not_true,Bool.or_self,Bool.false_or,cY,decide_eq_true_eq,iF]at hb;rw[g (i - 1) vO]at hb
 have:=gV.1 h2 (i - 1) i vO e vO
 have o:=hb.2;unfold jbc at o;rw[bR,bR]at o;have E:Op.bytesLess (l[i - 1]).1.data.toList (l[i]).1.data.toList=true:=this;rw[E]at o;cases o
theorem jnD{l:vL}{cs:List Chg}(h:jbk l cs=0):jaz l=0/\cs.any Chg.bad=false/\(je1 l cs).length<=40:=by
 unfold jbk at h;split at h
 ·rename_i h1;exact absurd h h1
 rename_i h1
 split at h
 ·cases h
 rename_i h2
 split at h
 ·cases h
 rename_i h3
 exact⟨by simpa using h1,by simpa using h2,by omega⟩
theorem jro{m:vL}(h:∀ p∈m,okP p):∀ p∈jc1 m,okP p:=fun p A=>by
 obtain⟨k,E,rfl⟩:=bK.1 A
 obtain⟨v,o⟩:=jiM ((jhy _ _).1 E)
 obtain⟨q,H,J,K⟩:=jpo o
 have:=h q H
 rw[jnk,o];have e:((⟨k.toArray⟩,(some v).getD ⟨#[]⟩):Pair)=q:=jgI J.symm K.symm;rw[e];exact this
theorem jdN{l:vL}{cs:List Chg}(h:jbk l cs=0):jaz (jc1 (je1 l cs))=0:=by
 obtain⟨e,o,A⟩:=jnD h
 exact jpx (jro (jrz e o)) (jjd (jnC l cs)) (by rw[jt1];exact A)
def jd1(xs:List Chg):List vV:=xs.flatMap fun c=>[.string c.key,.string c.value,.bool c.gone]
theorem jbz(xs:List Chg)(c:Chg):jd1 (xs++[c])=jd1 xs++[.string c.key,.string c.value,.bool c.gone]:=by simp[jd1]
theorem jjE(xs:List Chg):(jd1 xs).length=xs.length * 3:=by
 induction xs with
 | nil=>rfl
 | cons x r ih=>unfold jd1 at *;rw[cG,bC,ih];simp;omega
theorem Tryz.infoChg:(Tryz.prog.info? 44).map (fun i=>(i.zero,i.size,i.bytes))=some (some (.agg #[.string ⟨#[]⟩,.string ⟨#[]⟩,.bool false]),3,40):=vY
theorem Tryz.uChgs:Tryz.prog.underlying 27=some (.slice 44):=vY
theorem Tryz.sChgs:jdv Tryz.prog 27 44 3 40:=jdv.mk' Tryz.uChgs Tryz.infoChg rfl vI
abbrev CRow(w0 w:vW)(v:vV)(n:Nat)(xs:List Chg):Prop:=ORow 44 3 w0 w v n (jd1 xs)
def ja0:vL->vL->List Chg
 | [],[]=>[]
 | p :: l,[]=>⟨p.1,⟨#[]⟩,true⟩ :: ja0 l []
 | [],q :: m=>⟨q.1,q.2,false⟩ :: ja0 [] m
 | p :: l,q :: m =>
  if jbc p.1 q.1=true then ⟨p.1,⟨#[]⟩,true⟩ :: ja0 l (q :: m)
  else if jbc q.1 p.1=true then ⟨q.1,q.2,false⟩ :: ja0 (p :: l) m
  else if (p.2.toList == q.2.toList)=true then ja0 l m else ⟨q.1,q.2,false⟩ :: ja0 l m
termination_by l m=>l.length+m.length
def jcs(l m:vL):List Chg:=if jaz l=0/\jaz m=0 then ja0 l m else []
theorem jc9{α:Type}{l:List α}{i:Nat}{x:α}(h:l[i]?=some x):l.drop i=x :: l.drop (i+1):=by
 obtain⟨o,e⟩:=bP.1 h
 rw[<-e];exact fZ o
structure DfR(w:World)(l m:vL)(c:Value)(i j:Nat)(wr:World)(n:Nat)(acc:List Chg):Prop where
 hi:i<=l.length
 hj:j<=m.length
 hn:n<=i+j
 row:CRow w wr c n acc
 eq:acc++ja0 (l.drop i) (m.drop j)=ja0 l m
def jAM(w:vW)(l m:vL)(c vi vj:vV)(wr:vW):Prop:=∃ i j n acc,vi=.int .i64 (i:Nat)/\vj=.int .i64 (j:Nat)/\DfR w l m c i j wr n acc
theorem jzE{l m:vL}{i j:Nat}(hi:i=l.length)(hj:j=m.length):ja0 (l.drop i) (m.drop j)=[]:=by
 subst hi;subst hj;rw[gK,gK];simp[ja0]
theorem ju0{l m:vL}{i j:Nat}{p:Pair}(hp:l[i]?=some p)(hj:j=m.length):ja0 (l.drop i) (m.drop j)=⟨p.1,⟨#[]⟩,true⟩ :: ja0 (l.drop (i+1)) (m.drop j):=by
 subst hj;rw[gK,jc9 hp];simp[ja0]
theorem jxv{l m:vL}{i j:Nat}{q:Pair}(hq:m[j]?=some q)(hi:i=l.length):ja0 (l.drop i) (m.drop j)=⟨q.1,q.2,false⟩ :: ja0 (l.drop i) (m.drop (j+1)):=by
 subst hi;rw[gK,jc9 hq];simp[ja0]
theorem ju1{l m:vL}{i j:Nat}{p q:Pair}(hp:l[i]?=some p)(hq:m[j]?=some q)(h:jbc p.1 q.1=true):ja0 (l.drop i) (m.drop j)=⟨p.1,⟨#[]⟩,true⟩ :: ja0 (l.drop (i+1)) (m.drop j):=by
 rw[jc9 hp,jc9 hq,ja0,if_pos h]
theorem jxw{l m:vL}{i j:Nat}{p q:Pair}(hp:l[i]?=some p)(hq:m[j]?=some q)(h:jbc p.1 q.1=false)(h2:jbc q.1 p.1=true):ja0 (l.drop i) (m.drop j)=⟨q.1,q.2,false⟩ :: ja0 (l.drop i) (m.drop (j+1)):=by
 rw[jc9 hp,jc9 hq,ja0,if_neg (by rw[h];simp),if_pos h2]
theorem jxx{l m:vL}{i j:Nat}{p q:Pair}(hp:l[i]?=some p)(hq:m[j]?=some q)(h:jbc p.1 q.1=false)(h2:jbc q.1 p.1=false)(h3:(p.2.toList == q.2.toList)=true):ja0 (l.drop i) (m.drop j)=ja0 (l.drop (i+1)) (m.drop (j+1)):=by
 rw[jc9 hp,jc9 hq,ja0,if_neg (by rw[h];simp),if_neg (by rw[h2];simp),if_pos h3]
theorem ju2{l m:vL}{i j:Nat}{p q:Pair}(hp:l[i]?=some p)(hq:m[j]?=some q)(h:jbc p.1 q.1=false)(h2:jbc q.1 p.1=false)(h3:(p.2.toList == q.2.toList)=false):ja0 (l.drop i) (m.drop j)=⟨q.1,q.2,false⟩ :: ja0 (l.drop (i+1)) (m.drop (j+1)):=by
 rw[jc9 hp,jc9 hq,ja0,if_neg (by rw[h];simp),if_neg (by rw[h2];simp),if_neg (by rw[h3];simp)]
theorem jsa(w:vW)(v u:vV)(l m:vL)(hv:RdP w v l)(hu:RdP w u m)(hn1:l.length<=9223372036854775807)(hn2:m.length<=9223372036854775807)(hs1:∀ p∈l,p.1.size<=9223372036854775807/\p.2.size<=9223372036854775807)(hs2:∀ p∈m,p.1.size<=9223372036854775807/\p.2.size<=9223372036854775807) :
  vQ 23 #[v,u] w fun e w'=>∃ u,e=.returned u/\CRow w w' u (jcs l m).length (jcs l m):=by
 have a3:=Hd (jg8 w v l hv hn1 hs1);have b3:=Hd (fun w1 (h1:Ext w w1)=>jg8 w1 u m (hu.ext h1) hn2 hs2);have HV:=Hd hv;have HU:=Hd hu
 obtain⟨a,c,rfl⟩:=hv.sl
 obtain⟨a',c',d8⟩:=hu.sl
 subst d8;clear hv hu hs1 hs2
 by_cases hck:jaz l=0
 case neg =>
  have HD:=Hd (show jcs l m=[] by unfold jcs;rw[if_neg (fun h=>hck h.1)]);rw[HD.o]
  obtain⟨x,hx⟩:=vE (jaz l)
  rw[<-hx]at hck a3;have e6:(x == 0)=false:=by simpa using hck
  have d9:(x != 0)=true:=by simpa using hck
  clear hck hx HV HU b3 HD;go_enter Tryz.func23,Tryz.ntmps23;go_wp2_with fail
  refine a3.o.mono ?_;rintro e w1 ⟨rfl,hE⟩;have HE:=Hd hE;clear hE a3;go_wp2_with fail
  go_ret
  exact⟨_,rfl,ORow.nil _ _ HE.o⟩
 by_cases hck2:jaz m=0
 case neg =>
  have HD:=Hd (show jcs l m=[] by unfold jcs;rw[if_neg (fun h=>hck2 h.2)]);rw[HD.o];rw[hck]at a3
  obtain⟨x,hx⟩:=vE (jaz m)
  rw[<-hx]at hck2 b3;have e6:(x == 0)=false:=by simpa using hck2
  have d9:(x != 0)=true:=by simpa using hck2
  clear hck hck2 hx HV HU HD;go_enter Tryz.func23,Tryz.ntmps23;go_wp2_with fail
  refine a3.o.mono ?_;rintro e w1 ⟨rfl,hE⟩;have HE:=Hd hE;clear hE a3;go_wp2_with fail
  refine vH (b3.o w1 HE.o) fun w2 hE=>?_;have c6:=Hd (HE.o.trans hE);clear b3 HE;go_wp2_with fail
  go_ret
  exact⟨_,rfl,ORow.nil _ _ c6.o⟩
 have f0:=(jaD hck).len;have f1:=(jaD hck2).len;have HD:=Hd (show jcs l m=ja0 l m by unfold jcs;rw[if_pos ⟨hck,hck2⟩]);rw[HD.o];rw[hck]at a3;rw[hck2]at b3;clear hck hck2 HD hn1 hn2
 obtain⟨R,hR⟩:=vE (ja0 l m)
 rw[<-hR];have e0:=Hd hR;clear hR;go_enter Tryz.func23,Tryz.ntmps23;go_wp2_with fail
 refine a3.o.mono ?_;rintro e w1 ⟨rfl,hE⟩;have HE:=Hd hE;clear hE a3;go_wp2_with fail
 refine vH (b3.o w1 HE.o) fun w2 hE=>?_;have c6:=Hd (HE.o.trans hE);clear b3 HE;go_wp2_with fail
 go_loopw [5,6,7] (fun v i j wr=>jAM w l m v i j wr) (fun _ i j _=>(l.length - (intOf i).toNat)+(m.length - (intOf j).toNat))
 case atStart=>exact⟨0,0,0,[],rfl,rfl,by omega,by omega,by omega,ORow.nil _ _ c6.o,by simp⟩
 case round =>
  obtain⟨i,j,n,O,rfl,rfl,e7⟩:=hrel
  obtain⟨hi,hj,hn,b6,e1⟩:=e7
  obtain⟨a2,c2,rfl⟩:=b6.sl
  have HR:=Hd b6;have J:=Hd e1;clear b6 e1 c6
  by_cases hjm:j < m.length
  ·by_cases hil:i < l.length
   ·obtain⟨q,hq⟩:∃ q,m[j]?=some q:=⟨_,bA hjm⟩
    rcases HU.o with⟨_,_,_,h0⟩ |⟨bm,om,cm,hh,hb,hc,hcell⟩
    ·rw[h0]at hjm;cases hjm
    cases hh
    obtain⟨d1,d2⟩:=hcell j q hq
    have a1:=Hd (jaa d1 HR.o.ext);have a7:=Hd (jaa d2 HR.o.ext);have NB:Hid (¬(Value.slice a2 n c2).ownBlock=some bm):=(fun e=>by have:=HR.o.new bm e;omega);have HQ:=Hd hq;have b2:(j:Int) < (m.length:Int):=vO
    obtain⟨y1,y2⟩:=q
    simp only at a1 a7;clear hcell hb hc hq
    obtain⟨p,hp⟩:∃ p,l[i]?=some p:=⟨_,bA hil⟩
    rcases HV.o with⟨_,_,_,h0⟩ |⟨bl,ol,cl,hh,hb,hc,hcell⟩
    ·rw[h0]at hil;cases hil
    cases hh
    obtain⟨d3,d4⟩:=hcell i p hp
    have Q:=Hd (jaa d3 HR.o.ext);have b4:=Hd (jaa d4 HR.o.ext);have HP:=Hd hp;have b1:(i:Int) < (l.length:Int):=vO
    obtain⟨x1,x2⟩:=p
    simp only at Q b4;clear hcell hb hc hp;have eA:((j:Int) ==(m.length:Int))=false:=by simp;omega
    have eN:((i:Int) ==(l.length:Int))=false:=by simp;omega
    cases hls:jbc x1 y1 with
    | true =>
     have HN:=Hd (show O++[_]++ja0 _ _=ja0 l m from by rw[cE,iG, <-ju1 HP.o HQ.o hls];exact J.o);unfold jbc at hls;clear J;go_wp2_with fail
     refine jag [0,1,2,3,4,5,6,7,8,9,10,11,12,13,14,15,16,17,18,19,20,21,22,23] Ext ExtR ExtT vY vY vY ?_;iterate 14 refine vK ?_
     refine qKL ⟨bl,ol+i * 2,none⟩ (.string x1) rfl (fun w3 E=>jab Tryz.uStr rfl (jaa (by exact Q.o) ((jai _).trans E))) ?_;refine vS ?_;iterate 4 refine vK ?_
     refine qKL ⟨bm,om+j * 2,none⟩ (.string y1) rfl (fun w3 E=>jab Tryz.uStr rfl (jaa (by exact a1.o) ((jai _).trans E))) ?_;refine vS ?_;iterate 4 refine vK ?_
     refine qKE (fun w5 A=>?_);have X:=Hd (HR.o.mono ((jai _).trans A));have e8:=jaa Q.o ((jai _).trans A);clear A HR Q b4 a1 a7;go_wp2_with (at_builtin;refine jaO Tryz.sChgs (X.o.mono ((ExtR _).alloc _)) (.tmp 79) (.tmp 86) rfl rfl rfl (jaJ (Blk.new _ _)) (news:=[.string x1,.string ⟨#[]⟩,.bool true]) (by intro u hu;simp at hu;rcases hu with rfl | rfl | rfl <;> rfl) rfl rfl ?c1 ?c2 (fun v' w' r1 r2 r3=>?_))
     case c1=>unfold maxLen;omega
     case c2=>omega
     have H:CRow w w' v' (n+1) (O++[⟨x1,⟨#[]⟩,true⟩]):=by unfold CRow;rw[jbz];exact r1
     obtain⟨a8,c8,rfl⟩:=H.sl
     have d5:=Hd H;clear r1 r2 r3 H;go_wp2_with fail
     go_roundw
     case rel=>exact⟨i+1,j,n+1,_,by go_num,rfl,by omega,hj,by omega,d5.o,HN.o⟩
     case measure=>exact vJ
    | false =>
     have d6:=Hd hls;unfold jbc at hls;go_wp2_with fail
     refine jag [0,1,2,3,4,5,6,7,8,9,10,11,12,13,14,15,16,17,18,19,20,21,22,23] Ext ExtR ExtT vY vY vY ?_;iterate 14 refine vK ?_
     refine qKL ⟨bl,ol+i * 2,none⟩ (.string x1) rfl (fun w3 E=>jab Tryz.uStr rfl (jaa (by exact Q.o) ((jai _).trans E))) ?_;refine vS ?_;iterate 4 refine vK ?_
     refine qKL ⟨bm,om+j * 2,none⟩ (.string y1) rfl (fun w3 E=>jab Tryz.uStr rfl (jaa (by exact a1.o) ((jai _).trans E))) ?_;refine vS ?_;iterate 4 refine vK ?_
     refine qKE (fun w5 A=>?_);have b5:=Hd (HR.o.mono ((jai _).trans A));have a5:=Hd (jaa Q.o ((jai _).trans A));have b7:=Hd (jaa b4.o ((jai _).trans A));have a0:=Hd (jaa a1.o ((jai _).trans A));have a6:=Hd (jaa a7.o ((jai _).trans A));clear A HR Q b4 a1 a7 hls;cases hlt2:jbc y1 x1 with
     | true =>
      have HN:=Hd (show O++[_]++ja0 _ _=ja0 l m from by rw[cE,iG, <-jxw HP.o HQ.o d6.o hlt2];exact J.o);unfold jbc at hlt2;clear J;go_wp2_with fail
      refine jag [0,1,2,3,4,5,6,7,8,9,10,11,12,13,14,15,16,17] Ext ExtR ExtT vY vY vY ?_;iterate 9 refine vK ?_
      refine qKL ⟨bm,om+j * 2,none⟩ (.string y1) rfl (fun w3 E=>jab Tryz.uStr rfl (jaa (by exact a0.o) ((jai _).trans E))) ?_;refine vS ?_;iterate 4 refine vK ?_
      refine qKL ⟨bl,ol+i * 2,none⟩ (.string x1) rfl (fun w3 E=>jab Tryz.uStr rfl (jaa (by exact a5.o) ((jai _).trans E))) ?_;refine vS ?_;iterate 3 refine vK ?_
      refine qKE (fun w5 A=>?_);have X:=Hd (b5.o.mono ((jai _).trans A));have b8:=Hd (jaa a0.o ((jai _).trans A));have b9:=Hd (jaa a6.o ((jai _).trans A));clear A b5 a5 b7 a0 a6 hlt2;go_wp2_with fail
      refine jaC [0,1,2,3,4,5,6,7,8,9,10,11,12,13,14] [12,13] Ext (jae (fun b=>(Value.slice a2 n c2).ownBlock=some b)) ExtR ExtT (fun x y z h k=>jae.trans h k) (fun x y h=>h.mono (fun _ _ h=>h.elim)) vY vY vY ?_;iterate 5 refine vD ?_
      refine qDL ⟨bm,om+j * 2,none⟩ (.string y1) rfl (fun w3 E=>jab Tryz.uStr rfl (jam (by exact b8.o) E NB.o)) ?_;refine vS ?_;iterate 4 refine vD ?_
      refine qDL ⟨bm,om+j * 2+1,none⟩ (.string y2) rfl (fun w3 E=>jab Tryz.uStr rfl (jam (by exact b9.o) E NB.o)) ?_;refine vS ?_
      refine vD ?_
      refine qDH _ rfl (fun w6 A K hK=>?_);have a9:=Hd (X.o.mono ((jai _).trans A));clear A;go_simp;refine hK _ _ ((jae.refl _ w6).alloc _) ?_;clear hK K;refine qDH _ rfl (fun w7 A K hK=>?_);have b0:=Hd (a9.o.mono (((ExtR w6).alloc _).trans A));have hB:∀ k u,([.string y1,.string y2,.bool false]:List vV)[k]?=some u->w7.cell? ((⟨w6.heap.size,0,none⟩:Addr).add k)=some u:=fun k u hk=>jaa (jaJ (Blk.new w6 (.cells [Value.string y1,.string y2,.bool false].toArray 44)) k u hk) A;refine jfz Tryz.sChgs b0.o (.tmp 108) (.tmp 120) rfl rfl hB (by intro u hu;simp at hu;rcases hu with rfl | rfl | rfl <;> rfl) rfl rfl (by unfold maxLen;omega) vO (fun v' w8 r1 r2 r3=>hK _ _ r2 ?_);have H:CRow w w8 v' (n+1) (O++[⟨y1,y2,false⟩]):=by unfold CRow;rw[jbz];exact r1
      have Z:=Hd H;clear hK K A r1 r2 r3 H hB a9 b0
      obtain⟨a4,c4,rfl⟩:=Z.o.sl
      refine vS ?_
      refine vD ?_
      refine qDE (fun w9 A=>?_);have c0:=Hd (Z.o.mono A);clear A Z;go_wp2_with fail
      go_roundw
      case rel=>exact⟨i,j+1,n+1,_,rfl,by go_num,by omega,by omega,by omega,c0.o,HN.o⟩
      case measure=>exact vJ
     | false =>
      have e2:=Hd hlt2;unfold jbc at hlt2;go_wp2_with fail
      refine jag [0,1,2,3,4,5,6,7,8,9,10,11,12,13,14,15,16,17] Ext ExtR ExtT vY vY vY ?_;iterate 9 refine vK ?_
      refine qKL ⟨bm,om+j * 2,none⟩ (.string y1) rfl (fun w3 E=>jab Tryz.uStr rfl (jaa (by exact a0.o) ((jai _).trans E))) ?_;refine vS ?_;iterate 4 refine vK ?_
      refine qKL ⟨bl,ol+i * 2,none⟩ (.string x1) rfl (fun w3 E=>jab Tryz.uStr rfl (jaa (by exact a5.o) ((jai _).trans E))) ?_;refine vS ?_;iterate 3 refine vK ?_
      refine qKE (fun w5 A=>?_);have c7:=Hd (b5.o.mono ((jai _).trans A));have c9:=Hd (jaa b7.o ((jai _).trans A));have d7:=Hd (jaa a0.o ((jai _).trans A));have c3:=Hd (jaa a6.o ((jai _).trans A));clear A b5 a5 b7 a0 a6 hlt2;cases hvv:(x2.toList == y2.toList)with
      | true =>
       have HN:=Hd (show O++ja0 _ _=ja0 l m from by rw[<-jxx HP.o HQ.o d6.o e2.o hvv];exact J.o);clear J;go_wp2_with fail
       refine jag [0,1,2,3,4,5,6,7,8,9,10] Ext ExtR ExtT vY vY vY ?_;iterate 4 refine vK ?_
       refine qKL ⟨bl,ol+i * 2+1,none⟩ (.string x2) rfl (fun w3 E=>jab Tryz.uStr rfl (jaa (by exact c9.o) ((jai _).trans E))) ?_;refine vS ?_;iterate 4 refine vK ?_
       refine qKL ⟨bm,om+j * 2+1,none⟩ (.string y2) rfl (fun w3 E=>jab Tryz.uStr rfl (jaa (by exact c3.o) ((jai _).trans E))) ?_;refine vS ?_
       refine vK ?_
       refine qKE (fun w5 A=>?_);have X:=Hd (c7.o.mono ((jai _).trans A));clear A c7 c9 d7 c3;go_wp2_with fail
       go_roundw
       case rel=>exact⟨i+1,j+1,n,O,by go_num,by go_num,by omega,by omega,by omega,X.o,HN.o⟩
       case measure=>exact vJ
      | false =>
       have HN:=Hd (show O++[_]++ja0 _ _=ja0 l m from by rw[cE,iG, <-ju2 HP.o HQ.o d6.o e2.o hvv];exact J.o);clear J;go_wp2_with fail
       refine jag [0,1,2,3,4,5,6,7,8,9,10] Ext ExtR ExtT vY vY vY ?_;iterate 4 refine vK ?_
       refine qKL ⟨bl,ol+i * 2+1,none⟩ (.string x2) rfl (fun w3 E=>jab Tryz.uStr rfl (jaa (by exact c9.o) ((jai _).trans E))) ?_;refine vS ?_;iterate 4 refine vK ?_
       refine qKL ⟨bm,om+j * 2+1,none⟩ (.string y2) rfl (fun w3 E=>jab Tryz.uStr rfl (jaa (by exact c3.o) ((jai _).trans E))) ?_;refine vS ?_
       refine vK ?_
       refine qKE (fun w5 A=>?_);have X:=Hd (c7.o.mono ((jai _).trans A));have b8:=Hd (jaa d7.o ((jai _).trans A));have b9:=Hd (jaa c3.o ((jai _).trans A));clear A c7 c9 d7 c3;go_wp2_with fail
       refine jaC [0,1,2,3,4,5,6,7,8,9,10,11,12,13,14] [12,13] Ext (jae (fun b=>(Value.slice a2 n c2).ownBlock=some b)) ExtR ExtT (fun x y z h k=>jae.trans h k) (fun x y h=>h.mono (fun _ _ h=>h.elim)) vY vY vY ?_;iterate 5 refine vD ?_
       refine qDL ⟨bm,om+j * 2,none⟩ (.string y1) rfl (fun w3 E=>jab Tryz.uStr rfl (jam (by exact b8.o) E NB.o)) ?_;refine vS ?_;iterate 4 refine vD ?_
       refine qDL ⟨bm,om+j * 2+1,none⟩ (.string y2) rfl (fun w3 E=>jab Tryz.uStr rfl (jam (by exact b9.o) E NB.o)) ?_;refine vS ?_
       refine vD ?_
       refine qDH _ rfl (fun w6 A K hK=>?_);have a9:=Hd (X.o.mono ((jai _).trans A));clear A;go_simp;refine hK _ _ ((jae.refl _ w6).alloc _) ?_;clear hK K;refine qDH _ rfl (fun w7 A K hK=>?_);have b0:=Hd (a9.o.mono (((ExtR w6).alloc _).trans A));have hB:∀ k u,([.string y1,.string y2,.bool false]:List vV)[k]?=some u->w7.cell? ((⟨w6.heap.size,0,none⟩:Addr).add k)=some u:=fun k u hk=>jaa (jaJ (Blk.new w6 (.cells [Value.string y1,.string y2,.bool false].toArray 44)) k u hk) A;refine jfz Tryz.sChgs b0.o (.tmp 37) (.tmp 49) rfl rfl hB (by intro u hu;simp at hu;rcases hu with rfl | rfl | rfl <;> rfl) rfl rfl (by unfold maxLen;omega) vO (fun v' w8 r1 r2 r3=>hK _ _ r2 ?_);have H:CRow w w8 v' (n+1) (O++[⟨y1,y2,false⟩]):=by unfold CRow;rw[jbz];exact r1
       have Z:=Hd H;clear hK K A r1 r2 r3 H hB a9 b0
       obtain⟨a4,c4,rfl⟩:=Z.o.sl
       refine vS ?_
       refine vD ?_
       refine qDE (fun w9 A=>?_);have c0:=Hd (Z.o.mono A);clear A Z;go_wp2_with fail
       go_roundw
       case rel=>exact⟨i+1,j+1,n+1,_,by go_num,by go_num,by omega,by omega,by omega,c0.o,HN.o⟩
       case measure=>exact vJ
   ·obtain⟨q,hq⟩:∃ q,m[j]?=some q:=⟨_,bA hjm⟩
    rcases HU.o with⟨_,_,_,h0⟩ |⟨bm,om,cm,hh,hb,hc,hcell⟩
    ·rw[h0]at hjm;cases hjm
    cases hh
    obtain⟨d1,d2⟩:=hcell j q hq
    have a1:=Hd (jaa d1 HR.o.ext);have a7:=Hd (jaa d2 HR.o.ext);have NB:Hid (¬(Value.slice a2 n c2).ownBlock=some bm):=(fun e=>by have:=HR.o.new bm e;omega);have HQ:=Hd hq;have b2:(j:Int) < (m.length:Int):=vO
    obtain⟨y1,y2⟩:=q
    simp only at a1 a7;clear hcell hb hc hq;have c5:i=l.length:=vO
    have b1:¬(i:Int) < (l.length:Int):=vO
    have eA:((j:Int) ==(m.length:Int))=false:=by simp;omega
    have eN:((i:Int) ==(l.length:Int))=true:=by simp;omega
    have HN:=Hd (show O++[_]++ja0 _ _=ja0 l m from by rw[cE,iG, <-jxv HQ.o c5];exact J.o);clear c5 J;go_wp2_with fail
    refine jag [0,1,2,3,4,5,6,7,8,9,10,11,12,13,14,15,16,17,18,19,20,21,22,23] Ext ExtR ExtT vY vY vY ?_;iterate 10 refine vK ?_
    iterate 11 (refine qKS _ rfl ?_;refine vS ?_)
    iterate 3 refine vK ?_
    refine qKE (fun w5 A=>?_);have b5:=Hd (HR.o.mono ((jai _).trans A));have e3:=Hd (jaa a1.o ((jai _).trans A));have e4:=Hd (jaa a7.o ((jai _).trans A));clear A HR a1 a7;go_wp2_with fail
    refine jag [0,1,2,3,4,5,6,7,8,9,10,11,12,13,14,15,16,17] Ext ExtR ExtT vY vY vY ?_;iterate 5 refine vK ?_
    iterate 11 (refine qKS _ rfl ?_;refine vS ?_)
    iterate 2 refine vK ?_
    refine qKE (fun w5 A=>?_);have X:=Hd (b5.o.mono ((jai _).trans A));have b8:=Hd (jaa e3.o ((jai _).trans A));have b9:=Hd (jaa e4.o ((jai _).trans A));clear A b5 e3 e4;go_wp2_with fail
    refine jaC [0,1,2,3,4,5,6,7,8,9,10,11,12,13,14] [12,13] Ext (jae (fun b=>(Value.slice a2 n c2).ownBlock=some b)) ExtR ExtT (fun x y z h k=>jae.trans h k) (fun x y h=>h.mono (fun _ _ h=>h.elim)) vY vY vY ?_;iterate 5 refine vD ?_
    refine qDL ⟨bm,om+j * 2,none⟩ (.string y1) rfl (fun w3 E=>jab Tryz.uStr rfl (jam (by exact b8.o) E NB.o)) ?_;refine vS ?_;iterate 4 refine vD ?_
    refine qDL ⟨bm,om+j * 2+1,none⟩ (.string y2) rfl (fun w3 E=>jab Tryz.uStr rfl (jam (by exact b9.o) E NB.o)) ?_;refine vS ?_
    refine vD ?_
    refine qDH _ rfl (fun w6 A K hK=>?_);have a9:=Hd (X.o.mono ((jai _).trans A));clear A;go_simp;refine hK _ _ ((jae.refl _ w6).alloc _) ?_;clear hK K;refine qDH _ rfl (fun w7 A K hK=>?_);have b0:=Hd (a9.o.mono (((ExtR w6).alloc _).trans A));have hB:∀ k u,([.string y1,.string y2,.bool false]:List vV)[k]?=some u->w7.cell? ((⟨w6.heap.size,0,none⟩:Addr).add k)=some u:=fun k u hk=>jaa (jaJ (Blk.new w6 (.cells [Value.string y1,.string y2,.bool false].toArray 44)) k u hk) A;refine jfz Tryz.sChgs b0.o (.tmp 108) (.tmp 120) rfl rfl hB (by intro u hu;simp at hu;rcases hu with rfl | rfl | rfl <;> rfl) rfl rfl (by unfold maxLen;omega) vO (fun v' w8 r1 r2 r3=>hK _ _ r2 ?_);have H:CRow w w8 v' (n+1) (O++[⟨y1,y2,false⟩]):=by unfold CRow;rw[jbz];exact r1
    have Z:=Hd H;clear hK K A r1 r2 r3 H hB a9 b0
    obtain⟨a4,c4,rfl⟩:=Z.o.sl
    refine vS ?_
    refine vD ?_
    refine qDE (fun w9 A=>?_);have c0:=Hd (Z.o.mono A);clear A Z;go_wp2_with fail
    go_roundw
    case rel=>exact⟨i,j+1,n+1,_,rfl,by go_num,by omega,by omega,by omega,c0.o,HN.o⟩
    case measure=>exact vJ
  ·have d0:j=m.length:=vO
   by_cases hil:i < l.length
   ·obtain⟨p,hp⟩:∃ p,l[i]?=some p:=⟨_,bA hil⟩
    rcases HV.o with⟨_,_,_,h0⟩ |⟨bl,ol,cl,hh,hb,hc,hcell⟩
    ·rw[h0]at hil;cases hil
    cases hh
    obtain⟨d3,d4⟩:=hcell i p hp
    have Q:=Hd (jaa d3 HR.o.ext);have b4:=Hd (jaa d4 HR.o.ext);have HP:=Hd hp;have b1:(i:Int) < (l.length:Int):=vO
    obtain⟨x1,x2⟩:=p
    simp only at Q b4;clear hcell hb hc hp;have b2:¬(j:Int) < (m.length:Int):=vO
    have eA:((j:Int) ==(m.length:Int))=true:=by simp;omega
    have HN:=Hd (show O++[_]++ja0 _ _=ja0 l m from by rw[cE,iG, <-ju0 HP.o d0];exact J.o);clear d0 J;go_wp2_with fail
    refine jag [0,1,2,3,4,5,6,7,8,9,10,11,12,13,14,15,16,17,18,19,20,21,22,23] Ext ExtR ExtT vY vY vY ?_;iterate 5 refine vK ?_
    iterate 17 (refine qKS _ rfl ?_;refine vS ?_)
    iterate 2 refine vK ?_
    refine qKE (fun w5 A=>?_);have X:=Hd (HR.o.mono ((jai _).trans A));have e8:=jaa Q.o ((jai _).trans A);clear A HR Q b4;go_wp2_with (at_builtin;refine jaO Tryz.sChgs (X.o.mono ((ExtR _).alloc _)) (.tmp 79) (.tmp 86) rfl rfl rfl (jaJ (Blk.new _ _)) (news:=[.string x1,.string ⟨#[]⟩,.bool true]) (by intro u hu;simp at hu;rcases hu with rfl | rfl | rfl <;> rfl) rfl rfl ?c1 ?c2 (fun v' w' r1 r2 r3=>?_))
    case c1=>unfold maxLen;omega
    case c2=>omega
    have H:CRow w w' v' (n+1) (O++[⟨x1,⟨#[]⟩,true⟩]):=by unfold CRow;rw[jbz];exact r1
    obtain⟨a8,c8,rfl⟩:=H.sl
    have d5:=Hd H;clear r1 r2 r3 H;go_wp2_with fail
    go_roundw
    case rel=>exact⟨i+1,j,n+1,_,by go_num,rfl,by omega,hj,by omega,d5.o,HN.o⟩
    case measure=>exact vJ
   ·have c5:i=l.length:=vO
    have HF:=Hd (show O=R by have h:=J.o;rw[jzE c5 d0,bZ, <-e0.o]at h;exact h);have b1:¬(i:Int) < (l.length:Int):=vO
    have b2:¬(j:Int) < (m.length:Int):=vO
    have e5:n=R.length:=by
     have:=HR.o.len
     rw[HF.o]at this;rw[jjE]at this;omega
    have e9:=Hd e5;clear c5 d0 e5 J e0;go_wp2_with fail
    go_ret
    exact⟨_,rfl,by rw[<-e9.o, <-HF.o];exact HR.o⟩
abbrev Chg.k(c:Chg):vN:=c.key.data.toList
def Chg.o(c:Chg):Option vB:=if c.gone then none else some c.value
theorem jho{k:vN}:∀ {cs:List Chg},(∀ c∈cs,c.k≠k)->∀ o,cs.foldl (jmm k) o=o
 | [],_,_=>rfl
 | c :: r,h,o=>by
  have e:jmm k o c=o:=by unfold jmm;rw[if_neg (fun e=>h c bG e.symm)]
  rw[dM,e,jho fun x A=>h x (bD _ A)]
theorem jmo{c:Chg}:∀ {cs:List Chg},c∈cs->(cs.map Chg.k).Nodup->∀ o,cs.foldl (jmm c.k) o=c.o
 | [],h,_,_=>by cases h
 | d :: r,h,hn,o=>by
  rw[bS,fF]at hn;rw[dM];rcases bM.1 h with rfl | h
  ·rw[jho fun x A e=>hn.1 (by rw[<-e];exact jH A)]
   unfold jmm Chg.o;rw[if_pos rfl]
  ·exact jmo h hn.2 _
structure jly(l m:vL)(cs:List Chg):Prop where
 keys:(cs.map Chg.k).Nodup
 done:∀ c∈cs,look m c.k=c.o
 rest:∀ k,(∀ c∈cs,c.k≠k)->look l k=look m k
 fine:cs.any Chg.bad=false
theorem jly.looks{l m:vL}{cs:List Chg}(h:jly l m cs)(k:vN):cs.foldl (jmm k) (look l k)=look m k:=by
 by_cases hk:∃ c∈cs,c.k=k
 ·obtain⟨c,o,rfl⟩:=hk
  rw[jmo o h.keys,h.done c o]
 ·have A:∀ c∈cs,c.k≠k:=fun c o e=>hk ⟨c,o,e⟩
  rw[jho A,h.rest k A]
def okL(l:vL):Prop:=(∀ p∈l,okP p)/\jnr l
theorem okL.tail{p:Pair}{l:vL}(h:okL (p :: l)):okL l:=⟨fun q e=>h.1 q (bD _ e),(cW.1 h.2).2⟩
theorem okL.head{p:Pair}{l:vL}(h:okL (p :: l)):okP p:=h.1 p bG
theorem okL.lt{p:Pair}{l:vL}(h:okL (p :: l)):∀ q∈l,Lt p.k q.k:=(cW.1 h.2).1
theorem jqu(l m:vL):∀ c∈ja0 l m,c.k∈l.map Pair.k\/c.k∈m.map Pair.k:=by
 fun_induction ja0 l m with
 | case1=>intro c e;cases e
 | case2 p l ih =>
  intro c e;rcases bM.1 e with rfl | e
  ·exact .inl (by simp[Chg.k,Pair.k])
  ·rcases ih c e with h | h
   ·exact .inl (bD _ h)
   ·exact .inr h
 | case3 q m ih =>
  intro c e;rcases bM.1 e with rfl | e
  ·exact .inr (by simp[Chg.k,Pair.k])
  ·rcases ih c e with h | h
   ·exact .inl h
   ·exact .inr (bD _ h)
 | case4 p l q m h ih =>
  intro c e;rcases bM.1 e with rfl | e
  ·exact .inl (by simp[Chg.k,Pair.k])
  ·rcases ih c e with h | h
   ·exact .inl (bD _ h)
   ·exact .inr h
 | case5 p l q m h h2 ih =>
  intro c e;rcases bM.1 e with rfl | e
  ·exact .inr (by simp[Chg.k,Pair.k])
  ·rcases ih c e with h | h
   ·exact .inl h
   ·exact .inr (bD _ h)
 | case6 p l q m h h2 h3 ih =>
  intro c e;rcases ih c e with h | h
  ·exact .inl (bD _ h)
  ·exact .inr (bD _ h)
 | case7 p l q m h h2 h3 ih =>
  intro c e;rcases bM.1 e with rfl | e
  ·exact .inr (by simp[Chg.k,Pair.k])
  ·rcases ih c e with h | h
   ·exact .inl (bD _ h)
   ·exact .inr (bD _ h)
theorem jqN{k:vN}{m:vL}(h:∀ q∈m,Lt k q.k):look m k=none:=jet fun o=>by
 obtain⟨q,A,e⟩:=bK.1 o
 exact lt_irrefl _ (e ▸ h q A)
theorem jhm{k:vN}{l m:vL}(h1:∀ q∈l,Lt k q.k)(h2:∀ q∈m,Lt k q.k):∀ c∈ja0 l m,Lt k c.k:=fun c A=>by
 rcases jqu l m c A with h | h
 ·obtain⟨q,o,e⟩:=bK.1 h;rw[<-e];exact h1 q o
 ·obtain⟨q,o,e⟩:=bK.1 h;rw[<-e];exact h2 q o
theorem jly.cons{l m l' m':vL}{c:Chg}{cs:List Chg}(h:jly l m cs)(hk:∀ d∈cs,Lt c.k d.k)(hc:look m' c.k=c.o)(hb:c.bad=false)
  (hl:∀ k,k≠c.k->look l' k=look l k) (hm:∀ k,k≠c.k->look m' k=look m k):jly l' m' (c :: cs):=by
 refine⟨?_,?_,?_,?_⟩
 ·rw[bS,fF]
  refine⟨fun E=>?_,h.keys⟩
  obtain⟨d,A,e⟩:=bK.1 E
  exact lt_irrefl _ (e ▸ hk d A)
 ·intro d A
  rcases bM.1 A with rfl | A
  ·exact hc
  ·rw[hm _ (fun e=>lt_irrefl _ (e ▸ hk d A)),h.done d A]
 ·intro k E
  have H:k≠c.k:=fun e=>E c bG e.symm;rw[hl k H,hm k H,h.rest k fun d A=>E d (bD _ A)]
 ·rw[List.any_cons,hb,h.fine];rfl
theorem jsn{p:Pair}(h:okP p):Chg.bad ⟨p.1,⟨#[]⟩,true⟩=false:=by
 unfold Chg.bad;rw[h.1];rfl
theorem jtw{p:Pair}(h:okP p):Chg.bad ⟨p.1,p.2,false⟩=false:=by
 unfold Chg.bad;rw[h.1,h.2];rfl
theorem jfm(q:Pair)(m:vL):look (q :: m) q.k=some q.2:=by rw[jbm,if_pos rfl]
theorem jcZ{q:Pair}{m:vL}{k:vN}(h:k≠q.k):look (q :: m) k=look m k:=by rw[jbm,if_neg h]
theorem jBu:∀ (l m:vL),okL l->okL m->jly l m (ja0 l m):=by
 intro l m
 fun_induction ja0 l m with
 | case1=>exact fun _ _=>⟨by simp,by simp,fun _ _=>rfl,rfl⟩
 | case2 p l ih =>
  intro A o;refine (ih A.tail o).cons (jhm A.lt (by simp)) rfl (jsn A.head) (fun k E=>jcZ E) (fun _ _=>rfl)
 | case3 q m ih =>
  intro A o;exact (ih A o.tail).cons (jhm (by simp) o.lt) (jfm q m) (jtw o.head) (fun _ _=>rfl) (fun k E=>jcZ E)
 | case4 p l q m h ih =>
  intro A o;have K:=(jbl _ _).1 h;have Q:∀ x∈q :: m,Lt p.k x.k:=fun x H=>by
   rcases bM.1 H with rfl | H
   ·exact K
   ·exact jdV _ _ _ K (o.lt x H)
  refine (ih A.tail o).cons (jhm A.lt Q) (jqN Q) (jsn A.head) (fun k E=>jcZ E) (fun _ _=>rfl)
 | case5 p l q m h h' ih =>
  intro A o;have K:=(jbl _ _).1 h';have Z:∀ x∈p :: l,Lt q.k x.k:=fun x H=>by
   rcases bM.1 H with rfl | H
   ·exact K
   ·exact jdV _ _ _ K (A.lt x H)
  exact (ih A o.tail).cons (jhm Z o.lt) (jfm q m) (jtw o.head) (fun _ _=>rfl) (fun k E=>jcZ E)
 | case6 p l q m h h' h3 ih =>
  intro A o;have E:p.k=q.k:=by
   rcases jiN p.k q.k with e | e | e
   ·exact absurd ((jbl _ _).2 e) h
   ·exact e
   ·exact absurd ((jbl _ _).2 e) h'
  have hv:p.2=q.2:=by
   rw[bR,bR]at h3
   obtain⟨⟨⟨a⟩⟩,⟨⟨b⟩⟩⟩:=p
   obtain⟨⟨⟨c⟩⟩,⟨⟨d⟩⟩⟩:=q
   simp at h3;simp[h3]
  have:=jgI E hv
  subst this;have O:=ih A.tail o.tail;have J:=jhm A.lt o.lt
  refine⟨O.keys,fun c X=>?_,fun k hh=>?_,O.fine⟩
  ·rw[jcZ (fun e=>lt_irrefl _ (e ▸ J c X)),O.done c X]
  ·by_cases e:k=p.k
   ·rw[e,jfm,jfm]
   ·rw[jcZ e,jcZ e,O.rest k hh]
 | case7 p l q m h h' h3 ih =>
  intro A o;have E:p.k=q.k:=by
   rcases jiN p.k q.k with e | e | e
   ·exact absurd ((jbl _ _).2 e) h
   ·exact e
   ·exact absurd ((jbl _ _).2 e) h'
  have J:=jhm (fun x H=>E ▸ A.lt x H) o.lt;exact (ih A.tail o.tail).cons J (jfm q m) (jtw o.head) (fun k e=>jcZ (by rw[E];exact e)) (fun k e=>jcZ e)
theorem jgs{l:vL}(h:jaz l=0):okL l:=⟨jn9 h,(jaD h).rise⟩
theorem jqv{l m:vL}(h1:jaz l=0)(h2:jaz m=0):jly l m (jcs l m):=by
 unfold jcs;rw[if_pos ⟨h1,h2⟩];exact jBu l m (jgs h1) (jgs h2)
section
attribute [local go_sem] Oper.semAt_some
theorem jpy{w:vW}{B:Nat}{T:TypeId}{sz g n cap m:Nat}{xs:List vV}(h:w.ownsRow B T sz (.slice (some ⟨g,0,none⟩) n cap) n xs)(hm:m<=n):w.ownsRow B T sz (.slice (some ⟨g,0,none⟩) m cap) m (xs.take (m * sz)):=by
 obtain⟨H,⟨e,_⟩ |⟨J,E,o,e,K,O,Q,X,Z,h8⟩⟩:=h
 ·cases e
 ·have A:m * sz<=n * sz:=Nat.mul_le_mul_right _ hm
  obtain⟨ha,_,hc⟩:=cN e
  have hg:g=J:=by have:=bO ha;exact congrArg Addr.block this
  subst hg hc
  refine⟨by rw[cI,H];omega,.inr ⟨g,cap,o,rfl,K,O,bJ hm Q,X,Z,?_⟩⟩
  rw[<-h8,List.take_take,jA A]
theorem jei(x y:vB):∀ u∈[Value.string x,.string y],u.oneCell'=true:=by
 intro u e;simp at e;rcases e with rfl | rfl <;> rfl
theorem jpD(k:vB):jdj (jbv k)=true:=by
 unfold jdj;rw[jex,jgL];simp
theorem jiT:∀ l:vN,jcC (jcw l)=l
 | []=>rfl
 | b :: l=>by
  have h:(b >>> 4) <<< 4 |||(b &&& 15)=b:=by
   have h:∀ b:Fin 256,((UInt8.ofNat b.1) >>> 4) <<< 4 |||((UInt8.ofNat b.1) &&& 15)=UInt8.ofNat b.1:=by decide +kernel
   have:=h ⟨b.toNat,b.toNat_lt⟩
   simpa only[iQ]using this
  show ((b >>> 4) <<< 4 |||(b &&& 15)) :: jcC (jcw l)=_;rw[h,jiT l]
theorem jfK(k:vB):jbu (jbv k)=k:=by
 unfold jbu jbv;show (⟨(jcC (jcw k.data.toList)).toArray⟩:vB)=k;rw[jiT]
end
def jlA(l:vL):Prop:=l.Pairwise fun p q=>jbc p.1 q.1=true
theorem jlA.tail{p:Pair}{l:vL}(h:jlA (p :: l)):jlA l:=(cW.1 h).2
theorem jlA.o(hi:∀ x,jbc x x=false){p:Pair}{l:vL}(h:jlA (p :: l)):p ∉ l:=fun e=>by
 have:=(cW.1 h).1 p e
 rw[hi]at this;cases this
theorem jsb(hi:∀ x,jbc x x=false)(ht:∀ x y,jbc x y=true->jbc y x=false)(htr:∀ x y z,jbc x y=true->jbc y z=true->jbc x z=true)(heq:∀ x y,jbc x y=false->jbc y x=false->x=y)
  (P:Pair->Bool):∀ (l m:vL),jlA l->jlA m->(∀ p,P p=true->(p∈l↔p∈m))->ja0 (l.filter fun p => !P p) (m.filter fun p => !P p)=ja0 l m:=by
 intro l m
 fun_induction ja0 l m with
 | case1=>intros;simp[ja0]
 | case2 p l ih =>
  intro J K E;have Q:P p=false:=by
   cases e:P p with
   | false=>rfl
   | true=>exact absurd ((E p e).1 bG) (by simp)
  have:=ih J.tail K (fun q X=>⟨fun A=>(E q X).1 (bD _ A),fun A=>by simp at A⟩)
  simp only[dR,Q,Bool.not_false,if_true,List.filter_nil]at this ⊢;rw[ja0,this]
 | case3 q m ih =>
  intro J K E;have X:P q=false:=by
   cases e:P q with
   | false=>rfl
   | true=>exact absurd ((E q e).2 bG) (by simp)
  have:=ih J K.tail (fun p Q=>⟨fun A=>by simp at A,fun A=>(E p Q).2 (bD _ A)⟩)
  simp only[dR,X,Bool.not_false,if_true,List.filter_nil]at this ⊢;rw[ja0,this]
 | case4 p l q m hlt ih =>
  intro J K E;have Q:P p=false:=by
   cases e:P p with
   | false=>rfl
   | true =>
    rcases bM.1 ((E p e).1 bG)with rfl | A
    ·rw[hi]at hlt;cases hlt
    ·have:=ht _ _ ((cW.1 K).1 p A)
     rw[hlt]at this;cases this
  have O:=ih J.tail K (fun x H=>⟨fun A=>(E x H).1 (bD _ A),fun A=>by
   rcases bM.1 ((E x H).2 A)with rfl | h
   ·rw[Q]at H;cases H
   ·exact h⟩)
  rw[dR,if_pos (by rw[Q];rfl)];cases A:(q :: m).filter fun p => !P p with
  | nil=>rw[A]at O;rw[ja0,O]
  | cons q' m' =>
   have a0:q'∈q :: m:=(cP.1 (by rw[A];exact bG:q'∈(q :: m).filter fun p => !P p)).1;have hl:jbc p.1 q'.1=true:=by
    rcases bM.1 a0 with rfl | h
    ·exact hlt
    ·exact htr _ _ _ hlt ((cW.1 K).1 q' h)
   rw[A]at O;rw[ja0,if_pos hl,O]
 | case5 p l q m hlt hgt ih =>
  intro J K E;have X:P q=false:=by
   cases e:P q with
   | false=>rfl
   | true =>
    rcases bM.1 ((E q e).2 bG)with rfl | A
    ·rw[hi]at hgt;cases hgt
    ·have:=ht _ _ ((cW.1 J).1 q A)
     rw[hgt]at this;cases this
  have O:=ih J K.tail (fun x H=>⟨fun A=>by
   rcases bM.1 ((E x H).1 A)with rfl | h
   ·rw[X]at H;cases H
   ·exact h,fun A=>(E x H).2 (bD _ A)⟩)
  rw[show (q :: m).filter (fun p => !P p)=q :: m.filter fun p => !P p by rw[dR,if_pos (by rw[X];rfl)]];cases A:(p :: l).filter fun p => !P p with
  | nil=>rw[A]at O;rw[ja0,O]
  | cons p' l' =>
   have a1:p'∈p :: l:=(cP.1 (by rw[A];exact bG:p'∈(p :: l).filter fun p => !P p)).1;have hl:jbc q.1 p'.1=true:=by
    rcases bM.1 a1 with rfl | h
    ·exact hgt
    ·exact htr _ _ _ hgt ((cW.1 J).1 p' h)
   rw[A]at O;rw[ja0,if_neg (by rw[ht _ _ hl];simp),if_pos hl,O]
 | case6 p l q m hlt hgt hv ih =>
  intro J K E;have hk:p.1=q.1:=heq _ _ (by simpa using hlt) (by simpa using hgt);have a2:p=q:=Prod.ext hk (by
   have h:p.2.toList=q.2.toList:=by simpa using hv
   rw[bR,bR]at h;exact jbo h)
  subst a2;have O:=ih J.tail K.tail (fun x H=>by
   have h:=E x H;constructor
   ·intro A
    rcases bM.1 (h.1 (bD _ A))with rfl | h3
    ·exact absurd A (J.o hi)
    ·exact h3
   ·intro A
    rcases bM.1 (h.2 (bD _ A))with rfl | h3
    ·exact absurd A (K.o hi)
    ·exact h3)
  cases e:P p with
  | true=>rw[dR,if_neg (by rw[e];simp),dR,if_neg (by rw[e];simp)];exact O
  | false =>
   rw[dR,if_pos (by rw[e];rfl),dR,if_pos (by rw[e];rfl),ja0,if_neg hlt,if_neg hgt,if_pos hv];exact O
 | case7 p l q m hlt hgt hv ih =>
  intro J K E;have hk:p.1=q.1:=heq _ _ (by simpa using hlt) (by simpa using hgt);have Z:¬ p=q:=fun e=>hv (by rw[e];simp);have Q:P p=false:=by
   cases e:P p with
   | false=>rfl
   | true =>
    rcases bM.1 ((E p e).1 bG)with h | A
    ·exact absurd h Z
    ·have:=(cW.1 K).1 p A
     rw[<-hk,hi]at this;cases this
  have X:P q=false:=by
   cases e:P q with
   | false=>rfl
   | true =>
    rcases bM.1 ((E q e).2 bG)with h | A
    ·exact absurd h.symm Z
    ·have:=(cW.1 J).1 q A
     rw[hk,hi]at this;cases this
  have O:=ih J.tail K.tail (fun x H=>by
   have h:=E x H;constructor
   ·intro A
    rcases bM.1 (h.1 (bD _ A))with rfl | h3
    ·rw[X]at H;cases H
    ·exact h3
   ·intro A
    rcases bM.1 (h.2 (bD _ A))with rfl | h3
    ·rw[Q]at H;cases H
    ·exact h3)
  rw[dR,if_pos (by rw[Q];rfl),dR,if_pos (by rw[X];rfl),ja0,if_neg hlt,if_neg hgt,if_neg hv,O]
