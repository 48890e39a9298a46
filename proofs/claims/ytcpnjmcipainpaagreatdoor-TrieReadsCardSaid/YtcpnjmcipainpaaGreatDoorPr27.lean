/- Lemmas; each is under no condition but those that it states. -/
import Derived.Test.YtcpnjmcipainpaaGreatDoorPr26
namespace Go.Proofs.YtcpnjmcipainpaaGreatDoor
set_option linter.unusedSimpArgs false
set_option linter.unusedVariables false
set_option maxRecDepth 100000
set_option maxHeartbeats 16000000
open Go Go.RowKit
theorem jlM(m:List Pair)(k:List UInt8):valM m k=(look m k).getD ⟨#[]⟩:=rfl
theorem jhV{k:List UInt8}:∀ {m:List Pair},k∈m.map Pair.k->∃ v,look m k=some v
 | [],h=>by cases h
 | q :: r,h=>by
  rw[jbf]
  by_cases e:k=q.k
  ·exact⟨_,if_pos e⟩
  ·rw[if_neg e]
   rcases List.mem_cons.1 h with h | h
   ·exact absurd h e
   ·exact jhV h
theorem jnt{k:List UInt8}{v:vB}:∀ {m:List Pair},look m k=some v->∃ p∈m,p.k=k/\p.2=v
 | [],h=>by cases h
 | q :: r,h=>by
  rw[jbf]at h
  by_cases e:k=q.k
  ·rw[if_pos e]at h
   exact⟨q,List.mem_cons_self,e.symm,Option.some.inj h⟩
  ·rw[if_neg e]at h
   obtain⟨p,hp,h1⟩:=jnt h
   exact⟨p,List.mem_cons_of_mem _ hp,h1⟩
theorem jm4(k:vB):∀ m:List Pair,(delM m k).map Pair.k=(m.map Pair.k).erase k.data.toList
 | []=>rfl
 | q :: r=>by
  rw[delM,List.map_cons,List.erase_cons]
  by_cases h:k.data.toList=q.k
  ·rw[if_pos h,if_pos (by simp[h])]
  ·rw[if_neg h,if_neg (by intro e;exact h (by simpa using (eq_of_beq e).symm)),List.map_cons,jm4 k r]
theorem jlm(p:Pair):∀ m:List Pair,(putM m p).map Pair.k=if p.k∈m.map Pair.k then m.map Pair.k else m.map Pair.k++[p.k]
 | []=>rfl
 | q :: r=>by
  rw[putM]
  by_cases h:p.k=q.k
  ·rw[if_pos h,if_pos (by simp[h])];simp[h]
  ·rw[if_neg h,List.map_cons,jlm p r]
   by_cases h2:p.k∈r.map Pair.k
   ·rw[if_pos h2,if_pos (by rw[List.map_cons];exact List.mem_cons_of_mem _ h2)];rfl
   ·rw[if_neg h2,if_neg (by rw[List.map_cons,List.mem_cons];exact fun e=>e.elim h h2)];rfl
theorem jln(p:Pair){m:List Pair}(h:(m.map Pair.k).Nodup):((putM m p).map Pair.k).Nodup:=by
 rw[jlm];split
 ·exact h
 ·rename_i hn
  rw[List.nodup_append]
  exact⟨h,by simp,fun a ha b hb e=>by simp at hb;subst hb;subst e;exact hn ha⟩
theorem jp4(k:vB){m:List Pair}(h:(m.map Pair.k).Nodup):((delM m k).map Pair.k).Nodup:=by
 rw[jm4];exact h.erase _
theorem jsJ(c:Chg){m:List Pair}(h:(m.map Pair.k).Nodup):((doM m c).map Pair.k).Nodup:=by
 unfold doM;split
 ·exact jp4 _ h
 ·exact jln _ h
theorem jkL:∀ (cs:List Chg) {m:List Pair},(m.map Pair.k).Nodup->((cs.foldl doM m).map Pair.k).Nodup
 | [],_,h=>h
 | c :: r,_,h=>jkL r (jsJ c h)
theorem ji3:∀ (l:List Pair) {m:List Pair},(m.map Pair.k).Nodup->((l.foldl putM m).map Pair.k).Nodup
 | [],_,h=>h
 | c :: r,_,h=>ji3 r (jln c h)
theorem jlZ(l:List Pair)(cs:List Chg):((jdW l cs).map Pair.k).Nodup:=jkL cs (ji3 l (by simp))
def jkZ(k:List UInt8)(o:Option vB)(c:Chg):Option vB:=if k=c.key.data.toList then (if c.gone then none else some c.value)else o
theorem jqE:∀ (a b:List UInt8),Lt a b↔a < b
 | a,[]=>⟨fun h=>absurd h (not_lt_nil _),fun h=>absurd h (List.not_lt_nil _)⟩
 | [],b :: y=>⟨fun _=>List.nil_lt_cons _ _,fun _=>jny⟩
 | a :: x,b :: y=>by rw[jbp,List.cons_lt_cons_iff,jqE x y]
theorem jlT.nodup{l:List Pair}(h:jlT l):(l.map Pair.k).Nodup:=by
 unfold List.Nodup;rw[List.pairwise_map];refine h.imp fun {p q} h=>?_;intro e;rw[e]at h;exact lt_irrefl _ h
theorem jgO(ks:List (List UInt8))(k:List UInt8):k∈jfL ks↔k∈ks:=(List.mergeSort_perm _ _).mem_iff
theorem jmJ{ks:List (List UInt8)}(h:ks.Nodup):(jfL ks).Pairwise Lt:=by
 have tr:∀ a b c:List UInt8,decide (a<=b)=true->decide (b<=c)=true->decide (a<=c)=true:=fun a b c h1 h2=>by simp only[decide_eq_true_eq]at *;exact List.le_trans h1 h2
 have to:∀ a b:List UInt8,(decide (a<=b) || decide (b<=a))=true:=fun a b=>by simp only[Bool.or_eq_true,decide_eq_true_eq];exact List.le_total a b
 have h1:(jfL ks).Pairwise (fun x y=>decide (x<=y)=true):=List.pairwise_mergeSort tr to ks;have h2:(jfL ks).Nodup:=(List.mergeSort_perm _ _).nodup_iff.2 h;refine (h1.and h2).imp fun {a b} h=>?_;have h3:a<=b:=by simpa using h.1
 rcases jk7 a b with e | e | e
 ·exact e
 ·exact absurd e h.2
 ·exact absurd ((jqE _ _).1 e) (List.not_lt.2 h3)
theorem jo4(m:List Pair):(jcO m).map Pair.k=jfL (m.map Pair.k):=by
 unfold jcO;rw[List.map_map]
 conv=>rhs;rw[<-List.map_id (jfL (m.map Pair.k))]
 exact List.map_congr_left fun k _=>rfl
theorem jrO(m:List Pair):(jcO m).length=m.length:=by
 unfold jcO;rw[List.length_map,jgd,List.length_map]
theorem jii{m:List Pair}(h:(m.map Pair.k).Nodup):jlT (jcO m):=by
 have h1:=jmJ h;rw[<-jo4,List.pairwise_map]at h1;exact h1
theorem jk6(f:List UInt8->vB)(k:List UInt8):∀ ks:List (List UInt8),look (ks.map fun x=>((⟨x.toArray⟩,f x):Pair)) k=if k∈ks then some (f k)else none
 | []=>rfl
 | x :: r=>by
  rw[List.map_cons,jbf,jk6 f k r];have e:Pair.k ((⟨x.toArray⟩,f x):Pair)=x:=rfl;rw[e]
  by_cases h:k=x
  ·rw[if_pos h,if_pos (by simp[h])];simp[h]
  ·rw[if_neg h]
   by_cases h2:k∈r
   ·rw[if_pos h2,if_pos (List.mem_cons_of_mem _ h2)]
   ·rw[if_neg h2,if_neg (by rw[List.mem_cons];exact fun e=>e.elim h h2)]
theorem jqA(m:List Pair)(k:List UInt8):look (jcO m) k=look m k:=by
 unfold jcO;rw[jk6]
 by_cases h:k∈m.map Pair.k
 ·rw[if_pos ((jgO _ _).2 h)]
  obtain⟨v,hv⟩:=jhV h
  rw[jlM,hv];rfl
 ·rw[if_neg (fun e=>h ((jgO _ _).1 e)),jeU h]
def okP(p:Pair):Prop:=jdI p.1=true/\jdc p.2=true
theorem jmz{p x:Pair}:∀ {m:List Pair},x∈putM m p->x=p\/x∈m
 | [],h=>.inl (by simpa [putM]using h)
 | q :: r,h=>by
  rw[putM]at h;split at h
  ·rcases List.mem_cons.1 h with h | h
   ·exact .inl h
   ·exact .inr (List.mem_cons_of_mem _ h)
  ·rcases List.mem_cons.1 h with h | h
   ·exact .inr (h ▸ List.mem_cons_self)
   ·exact (jmz h).imp id (List.mem_cons_of_mem _)
theorem jm3(k:vB):∀ m:List Pair,(delM m k).Sublist m
 | []=>List.Sublist.refl _
 | x :: r=>by
  unfold delM;split
  ·exact List.sublist_cons_self _ _
  ·exact (jm3 k r).cons_cons _
theorem jrm:∀ (l:List Pair) {m:List Pair},(∀ p∈l,okP p)->(∀ p∈m,okP p)->∀ p∈l.foldl putM m,okP p
 | [],_,_,h=>h
 | q :: r,m,h1,h2=>jrm r (fun p hp=>h1 p (List.mem_cons_of_mem _ hp)) fun p hp=>(jmz hp).elim (fun e=>e ▸ h1 q List.mem_cons_self) (h2 p)
theorem jul:∀ (cs:List Chg) {m:List Pair},cs.any Chg.bad=false->(∀ p∈m,okP p)->∀ p∈cs.foldl doM m,okP p
 | [],_,_,h=>h
 | c :: r,m,h1,h2=>by
  rw[List.any_cons,Bool.or_eq_false_iff]at h1;refine jul r h1.2 fun p hp=>?_;unfold doM at hp;have hb:=h1.1;unfold Chg.bad at hb;cases hg:c.gone with
  | true=>rw[if_pos hg]at hp;exact h2 p ((jm3 _ _).subset hp)
  | false =>
   rw[if_neg (by rw[hg];simp)]at hp;rcases jmz hp with rfl | hp
   ·simp[hg]at hb;exact hb
   ·exact h2 p hp
theorem jqG{l:List Pair}(h:jaG l=0):∀ p∈l,okP p:=fun p hp=>by
 obtain⟨h1,h2,h3,h4⟩:=(jaP h).size p hp
 exact⟨decide_eq_true ⟨h1,h2⟩,decide_eq_true ⟨h3,h4⟩⟩
theorem jpw{l:List Pair}{cs:List Chg}(h:jaG l=0)(hc:cs.any Chg.bad=false):∀ p∈jdW l cs,okP p:=
 jul cs hc (jrm l (jqG h) (by simp))
theorem jtt{l:List Pair}(h1:∀ p∈l,okP p)(h2:jlT l)(h3:l.length<=40):jaG l=0:=by
 unfold jaG;rw[if_neg,if_neg vO];intro h
 obtain⟨i,hi,hb⟩:=List.any_eq_true.1 h
 have hi:=List.mem_range.1 hi;have g:∀ j (hj:j < l.length),l.getD j (⟨#[]⟩,⟨#[]⟩)=l[j]:=fun j hj=>by rw[List.getD_eq_getElem?_getD,List.getElem?_eq_getElem hj];rfl
 unfold badN at hb;rw[g i hi,(h1 _ (List.getElem_mem hi)).1,(h1 _ (List.getElem_mem hi)).2]at hb;simp only[Bool.not_true,Bool.or_self,Bool.false_or,Bool.and_eq_true,decide_eq_true_eq,Bool.not_eq_true']at hb;rw[g (i - 1) vO]at hb
 have:=List.pairwise_iff_getElem.1 h2 (i - 1) i vO hi vO
 have h4:=hb.2;unfold jdQ at h4;rw[ByteArray.toList_eq,ByteArray.toList_eq]at h4;have h5:Op.bytesLess (l[i - 1]).1.data.toList (l[i]).1.data.toList=true:=this;rw[h5]at h4;cases h4
theorem jl0{l:List Pair}{cs:List Chg}(h:jbs l cs=0):jaG l=0/\cs.any Chg.bad=false/\(jdW l cs).length<=40:=by
 unfold jbs at h;split at h
 ·rename_i h1;exact absurd h h1
 rename_i h1
 split at h
 ·cases h
 rename_i h2
 split at h
 ·cases h
 rename_i h3
 exact⟨by simpa using h1,by simpa using h2,by omega⟩
theorem jpl{m:List Pair}(h:∀ p∈m,okP p):∀ p∈jcO m,okP p:=fun p hp=>by
 obtain⟨k,hk,rfl⟩:=List.mem_map.1 hp
 obtain⟨v,hv⟩:=jhV ((jgO _ _).1 hk)
 obtain⟨q,hq,e1,e2⟩:=jnt hv
 have:=h q hq
 rw[jlM,hv];have e:((⟨k.toArray⟩,(some v).getD ⟨#[]⟩):Pair)=q:=jjT e1.symm e2.symm;rw[e];exact this
theorem jft{l:List Pair}{cs:List Chg}(h:jbs l cs=0):jaG (jcO (jdW l cs))=0:=by
 obtain⟨h1,h2,h3⟩:=jl0 h
 exact jtt (jpl (jpw h1 h2)) (jii (jlZ l cs)) (by rw[jrO];exact h3)
theorem jgx(k:vB):∀ l:List Pair,jqb l k=look l k.data.toList
 | []=>rfl
 | q :: r=>by
  have ih:=jgx k r;unfold jqb joC at *;rw[jbf,List.findIdx?_cons]
  by_cases h:k.data.toList=q.k
  ·have:(q.1.toList == k.toList)=true:=by rw[ByteArray.toList_eq,ByteArray.toList_eq];simpa using h.symm
   rw[if_pos h,this];rfl
  ·have:(q.1.toList == k.toList)=false:=by
    rw[ByteArray.toList_eq,ByteArray.toList_eq,Bool.eq_false_iff];intro e;exact h (eq_of_beq e).symm
   rw[if_neg h,this, <-ih];cases List.findIdx? (fun p=>p.1.toList == k.toList) r <;> rfl
def jeB(xs:List Chg):List Value:=xs.flatMap fun c=>[.string c.key,.string c.value,.bool c.gone]
theorem jcI(xs:List Chg)(c:Chg):jeB (xs++[c])=jeB xs++[.string c.key,.string c.value,.bool c.gone]:=by simp[jeB]
theorem jiI(xs:List Chg):(jeB xs).length=xs.length * 3:=by
 induction xs with
 | nil=>rfl
 | cons x r ih=>unfold jeB at *;rw[List.flatMap_cons,List.length_append,ih];simp;omega
theorem Tryz.infoChg:(Tryz.prog.info? 86).map (fun i=>(i.zero,i.size,i.bytes))=some (some (.agg #[.string ⟨#[]⟩,.string ⟨#[]⟩,.bool false]),3,40):=by kernel_rfl
theorem Tryz.uChgs:Tryz.prog.underlying 41=some (.slice 86):=by kernel_rfl
theorem Tryz.sChgs:jeF Tryz.prog 41 86 3 40:=jeF.mk' Tryz.uChgs Tryz.infoChg rfl vI
abbrev CRow(w0 w:World)(v:Value)(n:Nat)(xs:List Chg):Prop:=ORow 86 3 w0 w v n (jeB xs)
def jbq:List Pair->List Pair->List Chg
 | [],[]=>[]
 | p :: l,[]=>⟨p.1,⟨#[]⟩,true⟩ :: jbq l []
 | [],q :: m=>⟨q.1,q.2,false⟩ :: jbq [] m
 | p :: l,q :: m =>
  if jdQ p.1 q.1=true then ⟨p.1,⟨#[]⟩,true⟩ :: jbq l (q :: m)
  else if jdQ q.1 p.1=true then ⟨q.1,q.2,false⟩ :: jbq (p :: l) m
  else if (p.2.toList == q.2.toList)=true then jbq l m else ⟨q.1,q.2,false⟩ :: jbq l m
termination_by l m=>l.length+m.length
def jgv(l m:List Pair):List Chg:=if jaG l=0/\jaG m=0 then jbq l m else []
theorem jcW{α:Type}{l:List α}{i:Nat}{x:α}(h:l[i]?=some x):l.drop i=x :: l.drop (i+1):=by
 obtain⟨hlt,e⟩:=List.getElem?_eq_some_iff.1 h
 rw[<-e];exact List.drop_eq_getElem_cons hlt
structure DfR(w:World)(l m:List Pair)(c:Value)(i j:Nat)(wr:World)(n:Nat)(acc:List Chg):Prop where
 hi:i<=l.length
 hj:j<=m.length
 hn:n<=i+j
 row:CRow w wr c n acc
 eq:acc++jbq (l.drop i) (m.drop j)=jbq l m
def jyg(w:World)(l m:List Pair)(c vi vj:Value)(wr:World):Prop:=∃ i j n acc,vi=.int .i64 (i:Nat)/\vj=.int .i64 (j:Nat)/\DfR w l m c i j wr n acc
theorem jxb{l m:List Pair}{i j:Nat}(hi:i=l.length)(hj:j=m.length):jbq (l.drop i) (m.drop j)=[]:=by
 subst hi;subst hj;rw[List.drop_length,List.drop_length];simp[jbq]
theorem jsF{l m:List Pair}{i j:Nat}{p:Pair}(hp:l[i]?=some p)(hj:j=m.length):jbq (l.drop i) (m.drop j)=⟨p.1,⟨#[]⟩,true⟩ :: jbq (l.drop (i+1)) (m.drop j):=by
 subst hj;rw[List.drop_length,jcW hp];simp[jbq]
theorem ju9{l m:List Pair}{i j:Nat}{q:Pair}(hq:m[j]?=some q)(hi:i=l.length):jbq (l.drop i) (m.drop j)=⟨q.1,q.2,false⟩ :: jbq (l.drop i) (m.drop (j+1)):=by
 subst hi;rw[List.drop_length,jcW hq];simp[jbq]
theorem jsG{l m:List Pair}{i j:Nat}{p q:Pair}(hp:l[i]?=some p)(hq:m[j]?=some q)(h:jdQ p.1 q.1=true):jbq (l.drop i) (m.drop j)=⟨p.1,⟨#[]⟩,true⟩ :: jbq (l.drop (i+1)) (m.drop j):=by
 rw[jcW hp,jcW hq,jbq,if_pos h]
theorem jva{l m:List Pair}{i j:Nat}{p q:Pair}(hp:l[i]?=some p)(hq:m[j]?=some q)(h:jdQ p.1 q.1=false)(h2:jdQ q.1 p.1=true):jbq (l.drop i) (m.drop j)=⟨q.1,q.2,false⟩ :: jbq (l.drop i) (m.drop (j+1)):=by
 rw[jcW hp,jcW hq,jbq,if_neg (by rw[h];simp),if_pos h2]
theorem jvb{l m:List Pair}{i j:Nat}{p q:Pair}(hp:l[i]?=some p)(hq:m[j]?=some q)(h:jdQ p.1 q.1=false)(h2:jdQ q.1 p.1=false)(h3:(p.2.toList == q.2.toList)=true):jbq (l.drop i) (m.drop j)=jbq (l.drop (i+1)) (m.drop (j+1)):=by
 rw[jcW hp,jcW hq,jbq,if_neg (by rw[h];simp),if_neg (by rw[h2];simp),if_pos h3]
theorem jsH{l m:List Pair}{i j:Nat}{p q:Pair}(hp:l[i]?=some p)(hq:m[j]?=some q)(h:jdQ p.1 q.1=false)(h2:jdQ q.1 p.1=false)(h3:(p.2.toList == q.2.toList)=false):jbq (l.drop i) (m.drop j)=⟨q.1,q.2,false⟩ :: jbq (l.drop (i+1)) (m.drop (j+1)):=by
 rw[jcW hp,jcW hq,jbq,if_neg (by rw[h];simp),if_neg (by rw[h2];simp),if_neg (by rw[h3];simp)]
theorem jxc(w:World)(v u:Value)(l m:List Pair)(hv:RdP w v l)(hu:RdP w u m)(hn1:l.length<=9223372036854775807)(hn2:m.length<=9223372036854775807)(hs1:∀ p∈l,p.1.size<=9223372036854775807/\p.2.size<=9223372036854775807)(hs2:∀ p∈m,p.1.size<=9223372036854775807/\p.2.size<=9223372036854775807) :
  vQ 89 #[v,u] w fun e w'=>∃ u,e=.returned u/\CRow w w' u (jgv l m).length (jgv l m):=by
 have HC1:=Hd (jgs w v l hv hn1 hs1);have HC2:=Hd (fun w1 (h1:Ext w w1)=>jgs w1 u m (hu.ext h1) hn2 hs2);have HV:=Hd hv;have HU:=Hd hu
 obtain⟨a,c,rfl⟩:=hv.sl
 obtain⟨a',c',hsl'⟩:=hu.sl
 subst hsl';clear hv hu hs1 hs2
 by_cases hck:jaG l=0
 case neg =>
  have HD:=Hd (show jgv l m=[] by unfold jgv;rw[if_neg (fun h=>hck h.1)]);rw[HD.o]
  obtain⟨x,hx⟩:=vE (jaG l)
  rw[<-hx]at hck HC1;have hne:(x == 0)=false:=by simpa using hck
  have hne2:(x != 0)=true:=by simpa using hck
  clear hck hx HV HU HC2 HD;go_enter Tryz.func89,Tryz.ntmps89;go_wp2_with fail
  refine HC1.o.mono ?_;rintro e w1 ⟨rfl,hE⟩;have HE:=Hd hE;clear hE HC1;go_wp2_with fail
  go_ret
  exact⟨_,rfl,ORow.nil _ _ HE.o⟩
 by_cases hck2:jaG m=0
 case neg =>
  have HD:=Hd (show jgv l m=[] by unfold jgv;rw[if_neg (fun h=>hck2 h.2)]);rw[HD.o];rw[hck]at HC1
  obtain⟨x,hx⟩:=vE (jaG m)
  rw[<-hx]at hck2 HC2;have hne:(x == 0)=false:=by simpa using hck2
  have hne2:(x != 0)=true:=by simpa using hck2
  clear hck hck2 hx HV HU HD;go_enter Tryz.func89,Tryz.ntmps89;go_wp2_with fail
  refine HC1.o.mono ?_;rintro e w1 ⟨rfl,hE⟩;have HE:=Hd hE;clear hE HC1;go_wp2_with fail
  refine vC (HC2.o w1 HE.o) fun w2 hE=>?_;have HE2:=Hd (HE.o.trans hE);clear hE HC2 HE;go_wp2_with fail
  go_ret
  exact⟨_,rfl,ORow.nil _ _ HE2.o⟩
 have hl40:=(jaP hck).len;have hm40:=(jaP hck2).len;have HD:=Hd (show jgv l m=jbq l m by unfold jgv;rw[if_pos ⟨hck,hck2⟩]);rw[HD.o];rw[hck]at HC1;rw[hck2]at HC2;clear hck hck2 HD hn1 hn2
 obtain⟨R,hR⟩:=vE (jbq l m)
 rw[<-hR];have HRR:=Hd hR;clear hR;go_enter Tryz.func89,Tryz.ntmps89;go_wp2_with fail
 refine HC1.o.mono ?_;rintro e w1 ⟨rfl,hE⟩;have HE:=Hd hE;clear hE HC1;go_wp2_with fail
 refine vC (HC2.o w1 HE.o) fun w2 hE=>?_;have HE2:=Hd (HE.o.trans hE);clear hE HC2 HE;go_wp2_with fail
 go_loopw [5,6,7] (fun v i j wr=>jyg w l m v i j wr) (fun _ i j _=>(l.length - (intOf i).toNat)+(m.length - (intOf j).toNat))
 case atStart=>exact⟨0,0,0,[],rfl,rfl,by omega,by omega,by omega,ORow.nil _ _ HE2.o,by simp⟩
 case round =>
  obtain⟨i,j,n,acc,rfl,rfl,hrr⟩:=hrel
  obtain⟨hi,hj,hn,hrow,heq⟩:=hrr
  obtain⟨a2,c2,rfl⟩:=hrow.sl
  have HR:=Hd hrow;have HEQ:=Hd heq;clear hrow heq HE2
  by_cases hjm:j < m.length
  ·by_cases hil:i < l.length
   ·obtain⟨q,hq⟩:∃ q,m[j]?=some q:=⟨_,List.getElem?_eq_getElem hjm⟩
    rcases HU.o with⟨_,_,_,h0⟩ |⟨bm,om,cm,hh,hb,hc,hcell⟩
    ·rw[h0]at hjm;cases hjm
    cases hh
    obtain⟨qb1,qb2⟩:=hcell j q hq
    have QB1:=Hd (jaa qb1 HR.o.ext);have QB2:=Hd (jaa qb2 HR.o.ext);have NB:Hid (¬(Value.slice a2 n c2).ownBlock=some bm):=(fun e=>by have:=HR.o.new bm e;omega);have HQ:=Hd hq;have b2:(j:Int) < (m.length:Int):=by omega
    obtain⟨y1,y2⟩:=q
    simp only at QB1 QB2;clear hcell hb hc hq
    obtain⟨p,hp⟩:∃ p,l[i]?=some p:=⟨_,List.getElem?_eq_getElem hil⟩
    rcases HV.o with⟨_,_,_,h0⟩ |⟨bl,ol,cl,hh,hb,hc,hcell⟩
    ·rw[h0]at hil;cases hil
    cases hh
    obtain⟨qa1,qa2⟩:=hcell i p hp
    have QA1:=Hd (jaa qa1 HR.o.ext);have QA2:=Hd (jaa qa2 HR.o.ext);have HP:=Hd hp;have b1:(i:Int) < (l.length:Int):=by omega
    obtain⟨x1,x2⟩:=p
    simp only at QA1 QA2;clear hcell hb hc hp;have eA:((j:Int) ==(m.length:Int))=false:=by simp;omega
    have eN:((i:Int) ==(l.length:Int))=false:=by simp;omega
    cases hls:jdQ x1 y1 with
    | true =>
     have HN:=Hd (show acc++[_]++jbq _ _=jbq l m from by rw[List.append_assoc,List.singleton_append, <-jsG HP.o HQ.o hls];exact HEQ.o);unfold jdQ at hls;clear HEQ;go_wp2_with fail
     refine jai [0,1,2,3,4,5,6,7,8,9,10,11,12,13,14,15,16,17,18,19,20,21,22,23] Ext ExtR ExtT vY vY vY ?_;iterate 14 refine vK ?_
     refine qKL ⟨bl,ol+i * 2,none⟩ (.string x1) rfl (fun w3 h3=>jab Tryz.uStr rfl (jaa (by exact QA1.o) ((jaj _).trans h3))) ?_;refine vS ?_;iterate 4 refine vK ?_
     refine qKL ⟨bm,om+j * 2,none⟩ (.string y1) rfl (fun w3 h3=>jab Tryz.uStr rfl (jaa (by exact QB1.o) ((jaj _).trans h3))) ?_;refine vS ?_;iterate 4 refine vK ?_
     refine qKE (fun w5 he=>?_);have HRX:=Hd (HR.o.mono ((jaj _).trans he));have qx1:=jaa QA1.o ((jaj _).trans he);clear he HR QA1 QA2 QB1 QB2;go_wp2_with (at_builtin;refine jba Tryz.sChgs (HRX.o.mono ((ExtR _).alloc _)) (.tmp 79) (.tmp 86) rfl rfl rfl (jaS (Blk.new _ _)) (news:=[.string x1,.string ⟨#[]⟩,.bool true]) (by intro u hu;simp at hu;rcases hu with rfl | rfl | rfl <;> rfl) rfl rfl ?c1 ?c2 (fun v' w' r1 r2 r3=>?_))
     case c1=>unfold maxLen;omega
     case c2=>omega
     have r1':CRow w w' v' (n+1) (acc++[⟨x1,⟨#[]⟩,true⟩]):=by unfold CRow;rw[jcI];exact r1
     obtain⟨a8,c8,rfl⟩:=r1'.sl
     have HR5:=Hd r1';clear r1 r2 r3 r1';go_wp2_with fail
     go_roundw
     case rel=>exact⟨i+1,j,n+1,_,by go_num,rfl,by omega,hj,by omega,HR5.o,HN.o⟩
     case measure=>simp[intOf];omega
    | false =>
     have HLS:=Hd hls;unfold jdQ at hls;go_wp2_with fail
     refine jai [0,1,2,3,4,5,6,7,8,9,10,11,12,13,14,15,16,17,18,19,20,21,22,23] Ext ExtR ExtT vY vY vY ?_;iterate 14 refine vK ?_
     refine qKL ⟨bl,ol+i * 2,none⟩ (.string x1) rfl (fun w3 h3=>jab Tryz.uStr rfl (jaa (by exact QA1.o) ((jaj _).trans h3))) ?_;refine vS ?_;iterate 4 refine vK ?_
     refine qKL ⟨bm,om+j * 2,none⟩ (.string y1) rfl (fun w3 h3=>jab Tryz.uStr rfl (jaa (by exact QB1.o) ((jaj _).trans h3))) ?_;refine vS ?_;iterate 4 refine vK ?_
     refine qKE (fun w5 he=>?_);have HRY:=Hd (HR.o.mono ((jaj _).trans he));have QA1':=Hd (jaa QA1.o ((jaj _).trans he));have QA2':=Hd (jaa QA2.o ((jaj _).trans he));have QB1':=Hd (jaa QB1.o ((jaj _).trans he));have QB2':=Hd (jaa QB2.o ((jaj _).trans he));clear he HR QA1 QA2 QB1 QB2 hls;cases hlt2:jdQ y1 x1 with
     | true =>
      have HN:=Hd (show acc++[_]++jbq _ _=jbq l m from by rw[List.append_assoc,List.singleton_append, <-jva HP.o HQ.o HLS.o hlt2];exact HEQ.o);unfold jdQ at hlt2;clear HEQ;go_wp2_with fail
      refine jai [0,1,2,3,4,5,6,7,8,9,10,11,12,13,14,15,16,17] Ext ExtR ExtT vY vY vY ?_;iterate 9 refine vK ?_
      refine qKL ⟨bm,om+j * 2,none⟩ (.string y1) rfl (fun w3 h3=>jab Tryz.uStr rfl (jaa (by exact QB1'.o) ((jaj _).trans h3))) ?_;refine vS ?_;iterate 4 refine vK ?_
      refine qKL ⟨bl,ol+i * 2,none⟩ (.string x1) rfl (fun w3 h3=>jab Tryz.uStr rfl (jaa (by exact QA1'.o) ((jaj _).trans h3))) ?_;refine vS ?_;iterate 3 refine vK ?_
      refine qKE (fun w5 he=>?_);have HRX:=Hd (HRY.o.mono ((jaj _).trans he));have QD1:=Hd (jaa QB1'.o ((jaj _).trans he));have QD2:=Hd (jaa QB2'.o ((jaj _).trans he));clear he HRY QA1' QA2' QB1' QB2' hlt2;go_wp2_with fail
      refine jaD [0,1,2,3,4,5,6,7,8,9,10,11,12,13,14] [12,13] Ext (jae (fun b=>(Value.slice a2 n c2).ownBlock=some b)) ExtR ExtT (fun x y z h k=>jae.trans h k) (fun x y h=>h.mono (fun _ _ h=>h.elim)) vY vY vY ?_;iterate 5 refine vD ?_
      refine qDL ⟨bm,om+j * 2,none⟩ (.string y1) rfl (fun w3 h3=>jab Tryz.uStr rfl (jaw (by exact QD1.o) h3 NB.o)) ?_;refine vS ?_;iterate 4 refine vD ?_
      refine qDL ⟨bm,om+j * 2+1,none⟩ (.string y2) rfl (fun w3 h3=>jab Tryz.uStr rfl (jaw (by exact QD2.o) h3 NB.o)) ?_;refine vS ?_
      refine vD ?_
      refine qDH _ rfl (fun w6 he K hK=>?_);have HR6:=Hd (HRX.o.mono ((jaj _).trans he));clear he;go_simp;refine hK _ _ ((jae.refl _ w6).alloc _) ?_;clear hK K;refine qDH _ rfl (fun w7 he K hK=>?_);have HR7:=Hd (HR6.o.mono (((ExtR w6).alloc _).trans he));have hB:∀ k u,([.string y1,.string y2,.bool false]:List Value)[k]?=some u->w7.cell? ((⟨w6.heap.size,0,none⟩:Addr).add k)=some u:=fun k u hk=>jaa (jaS (Blk.new w6 (.cells [Value.string y1,.string y2,.bool false].toArray 86)) k u hk) he;refine jgY Tryz.sChgs HR7.o (.tmp 108) (.tmp 120) rfl rfl hB (by intro u hu;simp at hu;rcases hu with rfl | rfl | rfl <;> rfl) rfl rfl (by unfold maxLen;omega) vO (fun v' w8 r1 r2 r3=>hK _ _ r2 ?_);have r1':CRow w w8 v' (n+1) (acc++[⟨y1,y2,false⟩]):=by unfold CRow;rw[jcI];exact r1
      have HR8:=Hd r1';clear hK K he r1 r2 r3 r1' hB HR6 HR7
      obtain⟨a4,c4,rfl⟩:=HR8.o.sl
      refine vS ?_
      refine vD ?_
      refine qDE (fun w9 he=>?_);have HR9:=Hd (HR8.o.mono he);clear he HR8;go_wp2_with fail
      go_roundw
      case rel=>exact⟨i,j+1,n+1,_,rfl,by go_num,by omega,by omega,by omega,HR9.o,HN.o⟩
      case measure=>simp[intOf];omega
     | false =>
      have HLT:=Hd hlt2;unfold jdQ at hlt2;go_wp2_with fail
      refine jai [0,1,2,3,4,5,6,7,8,9,10,11,12,13,14,15,16,17] Ext ExtR ExtT vY vY vY ?_;iterate 9 refine vK ?_
      refine qKL ⟨bm,om+j * 2,none⟩ (.string y1) rfl (fun w3 h3=>jab Tryz.uStr rfl (jaa (by exact QB1'.o) ((jaj _).trans h3))) ?_;refine vS ?_;iterate 4 refine vK ?_
      refine qKL ⟨bl,ol+i * 2,none⟩ (.string x1) rfl (fun w3 h3=>jab Tryz.uStr rfl (jaa (by exact QA1'.o) ((jaj _).trans h3))) ?_;refine vS ?_;iterate 3 refine vK ?_
      refine qKE (fun w5 he=>?_);have HRZ:=Hd (HRY.o.mono ((jaj _).trans he));have QE2:=Hd (jaa QA2'.o ((jaj _).trans he));have QF1:=Hd (jaa QB1'.o ((jaj _).trans he));have QF2:=Hd (jaa QB2'.o ((jaj _).trans he));clear he HRY QA1' QA2' QB1' QB2' hlt2;cases hvv:(x2.toList == y2.toList)with
      | true =>
       have HN:=Hd (show acc++jbq _ _=jbq l m from by rw[<-jvb HP.o HQ.o HLS.o HLT.o hvv];exact HEQ.o);clear HEQ;go_wp2_with fail
       refine jai [0,1,2,3,4,5,6,7,8,9,10] Ext ExtR ExtT vY vY vY ?_;iterate 4 refine vK ?_
       refine qKL ⟨bl,ol+i * 2+1,none⟩ (.string x2) rfl (fun w3 h3=>jab Tryz.uStr rfl (jaa (by exact QE2.o) ((jaj _).trans h3))) ?_;refine vS ?_;iterate 4 refine vK ?_
       refine qKL ⟨bm,om+j * 2+1,none⟩ (.string y2) rfl (fun w3 h3=>jab Tryz.uStr rfl (jaa (by exact QF2.o) ((jaj _).trans h3))) ?_;refine vS ?_
       refine vK ?_
       refine qKE (fun w5 he=>?_);have HRX:=Hd (HRZ.o.mono ((jaj _).trans he));clear he HRZ QE2 QF1 QF2;go_wp2_with fail
       go_roundw
       case rel=>exact⟨i+1,j+1,n,acc,by go_num,by go_num,by omega,by omega,by omega,HRX.o,HN.o⟩
       case measure=>simp[intOf];omega
      | false =>
       have HN:=Hd (show acc++[_]++jbq _ _=jbq l m from by rw[List.append_assoc,List.singleton_append, <-jsH HP.o HQ.o HLS.o HLT.o hvv];exact HEQ.o);clear HEQ;go_wp2_with fail
       refine jai [0,1,2,3,4,5,6,7,8,9,10] Ext ExtR ExtT vY vY vY ?_;iterate 4 refine vK ?_
       refine qKL ⟨bl,ol+i * 2+1,none⟩ (.string x2) rfl (fun w3 h3=>jab Tryz.uStr rfl (jaa (by exact QE2.o) ((jaj _).trans h3))) ?_;refine vS ?_;iterate 4 refine vK ?_
       refine qKL ⟨bm,om+j * 2+1,none⟩ (.string y2) rfl (fun w3 h3=>jab Tryz.uStr rfl (jaa (by exact QF2.o) ((jaj _).trans h3))) ?_;refine vS ?_
       refine vK ?_
       refine qKE (fun w5 he=>?_);have HRX:=Hd (HRZ.o.mono ((jaj _).trans he));have QD1:=Hd (jaa QF1.o ((jaj _).trans he));have QD2:=Hd (jaa QF2.o ((jaj _).trans he));clear he HRZ QE2 QF1 QF2;go_wp2_with fail
       refine jaD [0,1,2,3,4,5,6,7,8,9,10,11,12,13,14] [12,13] Ext (jae (fun b=>(Value.slice a2 n c2).ownBlock=some b)) ExtR ExtT (fun x y z h k=>jae.trans h k) (fun x y h=>h.mono (fun _ _ h=>h.elim)) vY vY vY ?_;iterate 5 refine vD ?_
       refine qDL ⟨bm,om+j * 2,none⟩ (.string y1) rfl (fun w3 h3=>jab Tryz.uStr rfl (jaw (by exact QD1.o) h3 NB.o)) ?_;refine vS ?_;iterate 4 refine vD ?_
       refine qDL ⟨bm,om+j * 2+1,none⟩ (.string y2) rfl (fun w3 h3=>jab Tryz.uStr rfl (jaw (by exact QD2.o) h3 NB.o)) ?_;refine vS ?_
       refine vD ?_
       refine qDH _ rfl (fun w6 he K hK=>?_);have HR6:=Hd (HRX.o.mono ((jaj _).trans he));clear he;go_simp;refine hK _ _ ((jae.refl _ w6).alloc _) ?_;clear hK K;refine qDH _ rfl (fun w7 he K hK=>?_);have HR7:=Hd (HR6.o.mono (((ExtR w6).alloc _).trans he));have hB:∀ k u,([.string y1,.string y2,.bool false]:List Value)[k]?=some u->w7.cell? ((⟨w6.heap.size,0,none⟩:Addr).add k)=some u:=fun k u hk=>jaa (jaS (Blk.new w6 (.cells [Value.string y1,.string y2,.bool false].toArray 86)) k u hk) he;refine jgY Tryz.sChgs HR7.o (.tmp 37) (.tmp 49) rfl rfl hB (by intro u hu;simp at hu;rcases hu with rfl | rfl | rfl <;> rfl) rfl rfl (by unfold maxLen;omega) vO (fun v' w8 r1 r2 r3=>hK _ _ r2 ?_);have r1':CRow w w8 v' (n+1) (acc++[⟨y1,y2,false⟩]):=by unfold CRow;rw[jcI];exact r1
       have HR8:=Hd r1';clear hK K he r1 r2 r3 r1' hB HR6 HR7
       obtain⟨a4,c4,rfl⟩:=HR8.o.sl
       refine vS ?_
       refine vD ?_
       refine qDE (fun w9 he=>?_);have HR9:=Hd (HR8.o.mono he);clear he HR8;go_wp2_with fail
       go_roundw
       case rel=>exact⟨i+1,j+1,n+1,_,by go_num,by go_num,by omega,by omega,by omega,HR9.o,HN.o⟩
       case measure=>simp[intOf];omega
   ·obtain⟨q,hq⟩:∃ q,m[j]?=some q:=⟨_,List.getElem?_eq_getElem hjm⟩
    rcases HU.o with⟨_,_,_,h0⟩ |⟨bm,om,cm,hh,hb,hc,hcell⟩
    ·rw[h0]at hjm;cases hjm
    cases hh
    obtain⟨qb1,qb2⟩:=hcell j q hq
    have QB1:=Hd (jaa qb1 HR.o.ext);have QB2:=Hd (jaa qb2 HR.o.ext);have NB:Hid (¬(Value.slice a2 n c2).ownBlock=some bm):=(fun e=>by have:=HR.o.new bm e;omega);have HQ:=Hd hq;have b2:(j:Int) < (m.length:Int):=by omega
    obtain⟨y1,y2⟩:=q
    simp only at QB1 QB2;clear hcell hb hc hq;have hie:i=l.length:=by omega
    have b1:¬(i:Int) < (l.length:Int):=by omega
    have eA:((j:Int) ==(m.length:Int))=false:=by simp;omega
    have eN:((i:Int) ==(l.length:Int))=true:=by simp;omega
    have HN:=Hd (show acc++[_]++jbq _ _=jbq l m from by rw[List.append_assoc,List.singleton_append, <-ju9 HQ.o hie];exact HEQ.o);clear hie HEQ;go_wp2_with fail
    refine jai [0,1,2,3,4,5,6,7,8,9,10,11,12,13,14,15,16,17,18,19,20,21,22,23] Ext ExtR ExtT vY vY vY ?_;iterate 10 refine vK ?_
    iterate 11 (refine qKS _ rfl ?_;refine vS ?_)
    iterate 3 refine vK ?_
    refine qKE (fun w5 he=>?_);have HRY:=Hd (HR.o.mono ((jaj _).trans he));have QC1:=Hd (jaa QB1.o ((jaj _).trans he));have QC2:=Hd (jaa QB2.o ((jaj _).trans he));clear he HR QB1 QB2;go_wp2_with fail
    refine jai [0,1,2,3,4,5,6,7,8,9,10,11,12,13,14,15,16,17] Ext ExtR ExtT vY vY vY ?_;iterate 5 refine vK ?_
    iterate 11 (refine qKS _ rfl ?_;refine vS ?_)
    iterate 2 refine vK ?_
    refine qKE (fun w5 he=>?_);have HRX:=Hd (HRY.o.mono ((jaj _).trans he));have QD1:=Hd (jaa QC1.o ((jaj _).trans he));have QD2:=Hd (jaa QC2.o ((jaj _).trans he));clear he HRY QC1 QC2;go_wp2_with fail
    refine jaD [0,1,2,3,4,5,6,7,8,9,10,11,12,13,14] [12,13] Ext (jae (fun b=>(Value.slice a2 n c2).ownBlock=some b)) ExtR ExtT (fun x y z h k=>jae.trans h k) (fun x y h=>h.mono (fun _ _ h=>h.elim)) vY vY vY ?_;iterate 5 refine vD ?_
    refine qDL ⟨bm,om+j * 2,none⟩ (.string y1) rfl (fun w3 h3=>jab Tryz.uStr rfl (jaw (by exact QD1.o) h3 NB.o)) ?_;refine vS ?_;iterate 4 refine vD ?_
    refine qDL ⟨bm,om+j * 2+1,none⟩ (.string y2) rfl (fun w3 h3=>jab Tryz.uStr rfl (jaw (by exact QD2.o) h3 NB.o)) ?_;refine vS ?_
    refine vD ?_
    refine qDH _ rfl (fun w6 he K hK=>?_);have HR6:=Hd (HRX.o.mono ((jaj _).trans he));clear he;go_simp;refine hK _ _ ((jae.refl _ w6).alloc _) ?_;clear hK K;refine qDH _ rfl (fun w7 he K hK=>?_);have HR7:=Hd (HR6.o.mono (((ExtR w6).alloc _).trans he));have hB:∀ k u,([.string y1,.string y2,.bool false]:List Value)[k]?=some u->w7.cell? ((⟨w6.heap.size,0,none⟩:Addr).add k)=some u:=fun k u hk=>jaa (jaS (Blk.new w6 (.cells [Value.string y1,.string y2,.bool false].toArray 86)) k u hk) he;refine jgY Tryz.sChgs HR7.o (.tmp 108) (.tmp 120) rfl rfl hB (by intro u hu;simp at hu;rcases hu with rfl | rfl | rfl <;> rfl) rfl rfl (by unfold maxLen;omega) vO (fun v' w8 r1 r2 r3=>hK _ _ r2 ?_);have r1':CRow w w8 v' (n+1) (acc++[⟨y1,y2,false⟩]):=by unfold CRow;rw[jcI];exact r1
    have HR8:=Hd r1';clear hK K he r1 r2 r3 r1' hB HR6 HR7
    obtain⟨a4,c4,rfl⟩:=HR8.o.sl
    refine vS ?_
    refine vD ?_
    refine qDE (fun w9 he=>?_);have HR9:=Hd (HR8.o.mono he);clear he HR8;go_wp2_with fail
    go_roundw
    case rel=>exact⟨i,j+1,n+1,_,rfl,by go_num,by omega,by omega,by omega,HR9.o,HN.o⟩
    case measure=>simp[intOf];omega
  ·have hje:j=m.length:=by omega
   by_cases hil:i < l.length
   ·obtain⟨p,hp⟩:∃ p,l[i]?=some p:=⟨_,List.getElem?_eq_getElem hil⟩
    rcases HV.o with⟨_,_,_,h0⟩ |⟨bl,ol,cl,hh,hb,hc,hcell⟩
    ·rw[h0]at hil;cases hil
    cases hh
    obtain⟨qa1,qa2⟩:=hcell i p hp
    have QA1:=Hd (jaa qa1 HR.o.ext);have QA2:=Hd (jaa qa2 HR.o.ext);have HP:=Hd hp;have b1:(i:Int) < (l.length:Int):=by omega
    obtain⟨x1,x2⟩:=p
    simp only at QA1 QA2;clear hcell hb hc hp;have b2:¬(j:Int) < (m.length:Int):=by omega
    have eA:((j:Int) ==(m.length:Int))=true:=by simp;omega
    have HN:=Hd (show acc++[_]++jbq _ _=jbq l m from by rw[List.append_assoc,List.singleton_append, <-jsF HP.o hje];exact HEQ.o);clear hje HEQ;go_wp2_with fail
    refine jai [0,1,2,3,4,5,6,7,8,9,10,11,12,13,14,15,16,17,18,19,20,21,22,23] Ext ExtR ExtT vY vY vY ?_;iterate 5 refine vK ?_
    iterate 17 (refine qKS _ rfl ?_;refine vS ?_)
    iterate 2 refine vK ?_
    refine qKE (fun w5 he=>?_);have HRX:=Hd (HR.o.mono ((jaj _).trans he));have qx1:=jaa QA1.o ((jaj _).trans he);clear he HR QA1 QA2;go_wp2_with (at_builtin;refine jba Tryz.sChgs (HRX.o.mono ((ExtR _).alloc _)) (.tmp 79) (.tmp 86) rfl rfl rfl (jaS (Blk.new _ _)) (news:=[.string x1,.string ⟨#[]⟩,.bool true]) (by intro u hu;simp at hu;rcases hu with rfl | rfl | rfl <;> rfl) rfl rfl ?c1 ?c2 (fun v' w' r1 r2 r3=>?_))
    case c1=>unfold maxLen;omega
    case c2=>omega
    have r1':CRow w w' v' (n+1) (acc++[⟨x1,⟨#[]⟩,true⟩]):=by unfold CRow;rw[jcI];exact r1
    obtain⟨a8,c8,rfl⟩:=r1'.sl
    have HR5:=Hd r1';clear r1 r2 r3 r1';go_wp2_with fail
    go_roundw
    case rel=>exact⟨i+1,j,n+1,_,by go_num,rfl,by omega,hj,by omega,HR5.o,HN.o⟩
    case measure=>simp[intOf];omega
   ·have hie:i=l.length:=by omega
    have HF:=Hd (show acc=R by have h:=HEQ.o;rw[jxb hie hje,List.append_nil, <-HRR.o]at h;exact h);have b1:¬(i:Int) < (l.length:Int):=by omega
    have b2:¬(j:Int) < (m.length:Int):=by omega
    have hnl:n=R.length:=by
     have:=HR.o.len
     rw[HF.o]at this;rw[jiI]at this;omega
    have HNL:=Hd hnl;clear hie hje hnl HEQ HRR;go_wp2_with fail
    go_ret
    exact⟨_,rfl,by rw[<-HNL.o, <-HF.o];exact HR.o⟩
abbrev Chg.k(c:Chg):List UInt8:=c.key.data.toList
def Chg.o(c:Chg):Option vB:=if c.gone then none else some c.value
theorem jgH{k:List UInt8}:∀ {cs:List Chg},(∀ c∈cs,c.k≠k)->∀ o,cs.foldl (jkZ k) o=o
 | [],_,_=>rfl
 | c :: r,h,o=>by
  have e:jkZ k o c=o:=by unfold jkZ;rw[if_neg (fun e=>h c List.mem_cons_self e.symm)]
  rw[List.foldl_cons,e,jgH fun x hx=>h x (List.mem_cons_of_mem _ hx)]
theorem jk1{c:Chg}:∀ {cs:List Chg},c∈cs->(cs.map Chg.k).Nodup->∀ o,cs.foldl (jkZ c.k) o=c.o
 | [],h,_,_=>by cases h
 | d :: r,h,hn,o=>by
  rw[List.map_cons,List.nodup_cons]at hn;rw[List.foldl_cons];rcases List.mem_cons.1 h with rfl | h
  ·rw[jgH fun x hx e=>hn.1 (by rw[<-e];exact List.mem_map_of_mem hx)]
   unfold jkZ Chg.o;rw[if_pos rfl]
  ·exact jk1 h hn.2 _
structure jkn(l m:List Pair)(cs:List Chg):Prop where
 keys:(cs.map Chg.k).Nodup
 done:∀ c∈cs,look m c.k=c.o
 rest:∀ k,(∀ c∈cs,c.k≠k)->look l k=look m k
 fine:cs.any Chg.bad=false
theorem jkn.looks{l m:List Pair}{cs:List Chg}(h:jkn l m cs)(k:List UInt8):cs.foldl (jkZ k) (look l k)=look m k:=by
 by_cases hk:∃ c∈cs,c.k=k
 ·obtain⟨c,hc,rfl⟩:=hk
  rw[jk1 hc h.keys,h.done c hc]
 ·have hn:∀ c∈cs,c.k≠k:=fun c hc e=>hk ⟨c,hc,e⟩
  rw[jgH hn,h.rest k hn]
def okL(l:List Pair):Prop:=(∀ p∈l,okP p)/\jlT l
theorem okL.tail{p:Pair}{l:List Pair}(h:okL (p :: l)):okL l:=⟨fun q hq=>h.1 q (List.mem_cons_of_mem _ hq),(List.pairwise_cons.1 h.2).2⟩
theorem okL.head{p:Pair}{l:List Pair}(h:okL (p :: l)):okP p:=h.1 p List.mem_cons_self
theorem okL.lt{p:Pair}{l:List Pair}(h:okL (p :: l)):∀ q∈l,Lt p.k q.k:=(List.pairwise_cons.1 h.2).1
theorem joo(l m:List Pair):∀ c∈jbq l m,c.k∈l.map Pair.k\/c.k∈m.map Pair.k:=by
 fun_induction jbq l m with
 | case1=>intro c hc;cases hc
 | case2 p l ih =>
  intro c hc;rcases List.mem_cons.1 hc with rfl | hc
  ·exact .inl (by simp[Chg.k,Pair.k])
  ·rcases ih c hc with h | h
   ·exact .inl (List.mem_cons_of_mem _ h)
   ·exact .inr h
 | case3 q m ih =>
  intro c hc;rcases List.mem_cons.1 hc with rfl | hc
  ·exact .inr (by simp[Chg.k,Pair.k])
  ·rcases ih c hc with h | h
   ·exact .inl h
   ·exact .inr (List.mem_cons_of_mem _ h)
 | case4 p l q m h ih =>
  intro c hc;rcases List.mem_cons.1 hc with rfl | hc
  ·exact .inl (by simp[Chg.k,Pair.k])
  ·rcases ih c hc with h | h
   ·exact .inl (List.mem_cons_of_mem _ h)
   ·exact .inr h
 | case5 p l q m h h2 ih =>
  intro c hc;rcases List.mem_cons.1 hc with rfl | hc
  ·exact .inr (by simp[Chg.k,Pair.k])
  ·rcases ih c hc with h | h
   ·exact .inl h
   ·exact .inr (List.mem_cons_of_mem _ h)
 | case6 p l q m h h2 h3 ih =>
  intro c hc;rcases ih c hc with h | h
  ·exact .inl (List.mem_cons_of_mem _ h)
  ·exact .inr (List.mem_cons_of_mem _ h)
 | case7 p l q m h h2 h3 ih =>
  intro c hc;rcases List.mem_cons.1 hc with rfl | hc
  ·exact .inr (by simp[Chg.k,Pair.k])
  ·rcases ih c hc with h | h
   ·exact .inl (List.mem_cons_of_mem _ h)
   ·exact .inr (List.mem_cons_of_mem _ h)
theorem joJ{k:List UInt8}{m:List Pair}(h:∀ q∈m,Lt k q.k):look m k=none:=jeU fun hm=>by
 obtain⟨q,hq,e⟩:=List.mem_map.1 hm
 exact lt_irrefl _ (e ▸ h q hq)
theorem jgG{k:List UInt8}{l m:List Pair}(h1:∀ q∈l,Lt k q.k)(h2:∀ q∈m,Lt k q.k):∀ c∈jbq l m,Lt k c.k:=fun c hc=>by
 rcases joo l m c hc with h | h
 ·obtain⟨q,hq,e⟩:=List.mem_map.1 h;rw[<-e];exact h1 q hq
 ·obtain⟨q,hq,e⟩:=List.mem_map.1 h;rw[<-e];exact h2 q hq
theorem jkn.cons{l m l' m':List Pair}{c:Chg}{cs:List Chg}(h:jkn l m cs)(hk:∀ d∈cs,Lt c.k d.k)(hc:look m' c.k=c.o)(hb:c.bad=false)
  (hl:∀ k,k≠c.k->look l' k=look l k) (hm:∀ k,k≠c.k->look m' k=look m k):jkn l' m' (c :: cs):=by
 refine⟨?_,?_,?_,?_⟩
 ·rw[List.map_cons,List.nodup_cons]
  refine⟨fun hh=>?_,h.keys⟩
  obtain⟨d,hd,e⟩:=List.mem_map.1 hh
  exact lt_irrefl _ (e ▸ hk d hd)
 ·intro d hd
  rcases List.mem_cons.1 hd with rfl | hd
  ·exact hc
  ·rw[hm _ (fun e=>lt_irrefl _ (e ▸ hk d hd)),h.done d hd]
 ·intro k hh
  have h1:k≠c.k:=fun e=>hh c List.mem_cons_self e.symm;rw[hl k h1,hm k h1,h.rest k fun d hd=>hh d (List.mem_cons_of_mem _ hd)]
 ·rw[List.any_cons,hb,h.fine];rfl
theorem jqi{p:Pair}(h:okP p):Chg.bad ⟨p.1,⟨#[]⟩,true⟩=false:=by
 unfold Chg.bad;rw[h.1];rfl
theorem jrl{p:Pair}(h:okP p):Chg.bad ⟨p.1,p.2,false⟩=false:=by
 unfold Chg.bad;rw[h.1,h.2];rfl
theorem jeT(q:Pair)(m:List Pair):look (q :: m) q.k=some q.2:=by rw[jbf,if_pos rfl]
theorem jcK{q:Pair}{m:List Pair}{k:List UInt8}(h:k≠q.k):look (q :: m) k=look m k:=by rw[jbf,if_neg h]
theorem jyL:∀ (l m:List Pair),okL l->okL m->jkn l m (jbq l m):=by
 intro l m
 fun_induction jbq l m with
 | case1=>exact fun _ _=>⟨by simp,by simp,fun _ _=>rfl,rfl⟩
 | case2 p l ih =>
  intro h1 h2;refine (ih h1.tail h2).cons (jgG h1.lt (by simp)) rfl (jqi h1.head) (fun k hk=>jcK hk) (fun _ _=>rfl)
 | case3 q m ih =>
  intro h1 h2;exact (ih h1 h2.tail).cons (jgG (by simp) h2.lt) (jeT q m) (jrl h2.head) (fun _ _=>rfl) (fun k hk=>jcK hk)
 | case4 p l q m h ih =>
  intro h1 h2;have hl:=(jd4 _ _).1 h;have hq:∀ x∈q :: m,Lt p.k x.k:=fun x hx=>by
   rcases List.mem_cons.1 hx with rfl | hx
   ·exact hl
   ·exact jd5 _ _ _ hl (h2.lt x hx)
  refine (ih h1.tail h2).cons (jgG h1.lt hq) (joJ hq) (jqi h1.head) (fun k hk=>jcK hk) (fun _ _=>rfl)
 | case5 p l q m h h' ih =>
  intro h1 h2;have hl:=(jd4 _ _).1 h';have hp:∀ x∈p :: l,Lt q.k x.k:=fun x hx=>by
   rcases List.mem_cons.1 hx with rfl | hx
   ·exact hl
   ·exact jd5 _ _ _ hl (h1.lt x hx)
  exact (ih h1 h2.tail).cons (jgG hp h2.lt) (jeT q m) (jrl h2.head) (fun _ _=>rfl) (fun k hk=>jcK hk)
 | case6 p l q m h h' h3 ih =>
  intro h1 h2;have hk:p.k=q.k:=by
   rcases jk7 p.k q.k with e | e | e
   ·exact absurd ((jd4 _ _).2 e) h
   ·exact e
   ·exact absurd ((jd4 _ _).2 e) h'
  have hv:p.2=q.2:=by
   rw[ByteArray.toList_eq,ByteArray.toList_eq]at h3
   obtain⟨⟨⟨a⟩⟩,⟨⟨b⟩⟩⟩:=p
   obtain⟨⟨⟨c⟩⟩,⟨⟨d⟩⟩⟩:=q
   simp at h3;simp[h3]
  have:=jjT hk hv
  subst this;have hi:=ih h1.tail h2.tail;have hlt:=jgG h1.lt h2.lt
  refine⟨hi.keys,fun c hc=>?_,fun k hh=>?_,hi.fine⟩
  ·rw[jcK (fun e=>lt_irrefl _ (e ▸ hlt c hc)),hi.done c hc]
  ·by_cases e:k=p.k
   ·rw[e,jeT,jeT]
   ·rw[jcK e,jcK e,hi.rest k hh]
 | case7 p l q m h h' h3 ih =>
  intro h1 h2;have hk:p.k=q.k:=by
   rcases jk7 p.k q.k with e | e | e
   ·exact absurd ((jd4 _ _).2 e) h
   ·exact e
   ·exact absurd ((jd4 _ _).2 e) h'
  have hlt:=jgG (fun x hx=>hk ▸ h1.lt x hx) h2.lt;exact (ih h1.tail h2.tail).cons hlt (jeT q m) (jrl h2.head) (fun k e=>jcK (by rw[hk];exact e)) (fun k e=>jcK e)
theorem jfT{l:List Pair}(h:jaG l=0):okL l:=⟨jqG h,(jaP h).rise⟩
theorem joq{l m:List Pair}(h1:jaG l=0)(h2:jaG m=0):jkn l m (jgv l m):=by
 unfold jgv;rw[if_pos ⟨h1,h2⟩];exact jyL l m (jfT h1) (jfT h2)
abbrev Key:=List UInt8
abbrev EntK:=Ent Key
def kvE(x:EntK):Key × Value:=(x.1,x.2.1)
def getV(m:List (Key × Value))(k:Key):Option Value:=(m.find? fun x=>decide (k=x.1)).map (·.2)
def putV:List (Key × Value)->Key->Value->List (Key × Value)
 | [],k,v=>[(k,v)]
 | x :: r,k,v=>if k=x.1 then (k,v) :: r else x :: putV r k v
structure MapV(es:List EntK)(ck:Nat)(m:List (Key × Value)):Prop where
 same:es.map kvE=m
 born:(es.map (·.2.2)).Nodup
 lt:∀ x∈es,x.2.2 < ck
 keys:(m.map (·.1)).Nodup
theorem MapV.nil(ck:Nat):MapV [] ck []:=⟨rfl,by simp,by simp,by simp⟩
theorem MapV.len{es:List EntK}{ck:Nat}{m:List (Key × Value)}(h:MapV es ck m):es.length=m.length:=by rw[<-h.same];simp
theorem jun(k:Key):∀ es:List EntK,jaX es k=getV (es.map kvE) k
 | []=>rfl
 | x :: r=>by
  have ih:=jun k r;unfold getV jaX at *;rw[List.map_cons,List.find?_cons,List.find?_cons]
  by_cases h:k=x.1
  ·simp[h,kvE]
  ·simp[h,kvE]at ih ⊢;exact ih
theorem MapV.get{es:List EntK}{ck:Nat}{m:List (Key × Value)}(h:MapV es ck m)(k:Key):jaX es k=getV m k:=by rw[jun,h.same]
theorem jrj(k:Key)(v:Value)(n:Nat):∀ es:List EntK,(jbn es k v n).map kvE=putV (es.map kvE) k v
 | []=>rfl
 | x :: r=>by
  unfold jbn;rw[List.map_cons,putV]
  by_cases h:k=x.1
  ·rw[if_pos h,if_pos (show k=(kvE x).1 from h),List.map_cons];rfl
  ·rw[if_neg h,if_neg (show ¬ k=(kvE x).1 from h),List.map_cons,jrj k v n r]
theorem jkS(x:EntK)(r:List EntK)(k:Key):jaX (x :: r) k=if k=x.1 then some x.2.1 else jaX r k:=by
 by_cases h:k=x.1 <;> simp[jaX,h]
theorem jlj(k:Key)(v:Value)(n:Nat):∀ es:List EntK,(jbn es k v n).map (·.2.2)=if (jaX es k).isSome then es.map (·.2.2)else es.map (·.2.2)++[n]
 | []=>rfl
 | x :: r=>by
  unfold jbn;rw[jkS]
  by_cases h:k=x.1
  ·rw[if_pos h,if_pos h];simp
  ·rw[if_neg h,if_neg h,List.map_cons,jlj k v n r]
   cases (jaX r k).isSome <;> simp
theorem jll(k:Key)(v:Value):∀ m:List (Key × Value),(putV m k v).map (·.1)=if k∈m.map (·.1)then m.map (·.1)else m.map (·.1)++[k]
 | []=>rfl
 | x :: r=>by
  rw[putV]
  by_cases h:k=x.1
  ·rw[if_pos h,if_pos (by simp[h])];simp[h]
  ·rw[if_neg h,List.map_cons,jll k v r]
   by_cases h2:k∈r.map (·.1)
   ·rw[if_pos h2,if_pos (by rw[List.map_cons];exact List.mem_cons_of_mem _ h2)];rfl
   ·rw[if_neg h2,if_neg (by rw[List.map_cons,List.mem_cons];exact fun e=>e.elim h h2)];rfl
theorem MapV.put{es:List EntK}{ck:Nat}{m:List (Key × Value)}(h:MapV es ck m)(k:Key)(v:Value):MapV (jbn es k v ck) (if (jaX es k).isSome then ck else ck+1) (putV m k v):=by
 have hb:=jlj k v ck es
 refine⟨by rw[jrj,h.same],?_,?_,?_⟩
 ·rw[hb]
  split
  ·exact h.born
  ·rw[List.nodup_append]
   refine⟨h.born,by simp,fun a ha b hb e=>?_⟩
   obtain⟨x,hx,e1⟩:=List.mem_map.1 ha
   have:=h.lt x hx
   simp at hb;omega
 ·intro x hx
  have hm:x.2.2∈(jbn es k v ck).map (·.2.2):=List.mem_map.2 ⟨x,hx,rfl⟩;rw[hb]at hm;split at hm
  ·rename_i hs
   rw[if_pos hs]
   obtain⟨y,hy,e⟩:=List.mem_map.1 hm
   rw[<-e];exact h.lt y hy
  ·rename_i hs
   rw[if_neg hs];rcases List.mem_append.1 hm with hm | hm
   ·obtain⟨y,hy,e⟩:=List.mem_map.1 hm
    have:=h.lt y hy;omega
   ·simp at hm;omega
 ·rw[jll]
  split
  ·exact h.keys
  ·rename_i hn
   rw[List.nodup_append]
   exact⟨h.keys,by simp,fun a ha b hb e=>by simp at hb;subst hb;subst e;exact hn ha⟩
structure It where
 text:vB
 refs:List vB
 used:Int
 held:Int
abbrev Nd5:=Key × Nat × It
theorem Tryz.uMapIt:Tryz.prog.underlying 115=some (.map 9 121):=by kernel_rfl
theorem Tryz.zeroIt(w:World):(zeroValue 121).run Tryz.prog w=.ok (.pointer none) w:=by kernel_rfl
structure jeA(W:World)(b:Nat)(it:It):Prop where
 cells:∃ rv,Blk W b (.cells #[.string it.text,rv,.int .i64 it.used,.int .i64 it.held] 125)/\W.ownsRow 0 9 1 rv it.refs.length (it.refs.map Value.string)
def jis(W:World)(F:BSet):Prop:=∀ b cur fz,F b->¬ Blk W b (.cells cur 9 fz)
theorem jis.none(W:World):jis W (fun _=>False):=fun _ _ _ h=>h.elim
theorem jgb{W W':World}{F:BSet}{v:Value}{n:Nat}{xs:List Value}(h:W.ownsRow 0 9 1 v n xs)(k:jae F W W')(hF:jis W F):W'.ownsRow 0 9 1 v n xs:=by
 refine jaW h k fun b hb hf=>?_
 obtain⟨_,⟨h1,_⟩ |⟨g,cap,cur,h1,_,h3,_⟩⟩:=h
 ·rw[h1]at hb;cases hb
 ·rw[h1]at hb
  have e:some g=some b:=hb;obtain rfl:=Option.some.inj e;exact hF g cur (0,0) hf h3
theorem jeA.keeps{W W':World}{F:BSet}{b:Nat}{it:It}(h:jeA W b it)(k:jae F W W')(hb:¬ F b)(hF:jis W F):jeA W' b it:=by
 obtain⟨rv,h1,h2⟩:=h.cells
 exact⟨rv,h1.keeps k hb,jgb h2 k hF⟩
theorem jeA.lt{W:World}{b:Nat}{it:It}(h:jeA W b it):b < W.heap.size:=by obtain⟨rv,h1,_⟩:=h.cells;exact h1.lt
def kvN(x:Nd5):Key × Value:=(x.1,.pointer (some ⟨x.2.1,0,none⟩))
structure jc9(W:World)(bm:Nat)(L:List Nd5):Prop where
 mp:∃ es ck,Blk W bm (.map (Tryz.ES.arr es) ck)/\MapV es ck (L.map kvN)
 blks:(L.map (·.2.1)).Nodup
 items:∀ x∈L,jeA W x.2.1 x.2.2
theorem jc9.keeps{W W':World}{F:BSet}{bm:Nat}{L:List Nd5}(h:jc9 W bm L)(k:jae F W W')(hm:¬ F bm)(hL:∀ x∈L,¬ F x.2.1)(hF:jis W F):jc9 W' bm L:=by
 obtain⟨es,ck,h1,h2⟩:=h.mp
 exact⟨⟨es,ck,h1.keeps k hm,h2⟩,h.blks,fun x hx=>(h.items x hx).keeps k (hL x hx) hF⟩
theorem jc9.ext{W W':World}{bm:Nat}{L:List Nd5}(h:jc9 W bm L)(k:Ext W W'):jc9 W' bm L:=h.keeps k (fun h=>h) (fun _ _ h=>h) (jis.none W)
def atL(L:List Nd5)(k:Key):Option Nd5:=L.find? fun x=>decide (k=x.1)
theorem jqh(k:Key):∀ L:List Nd5,getV (L.map kvN) k=(atL L k).map fun x=>.pointer (some ⟨x.2.1,0,none⟩)
 | []=>rfl
 | x :: r=>by
  have ih:=jqh k r;unfold getV atL at *;rw[List.map_cons,List.find?_cons,List.find?_cons]
  by_cases h:k=x.1
  ·simp[h,kvN]
  ·simp[h,kvN]at ih ⊢;exact ih
theorem ja6{L:List Nd5}{k:Key}{x:Nd5}(h:atL L k=some x):x∈L/\x.1=k:=by
 unfold atL at h;have h2:=List.find?_some h
 exact⟨List.mem_of_find?_eq_some h,(of_decide_eq_true h2).symm⟩
def ptrO(o:Option Nd5):Value:=match o with | some x=>.pointer (some ⟨x.2.1,0,none⟩) | none=>.pointer none
theorem jc9.look{W:World}{bm:Nat}{L:List Nd5}(h:jc9 W bm L)(k:vB)(ok:Bool) :
  (Instr.lookup 115 (.map (some bm)) (.string k) ok).run Tryz.prog W=.ok (if ok then .tuple #[ptrO (atL L k.data.toList),.bool (atL L k.data.toList).isSome]else ptrO (atL L k.data.toList)) W:=by
 obtain⟨es,ck,h1,h2⟩:=h.mp
 have:=jcF Tryz.ES Tryz.uMapIt h1 (Tryz.zeroIt W) k.data.toList ok
 rw[h2.get,jqh]at this;cases ha:atL L k.data.toList with
 | none=>rw[ha]at this;exact this
 | some x=>rw[ha]at this;exact this
structure jaT(W:World)(s bm:Nat)(room:Int)(L:List Nd5):Prop where
 st:Blk W s (.cells #[.int .i64 room,.map (some bm)] 123)
 mp:jc9 W bm L
theorem jaT.ext{W W':World}{s bm:Nat}{room:Int}{L:List Nd5}(h:jaT W s bm room L)(k:Ext W W'):jaT W' s bm room L:=⟨h.st.keeps k (fun h=>h),h.mp.ext k⟩
theorem jja(w:World)(s bm:Nat)(room:Int)(L:List Nd5)(k:vB)(h:jaT w s bm room L):vR 29 #[.pointer (some ⟨s,0,none⟩),.string k] w (optV ((atL L k.data.toList).map (·.2.2.text))):=by
 have q1:=h.st.cell (i:=1) (v:=.map (some bm)) vF;have hlk:=h.mp.look k true;have HI:=Hd h.mp.items;simp only[if_true]at hlk;clear h;cases ha:atL L k.data.toList with
 | none =>
  rw[ha]at hlk;unfold ptrO at hlk;simp only[Option.isSome]at hlk;clear ha;go_enter Tryz.func29,Tryz.ntmps29;go_wp2_with fail
  go_ret2
  exact⟨rfl,ExtR w⟩
 | some x =>
  rw[ha]at hlk
  obtain⟨rv,hB,_⟩:=(HI.o x (ja6 ha).1).cells
  have q2:=hB.cell (i:=0) (v:=.string x.2.2.text) vF;unfold ptrO at hlk;simp only[Option.isSome]at hlk;clear ha hB;go_enter Tryz.func29,Tryz.ntmps29;go_wp2_with fail
  go_ret2
  exact⟨rfl,ExtR w⟩
def jmo(o:Option Nd5):Int:=match o with | some x=>x.2.2.held | none=>0
section
attribute [local go_sem] Oper.semAt_some
theorem MapV.lenL{es:List EntK}{ck:Nat}{L:List Nd5}(h:MapV es ck (L.map kvN)):es.length=L.length:=by rw[h.len];simp
theorem jv7(w:World)(s bm:Nat)(room:Int)(L:List Nd5)(h:jaT w s bm room L)(h0:0<=room)(h1:room<=9223372036854775807)(hl:L.length<=1000000):vR 84 #[.pointer (some ⟨s,0,none⟩)] w (.int .i64 (room - L.length)):=by
 have Q1:=Hd (h.st.cell (i:=1) (v:=.map (some bm)) vF);have Q0:=Hd (h.st.cell (i:=0) (v:=.int .i64 room) vF)
 obtain⟨es,ck,hm,hmv⟩:=h.mp.mp
 have HM:=Hd hm
 obtain⟨n,hn⟩:=vE L.length
 have hel:es.length=n:=by rw[hmv.lenL,hn]
 have HEL:=Hd hel;rw[<-hn]at hl ⊢;clear h hm hmv hel hn;go_enter Tryz.func84,Tryz.ntmps84;go_wp2_with fail
 refine jai [0,1,2,3,4,5,6,7,8,9,10] Ext ExtR ExtT vY vY vY ?_
 refine vK ?_
 refine jcg _ (.pointer (some ⟨s,0,none⟩)) rfl vY rfl (fun w1 _=>by kernel_rfl) ?_;refine vS ?_
 refine vK ?_
 refine qKL ⟨s,0,none⟩ _ rfl (fun w1 h1=>jab Tryz.underlying3 rfl (jaa Q0.o ((jaj _).trans h1))) ?_;refine vS ?_
 refine vK ?_
 refine jcg _ (.pointer (some ⟨s,0,none⟩)) rfl vY rfl (fun w1 _=>by kernel_rfl) ?_;refine vS ?_
 refine vK ?_
 refine qKL ⟨s,1,none⟩ _ rfl (fun w1 h1=>jab Tryz.underlying115 rfl (jaa Q1.o ((jaj _).trans h1))) ?_;refine vS ?_;refine jcg _ (.int .i64 es.length) rfl vY rfl (fun w1 h1=>by
  have hx:=jig Tryz.ES Tryz.uMapIt (HM.o.keeps ((jaj _).trans h1) (fun h=>h)) 3;simp[execOp,Act.eval,resolve,invoke,builtin,hx,Sem.run_bind,Result.andThen,Sem.run_pure]) ?_
 refine vS ?_;rw[HEL.o];iterate 2 refine vK ?_
 refine qKE (fun w3 he=>?_);have HE:=Hd ((jaj _).trans he);clear he;go_wp2_with fail
 go_ret
 exact⟨rfl,HE.o⟩
theorem Tryz.makeMapIt(W:World):(Instr.makeMap 115 none).run Tryz.prog W=.ok (.map (some W.heap.size)) (W.alloc (.map #[] 0)):=by kernel_rfl
theorem jrN(w:World)(room:Int):vQ 37 #[.int .i64 room] w fun e w'=>∃ s bm,e=.returned (.pointer (some ⟨s,0,none⟩))/\Ext w w'/\jaT w' s bm (max room 0) []/\w.heap.size<=bm/\w.heap.size<=s/\s≠bm:=by
 have hmm:=Tryz.makeMapIt;go_enter Tryz.func37,Tryz.ntmps37;go_wp2_with fail
 go_ret
 refine⟨_,_,rfl,((ExtR w).alloc _).alloc _,⟨?_,⟨[],0,?_,MapV.nil 0⟩,by simp,fun x hx=>by cases hx⟩,Nat.le_refl _,Nat.le_succ _,by omega⟩
 ·exact (by simpa using Blk.new (w.alloc (.map #[] 0)) (.cells #[.int .i64 (max room 0),.map (some w.heap.size)] 123))
 ·exact (Blk.new w (.map #[] 0)).alloc _
end
noncomputable def itOf(t:vB):It:=⟨t,jaU (nodeOf t),0,0⟩
noncomputable def ky(t:vB):Key:=(shaB t).data.toList
noncomputable def addG(m:List (Key × It))(t:vB):List (Key × It):=if m.any (fun x=>decide (ky t=x.1))then m else m++[(ky t,itOf t)]
noncomputable def readG(L:List vB):List (Key × It):=L.foldl addG []
def kvI(x:Nd5):Key × It:=(x.1,x.2.2)
theorem jjh{L:List Nd5}{k:Key}:atL L k=none↔∀ x∈L,k≠x.1:=by
 unfold atL;rw[List.find?_eq_none];simp
theorem juW{L:List Nd5}{k:Key}:(L.map kvI).any (fun x=>decide (k=x.1))=(atL L k).isSome:=by
 rw[List.any_map];unfold atL;rw[List.isSome_find?];rfl
theorem jhE(k:Key)(v:Value)(n:Nat):∀ es:List EntK,jaX es k=none->jbn es k v n=es++[(k,v,n)]
 | [],_=>rfl
 | x :: r,h=>by
  rw[jkS]at h;unfold jbn
  by_cases hk:k=x.1
  ·rw[if_pos hk]at h;cases h
  ·rw[if_neg hk]at h ⊢
   rw[jhE k v n r h];rfl
theorem jc9.put{W:World}{bm:Nat}{L:List Nd5}(h:jc9 W bm L)(k:vB)(hk:atL L k.data.toList=none){b:Nat}{it:It}(hb:jeA W b it)(hn:∀ x∈L,x.2.1≠b) :
  ∃ o,(Instr.mapUpdate 115 (.map (some bm)) (.string k) (.pointer (some ⟨b,0,none⟩))).run Tryz.prog W=.ok () (W.putObj bm o)/\jc9 (W.putObj bm o) bm (L++[(k.data.toList,b,it)]):=by
 obtain⟨es,ck,h1,h2⟩:=h.mp
 have hg:jaX es k.data.toList=none:=by rw[h2.get,jqh,hk];rfl
 have hmu:=jci Tryz.ES Tryz.uMapIt h1 k.data.toList (.pointer (some ⟨b,0,none⟩));have hp:=h2.put k.data.toList (.pointer (some ⟨b,0,none⟩));rw[hg]at hmu hp;simp only[Option.isSome_none,Bool.false_eq_true,if_false]at hmu hp;have hK:jae (fun z=>z=bm) W (W.putObj bm (.map (Tryz.ES.arr (jbn es k.data.toList (.pointer (some ⟨b,0,none⟩)) ck)) (ck+1))):=jae.onePut W bm _;have hN:jis W (fun z=>z=bm):=fun z cur fz e hz=>by
  have e:z=bm:=e;subst e
  have:=h1.uniq hz;cases this
 have hne:∀ {c:Nat} {i:It},jeA W c i->¬ c=bm:=fun hi e=>by
  obtain⟨_,hc,_⟩:=hi.cells
  subst e
  have:=h1.uniq hc;cases this
 refine⟨_,hmu,⟨_,_,h1.put_same _,?_⟩,?_,?_⟩
 ·have e:putV (L.map kvN) k.data.toList (.pointer (some ⟨b,0,none⟩))=(L++[(k.data.toList,b,it)]).map kvN:=by
   rw[List.map_append, <-h2.same, <-jrj,jhE _ _ ck _ hg,List.map_append];rfl
  rw[<-e];exact hp
 ·rw[List.map_append,List.nodup_append]
  exact⟨h.blks,by simp,fun a ha c hc e=>by
   simp at hc;subst hc;subst e
   obtain⟨x,hx,e⟩:=List.mem_map.1 ha
   exact hn x hx e⟩
 ·intro x hx
  rcases List.mem_append.1 hx with hx | hx
  ·exact (h.items x hx).keeps hK (hne (h.items x hx)) hN
  ·simp only[List.mem_singleton]at hx
   subst hx;exact hb.keeps hK (hne hb) hN
structure ReS(w:World)(bg:Nat)(G:List Nd5)(T:List vB)(W:World):Prop where
 ext:Ext w W
 at':jc9 W bg G
 is:G.map kvI=readG T
 new:w.heap.size<=bg
 news:∀ x∈G,w.heap.size<=x.2.1
theorem ReS.keeps{w:World}{bg:Nat}{G:List Nd5}{T:List vB}{W W':World}(h:ReS w bg G T W)(e:Ext W W'):ReS w bg G T W':=⟨h.ext.trans e,h.at'.ext e,h.is,h.new,h.news⟩
theorem joR{L:List vB}{i:Nat}{t:vB}(h:L[i]?=some t):readG (L.take (i+1))=addG (readG (L.take i)) t:=by
 unfold readG;rw[List.take_add_one,h,List.foldl_append];rfl
section
attribute [local go_sem] Oper.semAt_some
def frK(S:List Nd5)(M:List vB):List vB:=(ja7 M).filter fun y=>(atL S y.data.toList).isNone
structure Meet(w0:World)(s:Nat)(S:List Nd5)(bg b:Nat)(M:List vB)(W:World):Prop where
 ext:Ext w0 W
 lo:w0.heap.size<=b
 c3:Blk W b (.cells #[.pointer (some ⟨s,0,none⟩)] 24)
 c5:Blk W (b+1) (.cells #[.map (some bg)] 115)
 c9:Blk W (b+4) (.cells #[.map (some (b+3))] 107)
 tab:∃ es ck,Blk W (b+3) (.map (Tryz.ES.arr es) ck)/\∀ y:vB,jaX es y.data.toList=cntV (cntB M y)
 var:∃ v n,Blk W (b+2) (.cells #[v] 34)/\W.ownsRow 0 9 1 v n ((frK S M).map Value.string)/\n<=M.length/\∀ z,v.ownBlock=some z->b+5<=z
theorem Meet.keeps{w0:World}{s:Nat}{S:List Nd5}{bg b:Nat}{M:List vB}{W W':World}(h:Meet w0 s S bg b M W)(e:Ext W W'):Meet w0 s S bg b M W':=by
 obtain⟨es,ck,h1,h2⟩:=h.tab
 obtain⟨v,n,h3,h4,h5,h6⟩:=h.var
 exact⟨h.ext.trans e,h.lo,h.c3.keeps e (fun g=>g),h.c5.keeps e (fun g=>g),h.c9.keeps e (fun g=>g),⟨es,ck,h1.keeps e (fun g=>g),h2⟩,v,n,h3.keeps e (fun g=>g),jbe h4 e,h5,h6⟩
theorem jng(S:List Nd5)(M:List vB)(x:vB):frK S (M++[x])=if memB (ja7 M) x=true then frK S M else if (atL S x.data.toList).isNone then frK S M++[x]else frK S M:=by
 unfold frK;rw[jfC];unfold addF;split
 ·rfl
 ·rw[List.filter_append]
  split
  ·rename_i h;rw[List.filter_cons_of_pos (by simpa using h)];rfl
  ·rename_i h;rw[List.filter_cons_of_neg (by simpa using h)];simp
theorem jpQ(M:List vB)(x y:vB):cntB (M++[x]) y=cntB M y+(if x.data.toList=y.data.toList then 1 else 0):=by
 unfold cntB;rw[List.map_append,List.count_append,List.map_cons,List.map_nil,List.count_singleton]
 simp
end
end Go.Proofs.YtcpnjmcipainpaaGreatDoor
