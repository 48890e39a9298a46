/- Parts of the proof, one behind the other: MapA, CanonY, MapB. Each is under no condition but those that it states. -/
import Derived.Test.YtpaacnhboilkkaaGreatDoorPh29
import Derived.Test.YtpaacnhboilkkaaGreatDoorPh42
namespace Go.Proofs.YtpaacnhboilkkaaGreatDoor
set_option linter.unusedSimpArgs false
set_option linter.unusedVariables false
set_option maxRecDepth 100000
set_option maxHeartbeats 16000000
section
open Go Go.RowKit
theorem jrq(m:List Pair)(k:List UInt8):valM m k=(look m k).getD ⟨#[]⟩:=rfl
theorem jkE{k:List UInt8}:∀ {m:List Pair},k∈m.map Pair.k→∃ v,look m k=some v
 | [],h=>by cases h
 | q :: r,h=>by
  rw[jd9]
  by_cases e:k=q.k
  ·exact⟨_,if_pos e⟩
  ·rw[if_neg e]
   rcases List.mem_cons.1 h with h | h
   ·exact absurd h e
   ·exact jkE h
theorem jmV{k:List UInt8}{v:ByteArray}:∀ {m:List Pair},look m k=some v→∃ p∈m,p.k=k∧p.2=v
 | [],h=>by cases h
 | q :: r,h=>by
  rw[jd9]at h
  by_cases e:k=q.k
  ·rw[if_pos e]at h
   exact⟨q,List.mem_cons_self,e.symm,Option.some.inj h⟩
  ·rw[if_neg e]at h
   obtain⟨p,hp,h1⟩:=jmV h
   exact⟨p,List.mem_cons_of_mem _ hp,h1⟩
theorem jmt(k:ByteArray):∀ m:List Pair,(delM m k).map Pair.k=(m.map Pair.k).erase k.data.toList
 | []=>rfl
 | q :: r=>by
  rw[delM,List.map_cons,List.erase_cons]
  by_cases h:k.data.toList=q.k
  ·rw[if_pos h,if_pos (by simp[h])]
  ·rw[if_neg h,if_neg (by intro e;exact h (by simpa using (eq_of_beq e).symm)),List.map_cons,jmt k r]
theorem jkX(p:Pair):∀ m:List Pair,(putM m p).map Pair.k=if p.k∈m.map Pair.k then m.map Pair.k else m.map Pair.k++[p.k]
 | []=>rfl
 | q :: r=>by
  rw[putM]
  by_cases h:p.k=q.k
  ·rw[if_pos h,if_pos (by simp[h])];simp[h]
  ·rw[if_neg h,List.map_cons,jkX p r]
   by_cases h2:p.k∈r.map Pair.k
   ·rw[if_pos h2,if_pos (by rw[List.map_cons];exact List.mem_cons_of_mem _ h2)];rfl
   ·rw[if_neg h2,if_neg (by rw[List.map_cons,List.mem_cons];exact fun e=>e.elim h h2)];rfl
theorem jkY(p:Pair){m:List Pair}(h:(m.map Pair.k).Nodup):((putM m p).map Pair.k).Nodup:=by
 rw[jkX];split
 ·exact h
 ·rename_i hn
  rw[List.nodup_append]
  exact⟨h,by simp,fun a ha b hb e=>by simp at hb;subst hb;subst e;exact hn ha⟩
theorem jpE(k:ByteArray){m:List Pair}(h:(m.map Pair.k).Nodup):((delM m k).map Pair.k).Nodup:=by
 rw[jmt];exact h.erase _
theorem jsa(c:Chg){m:List Pair}(h:(m.map Pair.k).Nodup):((doM m c).map Pair.k).Nodup:=by
 unfold doM;split
 ·exact jpE _ h
 ·exact jkY _ h
theorem jkd:∀ (cs:List Chg) {m:List Pair},(m.map Pair.k).Nodup→((cs.foldl doM m).map Pair.k).Nodup
 | [],_,h=>h
 | c :: r,_,h=>jkd r (jsa c h)
theorem jiG:∀ (l:List Pair) {m:List Pair},(m.map Pair.k).Nodup→((l.foldl putM m).map Pair.k).Nodup
 | [],_,h=>h
 | c :: r,_,h=>jiG r (jkY c h)
theorem jln(l:List Pair)(cs:List Chg):((jfx l cs).map Pair.k).Nodup:=jkd cs (jiG l (by simp))
def jkw(k:List UInt8)(o:Option ByteArray)(c:Chg):Option ByteArray:=if k=c.key.data.toList then (if c.gone then none else some c.value)else o
theorem jqp:∀ (a b:List UInt8),Lt a b↔a < b
 | a,[]=>⟨fun h=>absurd h (not_lt_nil _),fun h=>absurd h (List.not_lt_nil _)⟩
 | [],b :: y=>⟨fun _=>List.nil_lt_cons _ _,fun _=>jiA⟩
 | a :: x,b :: y=>by rw[jbg,List.cons_lt_cons_iff,jqp x y]
theorem jot(ks:List (List UInt8))(k:List UInt8):k∈jfT ks↔k∈ks:=(List.mergeSort_perm _ _).mem_iff
theorem jl4{ks:List (List UInt8)}(h:ks.Nodup):(jfT ks).Pairwise Lt:=by
 have tr:∀ a b c:List UInt8,decide (a≤b)=true→decide (b≤c)=true→decide (a≤c)=true:=fun a b c h1 h2=>by simp only[decide_eq_true_eq]at *;exact List.le_trans h1 h2
 have to:∀ a b:List UInt8,(decide (a≤b) || decide (b≤a))=true:=fun a b=>by simp only[Bool.or_eq_true,decide_eq_true_eq];exact List.le_total a b
 have h1:(jfT ks).Pairwise (fun x y=>decide (x≤y)=true):=List.pairwise_mergeSort tr to ks;have h2:(jfT ks).Nodup:=(List.mergeSort_perm _ _).nodup_iff.2 h;refine (h1.and h2).imp fun {a b} h=>?_;have h3:a≤b:=by simpa using h.1
 rcases jmW a b with e | e | e
 ·exact e
 ·exact absurd e h.2
 ·exact absurd ((jqp _ _).1 e) (List.not_lt.2 h3)
theorem jos(m:List Pair):(jds m).map Pair.k=jfT (m.map Pair.k):=by
 unfold jds;rw[List.map_map]
 conv=>rhs;rw[←List.map_id (jfT (m.map Pair.k))]
 exact List.map_congr_left fun k _=>rfl
theorem jrg(m:List Pair):(jds m).length=m.length:=by
 unfold jds;rw[List.length_map,jgi,List.length_map]
theorem jl3{m:List Pair}(h:(m.map Pair.k).Nodup):jrz (jds m):=by
 have h1:=jl4 h;rw[←jos,List.pairwise_map]at h1;exact h1
def okP(p:Pair):Prop:=jdV p.1=true∧jdt p.2=true
theorem jlX{p x:Pair}:∀ {m:List Pair},x∈putM m p→x=p∨x∈m
 | [],h=>.inl (by simpa [putM]using h)
 | q :: r,h=>by
  rw[putM]at h;split at h
  ·rcases List.mem_cons.1 h with h | h
   ·exact .inl h
   ·exact .inr (List.mem_cons_of_mem _ h)
  ·rcases List.mem_cons.1 h with h | h
   ·exact .inr (h ▸ List.mem_cons_self)
   ·exact (jlX h).imp id (List.mem_cons_of_mem _)
theorem jmr(k:ByteArray):∀ m:List Pair,(delM m k).Sublist m
 | []=>List.Sublist.refl _
 | x :: r=>by
  unfold delM;split
  ·exact List.sublist_cons_self _ _
  ·exact (jmr k r).cons_cons _
theorem jqT:∀ (l:List Pair) {m:List Pair},(∀ p∈l,okP p)→(∀ p∈m,okP p)→∀ p∈l.foldl putM m,okP p
 | [],_,_,h=>h
 | q :: r,m,h1,h2=>jqT r (fun p hp=>h1 p (List.mem_cons_of_mem _ hp)) fun p hp=>(jlX hp).elim (fun e=>e ▸ h1 q List.mem_cons_self) (h2 p)
theorem jtC:∀ (cs:List Chg) {m:List Pair},cs.any Chg.bad=false→(∀ p∈m,okP p)→∀ p∈cs.foldl doM m,okP p
 | [],_,_,h=>h
 | c :: r,m,h1,h2=>by
  rw[List.any_cons,Bool.or_eq_false_iff]at h1;refine jtC r h1.2 fun p hp=>?_;unfold doM at hp;have hb:=h1.1;unfold Chg.bad at hb;cases hg:c.gone with
  | true=>rw[if_pos hg]at hp;exact h2 p ((jmr _ _).subset hp)
  | false =>
   rw[if_neg (by rw[hg];simp)]at hp;rcases jlX hp with rfl | hp
   ·simp[hg]at hb;exact hb
   ·exact h2 p hp
theorem jqq{l:List Pair}(h:jaS l=0):∀ p∈l,okP p:=fun p hp=>by
 obtain⟨h1,h2,h3,h4⟩:=(jaM h).size p hp
 exact⟨decide_eq_true ⟨h1,h2⟩,decide_eq_true ⟨h3,h4⟩⟩
theorem jo7{l:List Pair}{cs:List Chg}(h:jaS l=0)(hc:cs.any Chg.bad=false):∀ p∈jfx l cs,okP p:=
 jtC cs hc (jqT l (jqq h) (by simp))
theorem jsN{l:List Pair}(h1:∀ p∈l,okP p)(h2:jrz l)(h3:l.length≤40):jaS l=0:=by
 unfold jaS;rw[if_neg,if_neg (by omega)];intro h
 obtain⟨i,hi,hb⟩:=List.any_eq_true.1 h
 have hi:=List.mem_range.1 hi;have g:∀ j (hj:j < l.length),l.getD j (⟨#[]⟩,⟨#[]⟩)=l[j]:=fun j hj=>by rw[List.getD_eq_getElem?_getD,List.getElem?_eq_getElem hj];rfl
 unfold badN at hb;rw[g i hi,(h1 _ (List.getElem_mem hi)).1,(h1 _ (List.getElem_mem hi)).2]at hb;simp only[Bool.not_true,Bool.or_self,Bool.false_or,Bool.and_eq_true,decide_eq_true_eq,Bool.not_eq_true']at hb;rw[g (i - 1) (by omega)]at hb
 have:=List.pairwise_iff_getElem.1 h2 (i - 1) i (by omega) hi (by omega)
 have h4:=hb.2;unfold jbs at h4;rw[ByteArray.toList_eq,ByteArray.toList_eq]at h4;have h5:Op.bytesLess (l[i - 1]).1.data.toList (l[i]).1.data.toList=true:=this;rw[h5]at h4;cases h4
theorem jlo{l:List Pair}{cs:List Chg}(h:jbX l cs=0):jaS l=0∧cs.any Chg.bad=false∧(jfx l cs).length≤40:=by
 unfold jbX at h;split at h
 ·rename_i h1;exact absurd h h1
 rename_i h1
 split at h
 ·cases h
 rename_i h2
 split at h
 ·cases h
 rename_i h3
 exact⟨by simpa using h1,by simpa using h2,by omega⟩
theorem joU{m:List Pair}(h:∀ p∈m,okP p):∀ p∈jds m,okP p:=fun p hp=>by
 obtain⟨k,hk,rfl⟩:=List.mem_map.1 hp
 obtain⟨v,hv⟩:=jkE ((jot _ _).1 hk)
 obtain⟨q,hq,e1,e2⟩:=jmV hv
 have:=h q hq
 rw[jrq,hv];have e:((⟨k.toArray⟩,(some v).getD ⟨#[]⟩):Pair)=q:=jm2 e1.symm e2.symm;rw[e];exact this
theorem jfD{l:List Pair}{cs:List Chg}(h:jbX l cs=0):jaS (jds (jfx l cs))=0:=by
 obtain⟨h1,h2,h3⟩:=jlo h
 exact jsN (joU (jo7 h1 h2)) (jl3 (jln l cs)) (by rw[jrg];exact h3)
def jfW(xs:List Chg):List Value:=xs.flatMap fun c=>[.string c.key,.string c.value,.bool c.gone]
theorem jcT(xs:List Chg)(c:Chg):jfW (xs++[c])=jfW xs++[.string c.key,.string c.value,.bool c.gone]:=by simp[jfW]
theorem jij(xs:List Chg):(jfW xs).length=xs.length * 3:=by
 induction xs with
 | nil=>rfl
 | cons x r ih=>unfold jfW at *;rw[List.flatMap_cons,List.length_append,ih];simp;omega
theorem Tryz.infoChg:(Tryz.prog.info? 66).map (fun i=>(i.zero,i.size,i.bytes))=some (some (.agg #[.string ⟨#[]⟩,.string ⟨#[]⟩,.bool false]),3,40):=by kernel_rfl
theorem Tryz.uChgs:Tryz.prog.underlying 41=some (.slice 66):=by kernel_rfl
theorem Tryz.sChgs:jeH Tryz.prog 41 66 3 40:=jeH.mk' Tryz.uChgs Tryz.infoChg rfl (by decide)
abbrev CRow(w0 w:World)(v:Value)(n:Nat)(xs:List Chg):Prop:=ORow 66 3 w0 w v n (jfW xs)
def jbD:List Pair→List Pair→List Chg
 | [],[]=>[]
 | p :: l,[]=>⟨p.1,⟨#[]⟩,true⟩ :: jbD l []
 | [],q :: m=>⟨q.1,q.2,false⟩ :: jbD [] m
 | p :: l,q :: m =>
  if jbs p.1 q.1=true then ⟨p.1,⟨#[]⟩,true⟩ :: jbD l (q :: m)
  else if jbs q.1 p.1=true then ⟨q.1,q.2,false⟩ :: jbD (p :: l) m
  else if (p.2.toList == q.2.toList)=true then jbD l m else ⟨q.1,q.2,false⟩ :: jbD l m
termination_by l m=>l.length+m.length
def jgA(l m:List Pair):List Chg:=if jaS l=0∧jaS m=0 then jbD l m else []
theorem jde{α:Type}{l:List α}{i:Nat}{x:α}(h:l[i]?=some x):l.drop i=x :: l.drop (i+1):=by
 obtain⟨hlt,e⟩:=List.getElem?_eq_some_iff.1 h
 rw[←e];exact List.drop_eq_getElem_cons hlt
structure DfR(w:World)(l m:List Pair)(c:Value)(i j:Nat)(wr:World)(n:Nat)(acc:List Chg):Prop where
 hi:i≤l.length
 hj:j≤m.length
 hn:n≤i+j
 row:CRow w wr c n acc
 eq:acc++jbD (l.drop i) (m.drop j)=jbD l m
def jxa(w:World)(l m:List Pair)(c vi vj:Value)(wr:World):Prop:=∃ i j n acc,vi=.int .i64 (i:Nat)∧vj=.int .i64 (j:Nat)∧DfR w l m c i j wr n acc
theorem jwj{l m:List Pair}{i j:Nat}(hi:i=l.length)(hj:j=m.length):jbD (l.drop i) (m.drop j)=[]:=by
 subst hi;subst hj;rw[List.drop_length,List.drop_length];simp[jbD]
theorem jr6{l m:List Pair}{i j:Nat}{p:Pair}(hp:l[i]?=some p)(hj:j=m.length):jbD (l.drop i) (m.drop j)=⟨p.1,⟨#[]⟩,true⟩ :: jbD (l.drop (i+1)) (m.drop j):=by
 subst hj;rw[List.drop_length,jde hp];simp[jbD]
theorem jus{l m:List Pair}{i j:Nat}{q:Pair}(hq:m[j]?=some q)(hi:i=l.length):jbD (l.drop i) (m.drop j)=⟨q.1,q.2,false⟩ :: jbD (l.drop i) (m.drop (j+1)):=by
 subst hi;rw[List.drop_length,jde hq];simp[jbD]
theorem jr7{l m:List Pair}{i j:Nat}{p q:Pair}(hp:l[i]?=some p)(hq:m[j]?=some q)(h:jbs p.1 q.1=true):jbD (l.drop i) (m.drop j)=⟨p.1,⟨#[]⟩,true⟩ :: jbD (l.drop (i+1)) (m.drop j):=by
 rw[jde hp,jde hq,jbD,if_pos h]
theorem jut{l m:List Pair}{i j:Nat}{p q:Pair}(hp:l[i]?=some p)(hq:m[j]?=some q)(h:jbs p.1 q.1=false)(h2:jbs q.1 p.1=true):jbD (l.drop i) (m.drop j)=⟨q.1,q.2,false⟩ :: jbD (l.drop i) (m.drop (j+1)):=by
 rw[jde hp,jde hq,jbD,if_neg (by rw[h];simp),if_pos h2]
theorem juu{l m:List Pair}{i j:Nat}{p q:Pair}(hp:l[i]?=some p)(hq:m[j]?=some q)(h:jbs p.1 q.1=false)(h2:jbs q.1 p.1=false)(h3:(p.2.toList == q.2.toList)=true):jbD (l.drop i) (m.drop j)=jbD (l.drop (i+1)) (m.drop (j+1)):=by
 rw[jde hp,jde hq,jbD,if_neg (by rw[h];simp),if_neg (by rw[h2];simp),if_pos h3]
theorem jr8{l m:List Pair}{i j:Nat}{p q:Pair}(hp:l[i]?=some p)(hq:m[j]?=some q)(h:jbs p.1 q.1=false)(h2:jbs q.1 p.1=false)(h3:(p.2.toList == q.2.toList)=false):jbD (l.drop i) (m.drop j)=⟨q.1,q.2,false⟩ :: jbD (l.drop (i+1)) (m.drop (j+1)):=by
 rw[jde hp,jde hq,jbD,if_neg (by rw[h];simp),if_neg (by rw[h2];simp),if_neg (by rw[h3];simp)]
theorem jwk(w:World)(v u:Value)(l m:List Pair)(hv:RdP w v l)(hu:RdP w u m)(hn1:l.length≤9223372036854775807)(hn2:m.length≤9223372036854775807)(hs1:∀ p∈l,p.1.size≤9223372036854775807∧p.2.size≤9223372036854775807)(hs2:∀ p∈m,p.1.size≤9223372036854775807∧p.2.size≤9223372036854775807) :
  Calls Tryz.prog 79 #[v,u] w fun e w'=>∃ u,e=.returned u∧CRow w w' u (jgA l m).length (jgA l m):=by
 have HC1:=Hd (jgw w v l hv hn1 hs1);have HC2:=Hd (fun w1 (h1:Ext w w1)=>jgw w1 u m (hu.ext h1) hn2 hs2);have HV:=Hd hv;have HU:=Hd hu
 obtain⟨a,c,hsl⟩:=hv.sl
 subst hsl
 obtain⟨a',c',hsl'⟩:=hu.sl
 subst hsl';clear hv hu hs1 hs2
 by_cases hck:jaS l=0
 case neg =>
  have HD:=Hd (show jgA l m=[] by unfold jgA;rw[if_neg (fun h=>hck h.1)]);rw[HD.o]
  obtain⟨x,hx⟩:∃ x,x=jaS l:=⟨_,rfl⟩
  rw[←hx]at hck HC1;have hne:(x == 0)=false:=by simpa using hck
  have hne2:(x != 0)=true:=by simpa using hck
  clear hck hx HV HU HC2 HD;go_enter Tryz.func79,Tryz.ntmps79;go_wp2_with fail
  refine HC1.o.mono ?_;rintro e w1 ⟨rfl,hE⟩;have HE:=Hd hE;clear hE HC1;go_wp2_with fail
  go_ret
  exact⟨_,rfl,ORow.nil _ _ HE.o⟩
 by_cases hck2:jaS m=0
 case neg =>
  have HD:=Hd (show jgA l m=[] by unfold jgA;rw[if_neg (fun h=>hck2 h.2)]);rw[HD.o];rw[hck]at HC1
  obtain⟨x,hx⟩:∃ x,x=jaS m:=⟨_,rfl⟩
  rw[←hx]at hck2 HC2;have hne:(x == 0)=false:=by simpa using hck2
  have hne2:(x != 0)=true:=by simpa using hck2
  clear hck hck2 hx HV HU HD;go_enter Tryz.func79,Tryz.ntmps79;go_wp2_with fail
  refine HC1.o.mono ?_;rintro e w1 ⟨rfl,hE⟩;have HE:=Hd hE;clear hE HC1;go_wp2_with fail
  refine (HC2.o w1 HE.o).mono ?_;rintro e w2 ⟨rfl,hE⟩;have HE2:=Hd (HE.o.trans hE);clear hE HC2 HE;go_wp2_with fail
  go_ret
  exact⟨_,rfl,ORow.nil _ _ HE2.o⟩
 have hl40:=(jaM hck).len;have hm40:=(jaM hck2).len;have HD:=Hd (show jgA l m=jbD l m by unfold jgA;rw[if_pos ⟨hck,hck2⟩]);rw[HD.o];rw[hck]at HC1;rw[hck2]at HC2;clear hck hck2 HD hn1 hn2
 obtain⟨R,hR⟩:∃ R,R=jbD l m:=⟨_,rfl⟩
 rw[←hR];have HRR:=Hd hR;clear hR;go_enter Tryz.func79,Tryz.ntmps79;go_wp2_with fail
 refine HC1.o.mono ?_;rintro e w1 ⟨rfl,hE⟩;have HE:=Hd hE;clear hE HC1;go_wp2_with fail
 refine (HC2.o w1 HE.o).mono ?_;rintro e w2 ⟨rfl,hE⟩;have HE2:=Hd (HE.o.trans hE);clear hE HC2 HE;go_wp2_with fail
 go_loopw [5,6,7] (fun v i j wr=>jxa w l m v i j wr) (fun _ i j _=>(l.length - (intOf i).toNat)+(m.length - (intOf j).toNat))
 case atStart=>exact⟨0,0,0,[],rfl,rfl,by omega,by omega,by omega,ORow.nil _ _ HE2.o,by simp⟩
 case round =>
  obtain⟨i,j,n,acc,rfl,rfl,hrr⟩:=hrel
  obtain⟨hi,hj,hn,hrow,heq⟩:=hrr
  obtain⟨a2,c2,rfl⟩:=hrow.sl
  have HR:=Hd hrow;have HEQ:=Hd heq;clear hrow heq HE2
  by_cases hjm:j < m.length
  ·by_cases hil:i < l.length
   ·obtain⟨q,hq⟩:∃ q,m[j]?=some q:=⟨_,List.getElem?_eq_getElem hjm⟩
    rcases HU.o with⟨_,_,_,h0⟩ |⟨bm,om,cm,hh,hb,hc,hcell⟩
    ·rw[h0]at hjm;cases hjm
    cases hh
    obtain⟨qb1,qb2⟩:=hcell j q hq
    have QB1:=Hd (jaa qb1 HR.o.ext);have QB2:=Hd (jaa qb2 HR.o.ext);have NB:=Hd (show ¬(Value.slice a2 n c2).ownBlock=some bm from fun e=>by have:=HR.o.new bm e;omega);have HQ:=Hd hq;have b2:(j:Int) < (m.length:Int):=by omega
    obtain⟨y1,y2⟩:=q
    simp only at QB1 QB2;clear hcell hb hc hq
    obtain⟨p,hp⟩:∃ p,l[i]?=some p:=⟨_,List.getElem?_eq_getElem hil⟩
    rcases HV.o with⟨_,_,_,h0⟩ |⟨bl,ol,cl,hh,hb,hc,hcell⟩
    ·rw[h0]at hil;cases hil
    cases hh
    obtain⟨qa1,qa2⟩:=hcell i p hp
    have QA1:=Hd (jaa qa1 HR.o.ext);have QA2:=Hd (jaa qa2 HR.o.ext);have HP:=Hd hp;have b1:(i:Int) < (l.length:Int):=by omega
    obtain⟨x1,x2⟩:=p
    simp only at QA1 QA2;clear hcell hb hc hp;have eA:((j:Int) ==(m.length:Int))=false:=by simp;omega
    have eN:((i:Int) ==(l.length:Int))=false:=by simp;omega
    cases hls:jbs x1 y1 with
    | true =>
     have HN:=Hd (show acc++[_]++jbD _ _=jbD l m from by rw[List.append_assoc,List.singleton_append, ←jr7 HP.o HQ.o hls];exact HEQ.o);unfold jbs at hls;clear HEQ;go_wp2_with fail
     refine jan [0,1,2,3,4,5,6,7,8,9,10,11,12,13,14,15,16,17,18,19,20,21,22,23] Ext ExtR ExtT (by kernel_rfl) (by kernel_rfl) (by kernel_rfl) ?_;iterate 14 (refine jag _ rfl (by kernel_rfl) rfl rfl (fun K hK=>?_);go_big_quiet_op;refine hK _ ?_;clear hK K)
     refine jal ⟨bl,ol+i * 2,none⟩ (.string x1) rfl (by kernel_rfl) rfl rfl (fun w3 h3=>jab Tryz.uStr rfl (jaa (by exact QA1.o) ((jak _).trans h3))) ?_;simp only[Act.put,sA,sB,sC];iterate 4 (refine jag _ rfl (by kernel_rfl) rfl rfl (fun K hK=>?_);go_big_quiet_op;refine hK _ ?_;clear hK K)
     refine jal ⟨bm,om+j * 2,none⟩ (.string y1) rfl (by kernel_rfl) rfl rfl (fun w3 h3=>jab Tryz.uStr rfl (jaa (by exact QB1.o) ((jak _).trans h3))) ?_;simp only[Act.put,sA,sB,sC];iterate 4 (refine jag _ rfl (by kernel_rfl) rfl rfl (fun K hK=>?_);go_big_quiet_op;refine hK _ ?_;clear hK K)
     refine jaW (by kernel_rfl) (fun w5 he=>?_);have HRX:=Hd (HR.o.mono ((jak _).trans he));have qx1:=jaa QA1.o ((jak _).trans he);clear he HR QA1 QA2 QB1 QB2;go_wp2_with (at_builtin;refine jbv Tryz.sChgs (HRX.o.mono ((ExtR _).alloc _)) (.tmp 79) (.tmp 86) rfl rfl rfl (ja9 (Blk.new _ _)) (news:=[.string x1,.string ⟨#[]⟩,.bool true]) (by intro u hu;simp at hu;rcases hu with rfl | rfl | rfl <;> rfl) rfl rfl ?c1 ?c2 (fun v' w' r1 r2 r3=>?_))
     case c1=>unfold maxLen;omega
     case c2=>omega
     have r1':CRow w w' v' (n+1) (acc++[⟨x1,⟨#[]⟩,true⟩]):=by unfold CRow;rw[jcT];exact r1
     obtain⟨a8,c8,rfl⟩:=r1'.sl
     have HR5:=Hd r1';clear r1 r2 r3 r1';go_wp2_with fail
     go_roundw
     case rel=>exact⟨i+1,j,n+1,_,by go_num,rfl,by omega,hj,by omega,HR5.o,HN.o⟩
     case measure=>simp[intOf];omega
    | false =>
     have HLS:=Hd hls;unfold jbs at hls;go_wp2_with fail
     refine jan [0,1,2,3,4,5,6,7,8,9,10,11,12,13,14,15,16,17,18,19,20,21,22,23] Ext ExtR ExtT (by kernel_rfl) (by kernel_rfl) (by kernel_rfl) ?_;iterate 14 (refine jag _ rfl (by kernel_rfl) rfl rfl (fun K hK=>?_);go_big_quiet_op;refine hK _ ?_;clear hK K)
     refine jal ⟨bl,ol+i * 2,none⟩ (.string x1) rfl (by kernel_rfl) rfl rfl (fun w3 h3=>jab Tryz.uStr rfl (jaa (by exact QA1.o) ((jak _).trans h3))) ?_;simp only[Act.put,sA,sB,sC];iterate 4 (refine jag _ rfl (by kernel_rfl) rfl rfl (fun K hK=>?_);go_big_quiet_op;refine hK _ ?_;clear hK K)
     refine jal ⟨bm,om+j * 2,none⟩ (.string y1) rfl (by kernel_rfl) rfl rfl (fun w3 h3=>jab Tryz.uStr rfl (jaa (by exact QB1.o) ((jak _).trans h3))) ?_;simp only[Act.put,sA,sB,sC];iterate 4 (refine jag _ rfl (by kernel_rfl) rfl rfl (fun K hK=>?_);go_big_quiet_op;refine hK _ ?_;clear hK K)
     refine jaW (by kernel_rfl) (fun w5 he=>?_);have HRY:=Hd (HR.o.mono ((jak _).trans he));have QA1':=Hd (jaa QA1.o ((jak _).trans he));have QA2':=Hd (jaa QA2.o ((jak _).trans he));have QB1':=Hd (jaa QB1.o ((jak _).trans he));have QB2':=Hd (jaa QB2.o ((jak _).trans he));clear he HR QA1 QA2 QB1 QB2 hls;cases hlt2:jbs y1 x1 with
     | true =>
      have HN:=Hd (show acc++[_]++jbD _ _=jbD l m from by rw[List.append_assoc,List.singleton_append, ←jut HP.o HQ.o HLS.o hlt2];exact HEQ.o);unfold jbs at hlt2;clear HEQ;go_wp2_with fail
      refine jan [0,1,2,3,4,5,6,7,8,9,10,11,12,13,14,15,16,17] Ext ExtR ExtT (by kernel_rfl) (by kernel_rfl) (by kernel_rfl) ?_;iterate 9 (refine jag _ rfl (by kernel_rfl) rfl rfl (fun K hK=>?_);go_big_quiet_op;refine hK _ ?_;clear hK K)
      refine jal ⟨bm,om+j * 2,none⟩ (.string y1) rfl (by kernel_rfl) rfl rfl (fun w3 h3=>jab Tryz.uStr rfl (jaa (by exact QB1'.o) ((jak _).trans h3))) ?_;simp only[Act.put,sA,sB,sC];iterate 4 (refine jag _ rfl (by kernel_rfl) rfl rfl (fun K hK=>?_);go_big_quiet_op;refine hK _ ?_;clear hK K)
      refine jal ⟨bl,ol+i * 2,none⟩ (.string x1) rfl (by kernel_rfl) rfl rfl (fun w3 h3=>jab Tryz.uStr rfl (jaa (by exact QA1'.o) ((jak _).trans h3))) ?_;simp only[Act.put,sA,sB,sC];iterate 3 (refine jag _ rfl (by kernel_rfl) rfl rfl (fun K hK=>?_);go_big_quiet_op;refine hK _ ?_;clear hK K)
      refine jaW (by kernel_rfl) (fun w5 he=>?_);have HRX:=Hd (HRY.o.mono ((jak _).trans he));have QD1:=Hd (jaa QB1'.o ((jak _).trans he));have QD2:=Hd (jaa QB2'.o ((jak _).trans he));clear he HRY QA1' QA2' QB1' QB2' hlt2;go_wp2_with fail
      refine ja1 [0,1,2,3,4,5,6,7,8,9,10,11,12,13,14] [12,13] Ext (jac (fun b=>(Value.slice a2 n c2).ownBlock=some b)) ExtR ExtT (fun x y z h k=>jac.trans h k) (fun x y h=>h.mono (fun _ _ h=>h.elim)) (by kernel_rfl) (by kernel_rfl) (by kernel_rfl) ?_;iterate 5 (refine jai _ rfl (by kernel_rfl) rfl rfl (fun K hK=>?_);go_big_quiet_op;refine hK _ ?_;clear hK K)
      refine jaX ⟨bm,om+j * 2,none⟩ (.string y1) rfl (by kernel_rfl) rfl rfl (fun w3 h3=>jab Tryz.uStr rfl (jat (by exact QD1.o) h3 NB.o)) ?_;simp only[Act.put,sA,sB,sC];iterate 4 (refine jai _ rfl (by kernel_rfl) rfl rfl (fun K hK=>?_);go_big_quiet_op;refine hK _ ?_;clear hK K)
      refine jaX ⟨bm,om+j * 2+1,none⟩ (.string y2) rfl (by kernel_rfl) rfl rfl (fun w3 h3=>jab Tryz.uStr rfl (jat (by exact QD2.o) h3 NB.o)) ?_;simp only[Act.put,sA,sB,sC]
      (refine jai _ rfl (by kernel_rfl) rfl rfl (fun K hK=>?_);go_big_quiet_op;refine hK _ ?_;clear hK K)
      refine jaY _ rfl (by kernel_rfl) rfl (fun w6 he K hK=>?_);have HR6:=Hd (HRX.o.mono ((jak _).trans he));clear he;go_simp;refine hK _ _ ((jac.refl _ w6).alloc _) ?_;clear hK K;refine jaY _ rfl (by kernel_rfl) rfl (fun w7 he K hK=>?_);have HR7:=Hd (HR6.o.mono (((ExtR w6).alloc _).trans he));have hB:∀ k u,([.string y1,.string y2,.bool false]:List Value)[k]?=some u→w7.cell? ((⟨w6.heap.size,0,none⟩:Addr).add k)=some u:=fun k u hk=>jaa (ja9 (Blk.new w6 (.cells [Value.string y1,.string y2,.bool false].toArray 66)) k u hk) he;refine jiR Tryz.sChgs HR7.o (.tmp 108) (.tmp 120) rfl rfl hB (by intro u hu;simp at hu;rcases hu with rfl | rfl | rfl <;> rfl) rfl rfl (by unfold maxLen;omega) (by omega) (fun v' w8 r1 r2 r3=>hK _ _ r2 ?_);have r1':CRow w w8 v' (n+1) (acc++[⟨y1,y2,false⟩]):=by unfold CRow;rw[jcT];exact r1
      have HR8:=Hd r1';clear hK K he r1 r2 r3 r1' hB HR6 HR7
      obtain⟨a4,c4,rfl⟩:=HR8.o.sl
      simp only[Act.put,sA,sB,sC]
      (refine jai _ rfl (by kernel_rfl) rfl rfl (fun K hK=>?_);go_big_quiet_op;refine hK _ ?_;clear hK K)
      refine jcd (by kernel_rfl) (fun w9 he=>?_);have HR9:=Hd (HR8.o.mono he);clear he HR8;go_wp2_with fail
      go_roundw
      case rel=>exact⟨i,j+1,n+1,_,rfl,by go_num,by omega,by omega,by omega,HR9.o,HN.o⟩
      case measure=>simp[intOf];omega
     | false =>
      have HLT:=Hd hlt2;unfold jbs at hlt2;go_wp2_with fail
      refine jan [0,1,2,3,4,5,6,7,8,9,10,11,12,13,14,15,16,17] Ext ExtR ExtT (by kernel_rfl) (by kernel_rfl) (by kernel_rfl) ?_;iterate 9 (refine jag _ rfl (by kernel_rfl) rfl rfl (fun K hK=>?_);go_big_quiet_op;refine hK _ ?_;clear hK K)
      refine jal ⟨bm,om+j * 2,none⟩ (.string y1) rfl (by kernel_rfl) rfl rfl (fun w3 h3=>jab Tryz.uStr rfl (jaa (by exact QB1'.o) ((jak _).trans h3))) ?_;simp only[Act.put,sA,sB,sC];iterate 4 (refine jag _ rfl (by kernel_rfl) rfl rfl (fun K hK=>?_);go_big_quiet_op;refine hK _ ?_;clear hK K)
      refine jal ⟨bl,ol+i * 2,none⟩ (.string x1) rfl (by kernel_rfl) rfl rfl (fun w3 h3=>jab Tryz.uStr rfl (jaa (by exact QA1'.o) ((jak _).trans h3))) ?_;simp only[Act.put,sA,sB,sC];iterate 3 (refine jag _ rfl (by kernel_rfl) rfl rfl (fun K hK=>?_);go_big_quiet_op;refine hK _ ?_;clear hK K)
      refine jaW (by kernel_rfl) (fun w5 he=>?_);have HRZ:=Hd (HRY.o.mono ((jak _).trans he));have QE2:=Hd (jaa QA2'.o ((jak _).trans he));have QF1:=Hd (jaa QB1'.o ((jak _).trans he));have QF2:=Hd (jaa QB2'.o ((jak _).trans he));clear he HRY QA1' QA2' QB1' QB2' hlt2;cases hvv:(x2.toList == y2.toList)with
      | true =>
       have HN:=Hd (show acc++jbD _ _=jbD l m from by rw[←juu HP.o HQ.o HLS.o HLT.o hvv];exact HEQ.o);clear HEQ;go_wp2_with fail
       refine jan [0,1,2,3,4,5,6,7,8,9,10] Ext ExtR ExtT (by kernel_rfl) (by kernel_rfl) (by kernel_rfl) ?_;iterate 4 (refine jag _ rfl (by kernel_rfl) rfl rfl (fun K hK=>?_);go_big_quiet_op;refine hK _ ?_;clear hK K)
       refine jal ⟨bl,ol+i * 2+1,none⟩ (.string x2) rfl (by kernel_rfl) rfl rfl (fun w3 h3=>jab Tryz.uStr rfl (jaa (by exact QE2.o) ((jak _).trans h3))) ?_;simp only[Act.put,sA,sB,sC];iterate 4 (refine jag _ rfl (by kernel_rfl) rfl rfl (fun K hK=>?_);go_big_quiet_op;refine hK _ ?_;clear hK K)
       refine jal ⟨bm,om+j * 2+1,none⟩ (.string y2) rfl (by kernel_rfl) rfl rfl (fun w3 h3=>jab Tryz.uStr rfl (jaa (by exact QF2.o) ((jak _).trans h3))) ?_;simp only[Act.put,sA,sB,sC]
       (refine jag _ rfl (by kernel_rfl) rfl rfl (fun K hK=>?_);go_big_quiet_op;refine hK _ ?_;clear hK K)
       refine jaW (by kernel_rfl) (fun w5 he=>?_);have HRX:=Hd (HRZ.o.mono ((jak _).trans he));clear he HRZ QE2 QF1 QF2;go_wp2_with fail
       go_roundw
       case rel=>exact⟨i+1,j+1,n,acc,by go_num,by go_num,by omega,by omega,by omega,HRX.o,HN.o⟩
       case measure=>simp[intOf];omega
      | false =>
       have HN:=Hd (show acc++[_]++jbD _ _=jbD l m from by rw[List.append_assoc,List.singleton_append, ←jr8 HP.o HQ.o HLS.o HLT.o hvv];exact HEQ.o);clear HEQ;go_wp2_with fail
       refine jan [0,1,2,3,4,5,6,7,8,9,10] Ext ExtR ExtT (by kernel_rfl) (by kernel_rfl) (by kernel_rfl) ?_;iterate 4 (refine jag _ rfl (by kernel_rfl) rfl rfl (fun K hK=>?_);go_big_quiet_op;refine hK _ ?_;clear hK K)
       refine jal ⟨bl,ol+i * 2+1,none⟩ (.string x2) rfl (by kernel_rfl) rfl rfl (fun w3 h3=>jab Tryz.uStr rfl (jaa (by exact QE2.o) ((jak _).trans h3))) ?_;simp only[Act.put,sA,sB,sC];iterate 4 (refine jag _ rfl (by kernel_rfl) rfl rfl (fun K hK=>?_);go_big_quiet_op;refine hK _ ?_;clear hK K)
       refine jal ⟨bm,om+j * 2+1,none⟩ (.string y2) rfl (by kernel_rfl) rfl rfl (fun w3 h3=>jab Tryz.uStr rfl (jaa (by exact QF2.o) ((jak _).trans h3))) ?_;simp only[Act.put,sA,sB,sC]
       (refine jag _ rfl (by kernel_rfl) rfl rfl (fun K hK=>?_);go_big_quiet_op;refine hK _ ?_;clear hK K)
       refine jaW (by kernel_rfl) (fun w5 he=>?_);have HRX:=Hd (HRZ.o.mono ((jak _).trans he));have QD1:=Hd (jaa QF1.o ((jak _).trans he));have QD2:=Hd (jaa QF2.o ((jak _).trans he));clear he HRZ QE2 QF1 QF2;go_wp2_with fail
       refine ja1 [0,1,2,3,4,5,6,7,8,9,10,11,12,13,14] [12,13] Ext (jac (fun b=>(Value.slice a2 n c2).ownBlock=some b)) ExtR ExtT (fun x y z h k=>jac.trans h k) (fun x y h=>h.mono (fun _ _ h=>h.elim)) (by kernel_rfl) (by kernel_rfl) (by kernel_rfl) ?_;iterate 5 (refine jai _ rfl (by kernel_rfl) rfl rfl (fun K hK=>?_);go_big_quiet_op;refine hK _ ?_;clear hK K)
       refine jaX ⟨bm,om+j * 2,none⟩ (.string y1) rfl (by kernel_rfl) rfl rfl (fun w3 h3=>jab Tryz.uStr rfl (jat (by exact QD1.o) h3 NB.o)) ?_;simp only[Act.put,sA,sB,sC];iterate 4 (refine jai _ rfl (by kernel_rfl) rfl rfl (fun K hK=>?_);go_big_quiet_op;refine hK _ ?_;clear hK K)
       refine jaX ⟨bm,om+j * 2+1,none⟩ (.string y2) rfl (by kernel_rfl) rfl rfl (fun w3 h3=>jab Tryz.uStr rfl (jat (by exact QD2.o) h3 NB.o)) ?_;simp only[Act.put,sA,sB,sC]
       (refine jai _ rfl (by kernel_rfl) rfl rfl (fun K hK=>?_);go_big_quiet_op;refine hK _ ?_;clear hK K)
       refine jaY _ rfl (by kernel_rfl) rfl (fun w6 he K hK=>?_);have HR6:=Hd (HRX.o.mono ((jak _).trans he));clear he;go_simp;refine hK _ _ ((jac.refl _ w6).alloc _) ?_;clear hK K;refine jaY _ rfl (by kernel_rfl) rfl (fun w7 he K hK=>?_);have HR7:=Hd (HR6.o.mono (((ExtR w6).alloc _).trans he));have hB:∀ k u,([.string y1,.string y2,.bool false]:List Value)[k]?=some u→w7.cell? ((⟨w6.heap.size,0,none⟩:Addr).add k)=some u:=fun k u hk=>jaa (ja9 (Blk.new w6 (.cells [Value.string y1,.string y2,.bool false].toArray 66)) k u hk) he;refine jiR Tryz.sChgs HR7.o (.tmp 37) (.tmp 49) rfl rfl hB (by intro u hu;simp at hu;rcases hu with rfl | rfl | rfl <;> rfl) rfl rfl (by unfold maxLen;omega) (by omega) (fun v' w8 r1 r2 r3=>hK _ _ r2 ?_);have r1':CRow w w8 v' (n+1) (acc++[⟨y1,y2,false⟩]):=by unfold CRow;rw[jcT];exact r1
       have HR8:=Hd r1';clear hK K he r1 r2 r3 r1' hB HR6 HR7
       obtain⟨a4,c4,rfl⟩:=HR8.o.sl
       simp only[Act.put,sA,sB,sC]
       (refine jai _ rfl (by kernel_rfl) rfl rfl (fun K hK=>?_);go_big_quiet_op;refine hK _ ?_;clear hK K)
       refine jcd (by kernel_rfl) (fun w9 he=>?_);have HR9:=Hd (HR8.o.mono he);clear he HR8;go_wp2_with fail
       go_roundw
       case rel=>exact⟨i+1,j+1,n+1,_,by go_num,by go_num,by omega,by omega,by omega,HR9.o,HN.o⟩
       case measure=>simp[intOf];omega
   ·obtain⟨q,hq⟩:∃ q,m[j]?=some q:=⟨_,List.getElem?_eq_getElem hjm⟩
    rcases HU.o with⟨_,_,_,h0⟩ |⟨bm,om,cm,hh,hb,hc,hcell⟩
    ·rw[h0]at hjm;cases hjm
    cases hh
    obtain⟨qb1,qb2⟩:=hcell j q hq
    have QB1:=Hd (jaa qb1 HR.o.ext);have QB2:=Hd (jaa qb2 HR.o.ext);have NB:=Hd (show ¬(Value.slice a2 n c2).ownBlock=some bm from fun e=>by have:=HR.o.new bm e;omega);have HQ:=Hd hq;have b2:(j:Int) < (m.length:Int):=by omega
    obtain⟨y1,y2⟩:=q
    simp only at QB1 QB2;clear hcell hb hc hq;have hie:i=l.length:=by omega
    have b1:¬(i:Int) < (l.length:Int):=by omega
    have eA:((j:Int) ==(m.length:Int))=false:=by simp;omega
    have eN:((i:Int) ==(l.length:Int))=true:=by simp;omega
    have HN:=Hd (show acc++[_]++jbD _ _=jbD l m from by rw[List.append_assoc,List.singleton_append, ←jus HQ.o hie];exact HEQ.o);clear hie HEQ;go_wp2_with fail
    refine jan [0,1,2,3,4,5,6,7,8,9,10,11,12,13,14,15,16,17,18,19,20,21,22,23] Ext ExtR ExtT (by kernel_rfl) (by kernel_rfl) (by kernel_rfl) ?_;iterate 10 (refine jag _ rfl (by kernel_rfl) rfl rfl (fun K hK=>?_);go_big_quiet_op;refine hK _ ?_;clear hK K)
    iterate 11 (refine jb0 _ rfl (by kernel_rfl) rfl ?_;simp only[Act.put,sA,sB,sC])
    iterate 3 (refine jag _ rfl (by kernel_rfl) rfl rfl (fun K hK=>?_);go_big_quiet_op;refine hK _ ?_;clear hK K)
    refine jaW (by kernel_rfl) (fun w5 he=>?_);have HRY:=Hd (HR.o.mono ((jak _).trans he));have QC1:=Hd (jaa QB1.o ((jak _).trans he));have QC2:=Hd (jaa QB2.o ((jak _).trans he));clear he HR QB1 QB2;go_wp2_with fail
    refine jan [0,1,2,3,4,5,6,7,8,9,10,11,12,13,14,15,16,17] Ext ExtR ExtT (by kernel_rfl) (by kernel_rfl) (by kernel_rfl) ?_;iterate 5 (refine jag _ rfl (by kernel_rfl) rfl rfl (fun K hK=>?_);go_big_quiet_op;refine hK _ ?_;clear hK K)
    iterate 11 (refine jb0 _ rfl (by kernel_rfl) rfl ?_;simp only[Act.put,sA,sB,sC])
    iterate 2 (refine jag _ rfl (by kernel_rfl) rfl rfl (fun K hK=>?_);go_big_quiet_op;refine hK _ ?_;clear hK K)
    refine jaW (by kernel_rfl) (fun w5 he=>?_);have HRX:=Hd (HRY.o.mono ((jak _).trans he));have QD1:=Hd (jaa QC1.o ((jak _).trans he));have QD2:=Hd (jaa QC2.o ((jak _).trans he));clear he HRY QC1 QC2;go_wp2_with fail
    refine ja1 [0,1,2,3,4,5,6,7,8,9,10,11,12,13,14] [12,13] Ext (jac (fun b=>(Value.slice a2 n c2).ownBlock=some b)) ExtR ExtT (fun x y z h k=>jac.trans h k) (fun x y h=>h.mono (fun _ _ h=>h.elim)) (by kernel_rfl) (by kernel_rfl) (by kernel_rfl) ?_;iterate 5 (refine jai _ rfl (by kernel_rfl) rfl rfl (fun K hK=>?_);go_big_quiet_op;refine hK _ ?_;clear hK K)
    refine jaX ⟨bm,om+j * 2,none⟩ (.string y1) rfl (by kernel_rfl) rfl rfl (fun w3 h3=>jab Tryz.uStr rfl (jat (by exact QD1.o) h3 NB.o)) ?_;simp only[Act.put,sA,sB,sC];iterate 4 (refine jai _ rfl (by kernel_rfl) rfl rfl (fun K hK=>?_);go_big_quiet_op;refine hK _ ?_;clear hK K)
    refine jaX ⟨bm,om+j * 2+1,none⟩ (.string y2) rfl (by kernel_rfl) rfl rfl (fun w3 h3=>jab Tryz.uStr rfl (jat (by exact QD2.o) h3 NB.o)) ?_;simp only[Act.put,sA,sB,sC]
    (refine jai _ rfl (by kernel_rfl) rfl rfl (fun K hK=>?_);go_big_quiet_op;refine hK _ ?_;clear hK K)
    refine jaY _ rfl (by kernel_rfl) rfl (fun w6 he K hK=>?_);have HR6:=Hd (HRX.o.mono ((jak _).trans he));clear he;go_simp;refine hK _ _ ((jac.refl _ w6).alloc _) ?_;clear hK K;refine jaY _ rfl (by kernel_rfl) rfl (fun w7 he K hK=>?_);have HR7:=Hd (HR6.o.mono (((ExtR w6).alloc _).trans he));have hB:∀ k u,([.string y1,.string y2,.bool false]:List Value)[k]?=some u→w7.cell? ((⟨w6.heap.size,0,none⟩:Addr).add k)=some u:=fun k u hk=>jaa (ja9 (Blk.new w6 (.cells [Value.string y1,.string y2,.bool false].toArray 66)) k u hk) he;refine jiR Tryz.sChgs HR7.o (.tmp 108) (.tmp 120) rfl rfl hB (by intro u hu;simp at hu;rcases hu with rfl | rfl | rfl <;> rfl) rfl rfl (by unfold maxLen;omega) (by omega) (fun v' w8 r1 r2 r3=>hK _ _ r2 ?_);have r1':CRow w w8 v' (n+1) (acc++[⟨y1,y2,false⟩]):=by unfold CRow;rw[jcT];exact r1
    have HR8:=Hd r1';clear hK K he r1 r2 r3 r1' hB HR6 HR7
    obtain⟨a4,c4,rfl⟩:=HR8.o.sl
    simp only[Act.put,sA,sB,sC]
    (refine jai _ rfl (by kernel_rfl) rfl rfl (fun K hK=>?_);go_big_quiet_op;refine hK _ ?_;clear hK K)
    refine jcd (by kernel_rfl) (fun w9 he=>?_);have HR9:=Hd (HR8.o.mono he);clear he HR8;go_wp2_with fail
    go_roundw
    case rel=>exact⟨i,j+1,n+1,_,rfl,by go_num,by omega,by omega,by omega,HR9.o,HN.o⟩
    case measure=>simp[intOf];omega
  ·have hje:j=m.length:=by omega
   by_cases hil:i < l.length
   ·obtain⟨p,hp⟩:∃ p,l[i]?=some p:=⟨_,List.getElem?_eq_getElem hil⟩
    rcases HV.o with⟨_,_,_,h0⟩ |⟨bl,ol,cl,hh,hb,hc,hcell⟩
    ·rw[h0]at hil;cases hil
    cases hh
    obtain⟨qa1,qa2⟩:=hcell i p hp
    have QA1:=Hd (jaa qa1 HR.o.ext);have QA2:=Hd (jaa qa2 HR.o.ext);have HP:=Hd hp;have b1:(i:Int) < (l.length:Int):=by omega
    obtain⟨x1,x2⟩:=p
    simp only at QA1 QA2;clear hcell hb hc hp;have b2:¬(j:Int) < (m.length:Int):=by omega
    have eA:((j:Int) ==(m.length:Int))=true:=by simp;omega
    have HN:=Hd (show acc++[_]++jbD _ _=jbD l m from by rw[List.append_assoc,List.singleton_append, ←jr6 HP.o hje];exact HEQ.o);clear hje HEQ;go_wp2_with fail
    refine jan [0,1,2,3,4,5,6,7,8,9,10,11,12,13,14,15,16,17,18,19,20,21,22,23] Ext ExtR ExtT (by kernel_rfl) (by kernel_rfl) (by kernel_rfl) ?_;iterate 5 (refine jag _ rfl (by kernel_rfl) rfl rfl (fun K hK=>?_);go_big_quiet_op;refine hK _ ?_;clear hK K)
    iterate 17 (refine jb0 _ rfl (by kernel_rfl) rfl ?_;simp only[Act.put,sA,sB,sC])
    iterate 2 (refine jag _ rfl (by kernel_rfl) rfl rfl (fun K hK=>?_);go_big_quiet_op;refine hK _ ?_;clear hK K)
    refine jaW (by kernel_rfl) (fun w5 he=>?_);have HRX:=Hd (HR.o.mono ((jak _).trans he));have qx1:=jaa QA1.o ((jak _).trans he);clear he HR QA1 QA2;go_wp2_with (at_builtin;refine jbv Tryz.sChgs (HRX.o.mono ((ExtR _).alloc _)) (.tmp 79) (.tmp 86) rfl rfl rfl (ja9 (Blk.new _ _)) (news:=[.string x1,.string ⟨#[]⟩,.bool true]) (by intro u hu;simp at hu;rcases hu with rfl | rfl | rfl <;> rfl) rfl rfl ?c1 ?c2 (fun v' w' r1 r2 r3=>?_))
    case c1=>unfold maxLen;omega
    case c2=>omega
    have r1':CRow w w' v' (n+1) (acc++[⟨x1,⟨#[]⟩,true⟩]):=by unfold CRow;rw[jcT];exact r1
    obtain⟨a8,c8,rfl⟩:=r1'.sl
    have HR5:=Hd r1';clear r1 r2 r3 r1';go_wp2_with fail
    go_roundw
    case rel=>exact⟨i+1,j,n+1,_,by go_num,rfl,by omega,hj,by omega,HR5.o,HN.o⟩
    case measure=>simp[intOf];omega
   ·have hie:i=l.length:=by omega
    have HF:=Hd (show acc=R by have h:=HEQ.o;rw[jwj hie hje,List.append_nil, ←HRR.o]at h;exact h);have b1:¬(i:Int) < (l.length:Int):=by omega
    have b2:¬(j:Int) < (m.length:Int):=by omega
    have hnl:n=R.length:=by
     have:=HR.o.len
     rw[HF.o]at this;rw[jij]at this;omega
    have HNL:=Hd hnl;clear hie hje hnl HEQ HRR;go_wp2_with fail
    go_ret
    exact⟨_,rfl,by rw[←HNL.o, ←HF.o];exact HR.o⟩
abbrev Chg.k(c:Chg):List UInt8:=c.key.data.toList
def Chg.o(c:Chg):Option ByteArray:=if c.gone then none else some c.value
theorem jgJ{k:List UInt8}:∀ {cs:List Chg},(∀ c∈cs,c.k≠k)→∀ o,cs.foldl (jkw k) o=o
 | [],_,_=>rfl
 | c :: r,h,o=>by
  have e:jkw k o c=o:=by unfold jkw;rw[if_neg (fun e=>h c List.mem_cons_self e.symm)]
  rw[List.foldl_cons,e,jgJ fun x hx=>h x (List.mem_cons_of_mem _ hx)]
theorem jky{c:Chg}:∀ {cs:List Chg},c∈cs→(cs.map Chg.k).Nodup→∀ o,cs.foldl (jkw c.k) o=c.o
 | [],h,_,_=>by cases h
 | d :: r,h,hn,o=>by
  rw[List.map_cons,List.nodup_cons]at hn;rw[List.foldl_cons];rcases List.mem_cons.1 h with rfl | h
  ·rw[jgJ fun x hx e=>hn.1 (by rw[←e];exact List.mem_map_of_mem hx)]
   unfold jkw Chg.o;rw[if_pos rfl]
  ·exact jky h hn.2 _
structure jjL(l m:List Pair)(cs:List Chg):Prop where
 keys:(cs.map Chg.k).Nodup
 done:∀ c∈cs,look m c.k=c.o
 rest:∀ k,(∀ c∈cs,c.k≠k)→look l k=look m k
 fine:cs.any Chg.bad=false
theorem jjL.looks{l m:List Pair}{cs:List Chg}(h:jjL l m cs)(k:List UInt8):cs.foldl (jkw k) (look l k)=look m k:=by
 by_cases hk:∃ c∈cs,c.k=k
 ·obtain⟨c,hc,rfl⟩:=hk
  rw[jky hc h.keys,h.done c hc]
 ·have hn:∀ c∈cs,c.k≠k:=fun c hc e=>hk ⟨c,hc,e⟩
  rw[jgJ hn,h.rest k hn]
def okL(l:List Pair):Prop:=(∀ p∈l,okP p)∧jrz l
theorem okL.tail{p:Pair}{l:List Pair}(h:okL (p :: l)):okL l:=⟨fun q hq=>h.1 q (List.mem_cons_of_mem _ hq),(List.pairwise_cons.1 h.2).2⟩
theorem okL.head{p:Pair}{l:List Pair}(h:okL (p :: l)):okP p:=h.1 p List.mem_cons_self
theorem okL.lt{p:Pair}{l:List Pair}(h:okL (p :: l)):∀ q∈l,Lt p.k q.k:=(List.pairwise_cons.1 h.2).1
theorem jnR(l m:List Pair):∀ c∈jbD l m,c.k∈l.map Pair.k∨c.k∈m.map Pair.k:=by
 fun_induction jbD l m with
 | case1=>intro c hc;cases hc
 | case2 p l ih =>
  intro c hc;rcases List.mem_cons.1 hc with rfl | hc
  ·exact .inl (by simp[Chg.k,Pair.k])
  ·rcases ih c hc with h | h
   ·exact .inl (List.mem_cons_of_mem _ h)
   ·exact .inr h
 | case3 q m ih =>
  intro c hc;rcases List.mem_cons.1 hc with rfl | hc
  ·exact .inr (by simp[Chg.k,Pair.k])
  ·rcases ih c hc with h | h
   ·exact .inl h
   ·exact .inr (List.mem_cons_of_mem _ h)
 | case4 p l q m h ih =>
  intro c hc;rcases List.mem_cons.1 hc with rfl | hc
  ·exact .inl (by simp[Chg.k,Pair.k])
  ·rcases ih c hc with h | h
   ·exact .inl (List.mem_cons_of_mem _ h)
   ·exact .inr h
 | case5 p l q m h h2 ih =>
  intro c hc;rcases List.mem_cons.1 hc with rfl | hc
  ·exact .inr (by simp[Chg.k,Pair.k])
  ·rcases ih c hc with h | h
   ·exact .inl h
   ·exact .inr (List.mem_cons_of_mem _ h)
 | case6 p l q m h h2 h3 ih =>
  intro c hc;rcases ih c hc with h | h
  ·exact .inl (List.mem_cons_of_mem _ h)
  ·exact .inr (List.mem_cons_of_mem _ h)
 | case7 p l q m h h2 h3 ih =>
  intro c hc;rcases List.mem_cons.1 hc with rfl | hc
  ·exact .inr (by simp[Chg.k,Pair.k])
  ·rcases ih c hc with h | h
   ·exact .inl (List.mem_cons_of_mem _ h)
   ·exact .inr (List.mem_cons_of_mem _ h)
theorem joc{k:List UInt8}{m:List Pair}(h:∀ q∈m,Lt k q.k):look m k=none:=jkD fun hm=>by
 obtain⟨q,hq,e⟩:=List.mem_map.1 hm
 exact lt_irrefl _ (e ▸ h q hq)
theorem jgI{k:List UInt8}{l m:List Pair}(h1:∀ q∈l,Lt k q.k)(h2:∀ q∈m,Lt k q.k):∀ c∈jbD l m,Lt k c.k:=fun c hc=>by
 rcases jnR l m c hc with h | h
 ·obtain⟨q,hq,e⟩:=List.mem_map.1 h;rw[←e];exact h1 q hq
 ·obtain⟨q,hq,e⟩:=List.mem_map.1 h;rw[←e];exact h2 q hq
theorem jjL.cons{l m l' m':List Pair}{c:Chg}{cs:List Chg}(h:jjL l m cs)(hk:∀ d∈cs,Lt c.k d.k)(hc:look m' c.k=c.o)(hb:c.bad=false)
  (hl:∀ k,k≠c.k→look l' k=look l k) (hm:∀ k,k≠c.k→look m' k=look m k):jjL l' m' (c :: cs):=by
 refine⟨?_,?_,?_,?_⟩
 ·rw[List.map_cons,List.nodup_cons]
  refine⟨fun hh=>?_,h.keys⟩
  obtain⟨d,hd,e⟩:=List.mem_map.1 hh
  exact lt_irrefl _ (e ▸ hk d hd)
 ·intro d hd
  rcases List.mem_cons.1 hd with rfl | hd
  ·exact hc
  ·rw[hm _ (fun e=>lt_irrefl _ (e ▸ hk d hd)),h.done d hd]
 ·intro k hh
  have h1:k≠c.k:=fun e=>hh c List.mem_cons_self e.symm;rw[hl k h1,hm k h1,h.rest k fun d hd=>hh d (List.mem_cons_of_mem _ hd)]
 ·rw[List.any_cons,hb,h.fine];rfl
theorem jpW{p:Pair}(h:okP p):Chg.bad ⟨p.1,⟨#[]⟩,true⟩=false:=by
 unfold Chg.bad;rw[h.1];rfl
theorem jqS{p:Pair}(h:okP p):Chg.bad ⟨p.1,p.2,false⟩=false:=by
 unfold Chg.bad;rw[h.1,h.2];rfl
theorem jeV(q:Pair)(m:List Pair):look (q :: m) q.k=some q.2:=by rw[jd9,if_pos rfl]
theorem jcW{q:Pair}{m:List Pair}{k:List UInt8}(h:k≠q.k):look (q :: m) k=look m k:=by rw[jd9,if_neg h]
theorem jxD:∀ (l m:List Pair),okL l→okL m→jjL l m (jbD l m):=by
 intro l m
 fun_induction jbD l m with
 | case1=>exact fun _ _=>⟨by simp,by simp,fun _ _=>rfl,rfl⟩
 | case2 p l ih =>
  intro h1 h2;refine (ih h1.tail h2).cons (jgI h1.lt (by simp)) rfl (jpW h1.head) (fun k hk=>jcW hk) (fun _ _=>rfl)
 | case3 q m ih =>
  intro h1 h2;exact (ih h1 h2.tail).cons (jgI (by simp) h2.lt) (jeV q m) (jqS h2.head) (fun _ _=>rfl) (fun k hk=>jcW hk)
 | case4 p l q m h ih =>
  intro h1 h2;have hl:=(jbE _ _).1 h;have hq:∀ x∈q :: m,Lt p.k x.k:=fun x hx=>by
   rcases List.mem_cons.1 hx with rfl | hx
   ·exact hl
   ·exact jdl _ _ _ hl (h2.lt x hx)
  refine (ih h1.tail h2).cons (jgI h1.lt hq) (joc hq) (jpW h1.head) (fun k hk=>jcW hk) (fun _ _=>rfl)
 | case5 p l q m h h' ih =>
  intro h1 h2;have hl:=(jbE _ _).1 h';have hp:∀ x∈p :: l,Lt q.k x.k:=fun x hx=>by
   rcases List.mem_cons.1 hx with rfl | hx
   ·exact hl
   ·exact jdl _ _ _ hl (h1.lt x hx)
  exact (ih h1 h2.tail).cons (jgI hp h2.lt) (jeV q m) (jqS h2.head) (fun _ _=>rfl) (fun k hk=>jcW hk)
 | case6 p l q m h h' h3 ih =>
  intro h1 h2;have hk:p.k=q.k:=by
   rcases jmW p.k q.k with e | e | e
   ·exact absurd ((jbE _ _).2 e) h
   ·exact e
   ·exact absurd ((jbE _ _).2 e) h'
  have hv:p.2=q.2:=by
   rw[ByteArray.toList_eq,ByteArray.toList_eq]at h3
   obtain⟨⟨⟨a⟩⟩,⟨⟨b⟩⟩⟩:=p
   obtain⟨⟨⟨c⟩⟩,⟨⟨d⟩⟩⟩:=q
   simp at h3;simp[h3]
  have:=jm2 hk hv
  subst this;have hi:=ih h1.tail h2.tail;have hlt:=jgI h1.lt h2.lt
  refine⟨hi.keys,fun c hc=>?_,fun k hh=>?_,hi.fine⟩
  ·rw[jcW (fun e=>lt_irrefl _ (e ▸ hlt c hc)),hi.done c hc]
  ·by_cases e:k=p.k
   ·rw[e,jeV,jeV]
   ·rw[jcW e,jcW e,hi.rest k hh]
 | case7 p l q m h h' h3 ih =>
  intro h1 h2;have hk:p.k=q.k:=by
   rcases jmW p.k q.k with e | e | e
   ·exact absurd ((jbE _ _).2 e) h
   ·exact e
   ·exact absurd ((jbE _ _).2 e) h'
  have hlt:=jgI (fun x hx=>hk ▸ h1.lt x hx) h2.lt;exact (ih h1.tail h2.tail).cons hlt (jeV q m) (jqS h2.head) (fun k e=>jcW (by rw[hk];exact e)) (fun k e=>jcW e)
theorem jj5{l:List Pair}(h:jaS l=0):okL l:=⟨jqq h,(jaM h).rise⟩
theorem jnT{l m:List Pair}(h1:jaS l=0)(h2:jaS m=0):jjL l m (jgA l m):=by
 unfold jgA;rw[if_pos ⟨h1,h2⟩];exact jxD l m (jj5 h1) (jj5 h2)
end
end Go.Proofs.YtpaacnhboilkkaaGreatDoor
