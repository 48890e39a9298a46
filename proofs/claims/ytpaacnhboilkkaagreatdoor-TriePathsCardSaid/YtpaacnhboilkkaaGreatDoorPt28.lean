/- Parts of the proof, one behind the other: MapA, CanonY, MapB, StoreA, StoreB, StoreC, StoreD. Each is under no condition but those that it states. -/
import Derived.Test.YtpaacnhboilkkaaGreatDoorPt27
import Derived.Test.YtpaacnhboilkkaaGreatDoorPt19
import Derived.Test.YtpaacnhboilkkaaGreatDoorPt21
import Derived.Test.YtpaacnhboilkkaaGreatDoorPt25
namespace Go.Proofs.YtpaacnhboilkkaaGreatDoor
set_option linter.unusedSimpArgs false
set_option linter.unusedVariables false
set_option maxRecDepth 100000
set_option maxHeartbeats 16000000
section
open Go Go.RowKit
theorem valM_look(m:List Pair)(k:List UInt8):valM m k=(look m k).getD ⟨#[]⟩:=rfl
theorem look_some{k:List UInt8}:∀ {m:List Pair},k∈m.map Pair.k→∃ v,look m k=some v
 | [],h=>by cases h
 | q :: r,h=>by
  rw[look_cons]
  by_cases e:k=q.k
  ·exact⟨_,if_pos e⟩
  ·rw[if_neg e]
   rcases List.mem_cons.1 h with h | h
   ·exact absurd h e
   ·exact look_some h
theorem look_mem{k:List UInt8}{v:ByteArray}:∀ {m:List Pair},look m k=some v→∃ p∈m,p.k=k∧p.2=v
 | [],h=>by cases h
 | q :: r,h=>by
  rw[look_cons]at h
  by_cases e:k=q.k
  ·rw[if_pos e]at h
   exact⟨q,List.mem_cons_self,e.symm,Option.some.inj h⟩
  ·rw[if_neg e]at h
   obtain⟨p,hp,h1⟩:=look_mem h
   exact⟨p,List.mem_cons_of_mem _ hp,h1⟩
theorem del_keys(k:ByteArray):∀ m:List Pair,(delM m k).map Pair.k=(m.map Pair.k).erase k.data.toList
 | []=>rfl
 | q :: r=>by
  rw[delM,List.map_cons,List.erase_cons]
  by_cases h:k.data.toList=q.k
  ·rw[if_pos h,if_pos (by simp[h])]
  ·rw[if_neg h,if_neg (by intro e;exact h (by simpa using (eq_of_beq e).symm)),List.map_cons,del_keys k r]
theorem put_keysM(p:Pair):∀ m:List Pair,(putM m p).map Pair.k=if p.k∈m.map Pair.k then m.map Pair.k else m.map Pair.k++[p.k]
 | []=>rfl
 | q :: r=>by
  rw[putM]
  by_cases h:p.k=q.k
  ·rw[if_pos h,if_pos (by simp[h])];simp[h]
  ·rw[if_neg h,List.map_cons,put_keysM p r]
   by_cases h2:p.k∈r.map Pair.k
   ·rw[if_pos h2,if_pos (by rw[List.map_cons];exact List.mem_cons_of_mem _ h2)];rfl
   ·rw[if_neg h2,if_neg (by rw[List.map_cons,List.mem_cons];exact fun e=>e.elim h h2)];rfl
theorem put_nodup(p:Pair){m:List Pair}(h:(m.map Pair.k).Nodup):((putM m p).map Pair.k).Nodup:=by
 rw[put_keysM]
 split
 ·exact h
 ·rename_i hn
  rw[List.nodup_append]
  exact⟨h,by simp,fun a ha b hb e=>by simp at hb;subst hb;subst e;exact hn ha⟩
theorem del_nodup(k:ByteArray){m:List Pair}(h:(m.map Pair.k).Nodup):((delM m k).map Pair.k).Nodup:=by
 rw[del_keys];exact h.erase _
theorem do_nodup(c:Chg){m:List Pair}(h:(m.map Pair.k).Nodup):((doM m c).map Pair.k).Nodup:=by
 unfold doM;split
 ·exact del_nodup _ h
 ·exact put_nodup _ h
theorem dos_nodup:∀ (cs:List Chg) {m:List Pair},(m.map Pair.k).Nodup→((cs.foldl doM m).map Pair.k).Nodup
 | [],_,h=>h
 | c :: r,_,h=>dos_nodup r (do_nodup c h)
theorem puts_nodup:∀ (l:List Pair) {m:List Pair},(m.map Pair.k).Nodup→((l.foldl putM m).map Pair.k).Nodup
 | [],_,h=>h
 | c :: r,_,h=>puts_nodup r (put_nodup c h)
theorem apply_nodup(l:List Pair)(cs:List Chg):((applyM l cs).map Pair.k).Nodup:=dos_nodup cs (puts_nodup l (by simp))
def lastC(k:List UInt8)(o:Option ByteArray)(c:Chg):Option ByteArray:=if k=c.key.data.toList then (if c.gone then none else some c.value)else o
theorem lt_list:∀ (a b:List UInt8),Lt a b↔a < b
 | a,[]=>⟨fun h=>absurd h (not_lt_nil _),fun h=>absurd h (List.not_lt_nil _)⟩
 | [],b :: y=>⟨fun _=>List.nil_lt_cons _ _,fun _=>nil_lt⟩
 | a :: x,b :: y=>by rw[lt_cons,List.cons_lt_cons_iff,lt_list x y]
theorem Rises.nodup{l:List Pair}(h:Rises l):(l.map Pair.k).Nodup:=by
 unfold List.Nodup
 rw[List.pairwise_map]
 refine h.imp fun {p q} h=>?_
 intro e
 rw[e]at h
 exact lt_irrefl _ h
theorem sortS_memA(ks:List (List UInt8))(k:List UInt8):k∈sortS ks↔k∈ks:=(List.mergeSort_perm _ _).mem_iff
theorem sortS_rises{ks:List (List UInt8)}(h:ks.Nodup):(sortS ks).Pairwise Lt:=by
 have tr:∀ a b c:List UInt8,decide (a≤b)=true→decide (b≤c)=true→decide (a≤c)=true:=fun a b c h1 h2=>by simp only[decide_eq_true_eq]at *;exact List.le_trans h1 h2
 have to:∀ a b:List UInt8,(decide (a≤b) || decide (b≤a))=true:=fun a b=>by simp only[Bool.or_eq_true,decide_eq_true_eq];exact List.le_total a b
 have h1:(sortS ks).Pairwise (fun x y=>decide (x≤y)=true):=List.pairwise_mergeSort tr to ks
 have h2:(sortS ks).Nodup:=(List.mergeSort_perm _ _).nodup_iff.2 h
 refine (h1.and h2).imp fun {a b} h=>?_
 have h3:a≤b:=by simpa using h.1
 rcases lt_tri a b with e | e | e
 ·exact e
 ·exact absurd e h.2
 ·exact absurd ((lt_list _ _).1 e) (List.not_lt.2 h3)
theorem sortM_keys(m:List Pair):(sortM m).map Pair.k=sortS (m.map Pair.k):=by
 unfold sortM
 rw[List.map_map]
 conv=>rhs;rw[←List.map_id (sortS (m.map Pair.k))]
 exact List.map_congr_left fun k _=>rfl
theorem sortM_len(m:List Pair):(sortM m).length=m.length:=by
 unfold sortM;rw[List.length_map,sortS_len,List.length_map]
theorem sortM_rises{m:List Pair}(h:(m.map Pair.k).Nodup):Rises (sortM m):=by
 have h1:=sortS_rises h
 rw[←sortM_keys,List.pairwise_map]at h1
 exact h1
theorem look_keys(f:List UInt8→ByteArray)(k:List UInt8):∀ ks:List (List UInt8),look (ks.map fun x=>((⟨x.toArray⟩,f x):Pair)) k=if k∈ks then some (f k)else none
 | []=>rfl
 | x :: r=>by
  rw[List.map_cons,look_cons,look_keys f k r]
  have e:Pair.k ((⟨x.toArray⟩,f x):Pair)=x:=rfl
  rw[e]
  by_cases h:k=x
  ·rw[if_pos h,if_pos (by simp[h])];simp[h]
  ·rw[if_neg h]
   by_cases h2:k∈r
   ·rw[if_pos h2,if_pos (List.mem_cons_of_mem _ h2)]
   ·rw[if_neg h2,if_neg (by rw[List.mem_cons];exact fun e=>e.elim h h2)]
theorem look_sort(m:List Pair)(k:List UInt8):look (sortM m) k=look m k:=by
 unfold sortM
 rw[look_keys]
 by_cases h:k∈m.map Pair.k
 ·rw[if_pos ((sortS_memA _ _).2 h)]
  obtain⟨v,hv⟩:=look_some h
  rw[valM_look,hv];rfl
 ·rw[if_neg (fun e=>h ((sortS_memA _ _).1 e)),look_none h]
def okP(p:Pair):Prop:=keyedB p.1=true∧valuedB p.2=true
theorem put_mem{p x:Pair}:∀ {m:List Pair},x∈putM m p→x=p∨x∈m
 | [],h=>.inl (by simpa [putM]using h)
 | q :: r,h=>by
  rw[putM]at h
  split at h
  ·rcases List.mem_cons.1 h with h | h
   ·exact .inl h
   ·exact .inr (List.mem_cons_of_mem _ h)
  ·rcases List.mem_cons.1 h with h | h
   ·exact .inr (h ▸ List.mem_cons_self)
   ·exact (put_mem h).imp id (List.mem_cons_of_mem _)
theorem delM_sub(k:ByteArray):∀ m:List Pair,(delM m k).Sublist m
 | []=>List.Sublist.refl _
 | x :: r=>by
  unfold delM
  split
  ·exact List.sublist_cons_self _ _
  ·exact (delM_sub k r).cons_cons _
theorem puts_ok:∀ (l:List Pair) {m:List Pair},(∀ p∈l,okP p)→(∀ p∈m,okP p)→∀ p∈l.foldl putM m,okP p
 | [],_,_,h=>h
 | q :: r,m,h1,h2=>puts_ok r (fun p hp=>h1 p (List.mem_cons_of_mem _ hp)) fun p hp=>(put_mem hp).elim (fun e=>e ▸ h1 q List.mem_cons_self) (h2 p)
theorem dos_ok:∀ (cs:List Chg) {m:List Pair},cs.any Chg.bad=false→(∀ p∈m,okP p)→∀ p∈cs.foldl doM m,okP p
 | [],_,_,h=>h
 | c :: r,m,h1,h2=>by
  rw[List.any_cons,Bool.or_eq_false_iff]at h1
  refine dos_ok r h1.2 fun p hp=>?_
  unfold doM at hp
  have hb:=h1.1
  unfold Chg.bad at hb
  cases hg:c.gone with
  | true=>rw[if_pos hg]at hp;exact h2 p ((delM_sub _ _).subset hp)
  | false =>
   rw[if_neg (by rw[hg];simp)]at hp
   rcases put_mem hp with rfl | hp
   ·simp[hg]at hb;exact hb
   ·exact h2 p hp
theorem map_okP{l:List Pair}(h:checkN l=0):∀ p∈l,okP p:=fun p hp=>by
 obtain⟨h1,h2,h3,h4⟩:=(check_ok h).size p hp
 exact⟨decide_eq_true ⟨h1,h2⟩,decide_eq_true ⟨h3,h4⟩⟩
theorem apply_okP{l:List Pair}{cs:List Chg}(h:checkN l=0)(hc:cs.any Chg.bad=false):∀ p∈applyM l cs,okP p:=
 dos_ok cs hc (puts_ok l (map_okP h) (by simp))
theorem ok_check{l:List Pair}(h1:∀ p∈l,okP p)(h2:Rises l)(h3:l.length≤40):checkN l=0:=by
 unfold checkN
 rw[if_neg,if_neg (by omega)]
 intro h
 obtain⟨i,hi,hb⟩:=List.any_eq_true.1 h
 have hi:=List.mem_range.1 hi
 have g:∀ j (hj:j < l.length),l.getD j (⟨#[]⟩,⟨#[]⟩)=l[j]:=fun j hj=>by rw[List.getD_eq_getElem?_getD,List.getElem?_eq_getElem hj];rfl
 unfold badN at hb
 rw[g i hi,(h1 _ (List.getElem_mem hi)).1,(h1 _ (List.getElem_mem hi)).2]at hb
 simp only[Bool.not_true,Bool.or_self,Bool.false_or,Bool.and_eq_true,decide_eq_true_eq,Bool.not_eq_true']at hb
 rw[g (i - 1) (by omega)]at hb
 have:=List.pairwise_iff_getElem.1 h2 (i - 1) i (by omega) hi (by omega)
 have h4:=hb.2
 unfold lessB at h4
 rw[ByteArray.toList_eq,ByteArray.toList_eq]at h4
 have h5:Op.bytesLess (l[i - 1]).1.data.toList (l[i]).1.data.toList=true:=this
 rw[h5]at h4;cases h4
theorem apply_parts{l:List Pair}{cs:List Chg}(h:applyE l cs=0):checkN l=0∧cs.any Chg.bad=false∧(applyM l cs).length≤40:=by
 unfold applyE at h
 split at h
 ·rename_i h1;exact absurd h h1
 rename_i h1
 split at h
 ·cases h
 rename_i h2
 split at h
 ·cases h
 rename_i h3
 exact⟨by simpa using h1,by simpa using h2,by omega⟩
theorem after_okP{m:List Pair}(h:∀ p∈m,okP p):∀ p∈sortM m,okP p:=fun p hp=>by
 obtain⟨k,hk,rfl⟩:=List.mem_map.1 hp
 obtain⟨v,hv⟩:=look_some ((sortS_memA _ _).1 hk)
 obtain⟨q,hq,e1,e2⟩:=look_mem hv
 have:=h q hq
 rw[valM_look,hv]
 have e:((⟨k.toArray⟩,(some v).getD ⟨#[]⟩):Pair)=q:=pair_ext e1.symm e2.symm
 rw[e];exact this
theorem after_check{l:List Pair}{cs:List Chg}(h:applyE l cs=0):checkN (sortM (applyM l cs))=0:=by
 obtain⟨h1,h2,h3⟩:=apply_parts h
 exact ok_check (after_okP (apply_okP h1 h2)) (sortM_rises (apply_nodup l cs)) (by rw[sortM_len];exact h3)
def cellsC(xs:List Chg):List Value:=xs.flatMap fun c=>[.string c.key,.string c.value,.bool c.gone]
theorem cellsC_append(xs:List Chg)(c:Chg):cellsC (xs++[c])=cellsC xs++[.string c.key,.string c.value,.bool c.gone]:=by simp[cellsC]
theorem cellsC_len(xs:List Chg):(cellsC xs).length=xs.length * 3:=by
 induction xs with
 | nil=>rfl
 | cons x r ih=>unfold cellsC at *;rw[List.flatMap_cons,List.length_append,ih];simp;omega
theorem Tryz.infoChg:(Tryz.prog.info? 66).map (fun i=>(i.zero,i.size,i.bytes))=some (some (.agg #[.string ⟨#[]⟩,.string ⟨#[]⟩,.bool false]),3,40):=by kernel_rfl
theorem Tryz.uChgs:Tryz.prog.underlying 41=some (.slice 66):=by kernel_rfl
theorem Tryz.sChgs:SInfo Tryz.prog 41 66 3 40:=SInfo.mk' Tryz.uChgs Tryz.infoChg rfl (by decide)
abbrev CRow(w0 w:World)(v:Value)(n:Nat)(xs:List Chg):Prop:=ORow 66 3 w0 w v n (cellsC xs)
def diffL:List Pair→List Pair→List Chg
 | [],[]=>[]
 | p :: l,[]=>⟨p.1,⟨#[]⟩,true⟩ :: diffL l []
 | [],q :: m=>⟨q.1,q.2,false⟩ :: diffL [] m
 | p :: l,q :: m =>
  if lessB p.1 q.1=true then ⟨p.1,⟨#[]⟩,true⟩ :: diffL l (q :: m)
  else if lessB q.1 p.1=true then ⟨q.1,q.2,false⟩ :: diffL (p :: l) m
  else if (p.2.toList == q.2.toList)=true then diffL l m else ⟨q.1,q.2,false⟩ :: diffL l m
termination_by l m=>l.length+m.length
def diffN(l m:List Pair):List Chg:=if checkN l=0∧checkN m=0 then diffL l m else []
theorem ldrop_at{α:Type}{l:List α}{i:Nat}{x:α}(h:l[i]?=some x):l.drop i=x :: l.drop (i+1):=by
 obtain⟨hlt,e⟩:=List.getElem?_eq_some_iff.1 h
 rw[←e];exact List.drop_eq_getElem_cons hlt
structure DfR(w:World)(l m:List Pair)(c:Value)(i j:Nat)(wr:World)(n:Nat)(acc:List Chg):Prop where
 hi:i≤l.length
 hj:j≤m.length
 hn:n≤i+j
 row:CRow w wr c n acc
 eq:acc++diffL (l.drop i) (m.drop j)=diffL l m
def DfRel(w:World)(l m:List Pair)(c vi vj:Value)(wr:World):Prop:=∃ i j n acc,vi=.int .i64 (i:Nat)∧vj=.int .i64 (j:Nat)∧DfR w l m c i j wr n acc
theorem df_end{l m:List Pair}{i j:Nat}(hi:i=l.length)(hj:j=m.length):diffL (l.drop i) (m.drop j)=[]:=by
 subst hi;subst hj;rw[List.drop_length,List.drop_length];simp[diffL]
theorem df_gone1{l m:List Pair}{i j:Nat}{p:Pair}(hp:l[i]?=some p)(hj:j=m.length):diffL (l.drop i) (m.drop j)=⟨p.1,⟨#[]⟩,true⟩ :: diffL (l.drop (i+1)) (m.drop j):=by
 subst hj;rw[List.drop_length,ldrop_at hp];simp[diffL]
theorem df_put1{l m:List Pair}{i j:Nat}{q:Pair}(hq:m[j]?=some q)(hi:i=l.length):diffL (l.drop i) (m.drop j)=⟨q.1,q.2,false⟩ :: diffL (l.drop i) (m.drop (j+1)):=by
 subst hi;rw[List.drop_length,ldrop_at hq];simp[diffL]
theorem df_gone2{l m:List Pair}{i j:Nat}{p q:Pair}(hp:l[i]?=some p)(hq:m[j]?=some q)(h:lessB p.1 q.1=true):diffL (l.drop i) (m.drop j)=⟨p.1,⟨#[]⟩,true⟩ :: diffL (l.drop (i+1)) (m.drop j):=by
 rw[ldrop_at hp,ldrop_at hq,diffL,if_pos h]
theorem df_put2{l m:List Pair}{i j:Nat}{p q:Pair}(hp:l[i]?=some p)(hq:m[j]?=some q)(h:lessB p.1 q.1=false)(h2:lessB q.1 p.1=true):diffL (l.drop i) (m.drop j)=⟨q.1,q.2,false⟩ :: diffL (l.drop i) (m.drop (j+1)):=by
 rw[ldrop_at hp,ldrop_at hq,diffL,if_neg (by rw[h];simp),if_pos h2]
theorem df_same{l m:List Pair}{i j:Nat}{p q:Pair}(hp:l[i]?=some p)(hq:m[j]?=some q)(h:lessB p.1 q.1=false)(h2:lessB q.1 p.1=false)(h3:(p.2.toList == q.2.toList)=true):diffL (l.drop i) (m.drop j)=diffL (l.drop (i+1)) (m.drop (j+1)):=by
 rw[ldrop_at hp,ldrop_at hq,diffL,if_neg (by rw[h];simp),if_neg (by rw[h2];simp),if_pos h3]
theorem df_other{l m:List Pair}{i j:Nat}{p q:Pair}(hp:l[i]?=some p)(hq:m[j]?=some q)(h:lessB p.1 q.1=false)(h2:lessB q.1 p.1=false)(h3:(p.2.toList == q.2.toList)=false):diffL (l.drop i) (m.drop j)=⟨q.1,q.2,false⟩ :: diffL (l.drop (i+1)) (m.drop (j+1)):=by
 rw[ldrop_at hp,ldrop_at hq,diffL,if_neg (by rw[h];simp),if_neg (by rw[h2];simp),if_neg (by rw[h3];simp)]
theorem diff_c(w:World)(v u:Value)(l m:List Pair)(hv:RdP w v l)(hu:RdP w u m)(hn1:l.length≤9223372036854775807)(hn2:m.length≤9223372036854775807)(hs1:∀ p∈l,p.1.size≤9223372036854775807∧p.2.size≤9223372036854775807)(hs2:∀ p∈m,p.1.size≤9223372036854775807∧p.2.size≤9223372036854775807) :
  Calls Tryz.prog 79 #[v,u] w fun e w'=>∃ u,e=.returned u∧CRow w w' u (diffN l m).length (diffN l m):=by
 have HC1:=Hd (check_c w v l hv hn1 hs1)
 have HC2:=Hd (fun w1 (h1:Ext w w1)=>check_c w1 u m (hu.ext h1) hn2 hs2)
 have HV:=Hd hv
 have HU:=Hd hu
 obtain⟨a,c,hsl⟩:=hv.sl
 subst hsl
 obtain⟨a',c',hsl'⟩:=hu.sl
 subst hsl'
 clear hv hu hs1 hs2
 by_cases hck:checkN l=0
 case neg =>
  have HD:=Hd (show diffN l m=[] by unfold diffN;rw[if_neg (fun h=>hck h.1)])
  rw[HD.out]
  obtain⟨x,hx⟩:∃ x,x=checkN l:=⟨_,rfl⟩
  rw[←hx]at hck HC1
  have hne:(x == 0)=false:=by simpa using hck
  have hne2:(x != 0)=true:=by simpa using hck
  clear hck hx HV HU HC2 HD
  go_enter Tryz.func79,Tryz.ntmps79
  go_wp2_with fail
  refine HC1.out.mono ?_
  rintro e w1 ⟨rfl,hE⟩
  have HE:=Hd hE
  clear hE HC1
  go_wp2_with fail
  go_ret
  exact⟨_,rfl,ORow.nil _ _ HE.out⟩
 by_cases hck2:checkN m=0
 case neg =>
  have HD:=Hd (show diffN l m=[] by unfold diffN;rw[if_neg (fun h=>hck2 h.2)])
  rw[HD.out]
  rw[hck]at HC1
  obtain⟨x,hx⟩:∃ x,x=checkN m:=⟨_,rfl⟩
  rw[←hx]at hck2 HC2
  have hne:(x == 0)=false:=by simpa using hck2
  have hne2:(x != 0)=true:=by simpa using hck2
  clear hck hck2 hx HV HU HD
  go_enter Tryz.func79,Tryz.ntmps79
  go_wp2_with fail
  refine HC1.out.mono ?_
  rintro e w1 ⟨rfl,hE⟩
  have HE:=Hd hE
  clear hE HC1
  go_wp2_with fail
  refine (HC2.out w1 HE.out).mono ?_
  rintro e w2 ⟨rfl,hE⟩
  have HE2:=Hd (HE.out.trans hE)
  clear hE HC2 HE
  go_wp2_with fail
  go_ret
  exact⟨_,rfl,ORow.nil _ _ HE2.out⟩
 have hl40:=(check_ok hck).len
 have hm40:=(check_ok hck2).len
 have HD:=Hd (show diffN l m=diffL l m by unfold diffN;rw[if_pos ⟨hck,hck2⟩])
 rw[HD.out]
 rw[hck]at HC1
 rw[hck2]at HC2
 clear hck hck2 HD hn1 hn2
 obtain⟨R,hR⟩:∃ R,R=diffL l m:=⟨_,rfl⟩
 rw[←hR]
 have HRR:=Hd hR
 clear hR
 go_enter Tryz.func79,Tryz.ntmps79
 go_wp2_with fail
 refine HC1.out.mono ?_
 rintro e w1 ⟨rfl,hE⟩
 have HE:=Hd hE
 clear hE HC1
 go_wp2_with fail
 refine (HC2.out w1 HE.out).mono ?_
 rintro e w2 ⟨rfl,hE⟩
 have HE2:=Hd (HE.out.trans hE)
 clear hE HC2 HE
 go_wp2_with fail
 go_loopw [5,6,7] (fun v i j wr=>DfRel w l m v i j wr) (fun _ i j _=>(l.length - (intOf i).toNat)+(m.length - (intOf j).toNat))
 case atStart=>exact⟨0,0,0,[],rfl,rfl,by omega,by omega,by omega,ORow.nil _ _ HE2.out,by simp⟩
 case round =>
  obtain⟨i,j,n,acc,rfl,rfl,hrr⟩:=hrel
  obtain⟨hi,hj,hn,hrow,heq⟩:=hrr
  obtain⟨a2,c2,rfl⟩:=hrow.sl
  have HR:=Hd hrow
  have HEQ:=Hd heq
  clear hrow heq HE2
  by_cases hjm:j < m.length
  ·by_cases hil:i < l.length
   ·obtain⟨q,hq⟩:∃ q,m[j]?=some q:=⟨_,List.getElem?_eq_getElem hjm⟩
    rcases HU.out with⟨_,_,_,h0⟩ |⟨bm,om,cm,hh,hb,hc,hcell⟩
    ·rw[h0]at hjm;cases hjm
    cases hh
    obtain⟨qb1,qb2⟩:=hcell j q hq
    have QB1:=Hd (cell_ext qb1 HR.out.ext)
    have QB2:=Hd (cell_ext qb2 HR.out.ext)
    have NB:=Hd (show ¬(Value.slice a2 n c2).ownBlock=some bm from fun e=>by have:=HR.out.new bm e;omega)
    have HQ:=Hd hq
    have b2:(j:Int) < (m.length:Int):=by omega
    obtain⟨y1,y2⟩:=q
    simp only at QB1 QB2
    clear hcell hb hc hq
    obtain⟨p,hp⟩:∃ p,l[i]?=some p:=⟨_,List.getElem?_eq_getElem hil⟩
    rcases HV.out with⟨_,_,_,h0⟩ |⟨bl,ol,cl,hh,hb,hc,hcell⟩
    ·rw[h0]at hil;cases hil
    cases hh
    obtain⟨qa1,qa2⟩:=hcell i p hp
    have QA1:=Hd (cell_ext qa1 HR.out.ext)
    have QA2:=Hd (cell_ext qa2 HR.out.ext)
    have HP:=Hd hp
    have b1:(i:Int) < (l.length:Int):=by omega
    obtain⟨x1,x2⟩:=p
    simp only at QA1 QA2
    clear hcell hb hc hp
    have eA:((j:Int) ==(m.length:Int))=false:=by simp;omega
    have eN:((i:Int) ==(l.length:Int))=false:=by simp;omega
    cases hls:lessB x1 y1 with
    | true =>
     have HN:=Hd (show acc++[_]++diffL _ _=diffL l m from by rw[List.append_assoc,List.singleton_append, ←df_gone2 HP.out HQ.out hls];exact HEQ.out)
     unfold lessB at hls
     clear HEQ
     go_wp2_with fail
     refine wp_region_mixK [0,1,2,3,4,5,6,7,8,9,10,11,12,13,14,15,16,17,18,19,20,21,22,23] Ext ExtR ExtT (by kernel_rfl) (by kernel_rfl) (by kernel_rfl) ?_
     iterate 14 (refine mixk_pure _ rfl (by kernel_rfl) rfl rfl (fun K hK=>?_);go_big_quiet_op;refine hK _ ?_;clear hK K)
     refine mixk_load ⟨bl,ol+i * 2,none⟩ (.string x1) rfl (by kernel_rfl) rfl rfl (fun w3 h3=>run_load_plain Tryz.uStr rfl (cell_ext (by exact QA1.out) ((drewE _).trans h3))) ?_
     simp only[Act.put,sA,sB,sC]
     iterate 4 (refine mixk_pure _ rfl (by kernel_rfl) rfl rfl (fun K hK=>?_);go_big_quiet_op;refine hK _ ?_;clear hK K)
     refine mixk_load ⟨bm,om+j * 2,none⟩ (.string y1) rfl (by kernel_rfl) rfl rfl (fun w3 h3=>run_load_plain Tryz.uStr rfl (cell_ext (by exact QB1.out) ((drewE _).trans h3))) ?_
     simp only[Act.put,sA,sB,sC]
     iterate 4 (refine mixk_pure _ rfl (by kernel_rfl) rfl rfl (fun K hK=>?_);go_big_quiet_op;refine hK _ ?_;clear hK K)
     refine mixk_end (by kernel_rfl) (fun w5 he=>?_)
     have HRX:=Hd (HR.out.mono ((drewE _).trans he))
     have qx1:=cell_ext QA1.out ((drewE _).trans he)
     clear he HR QA1 QA2 QB1 QB2
     go_wp2_with (at_builtin;refine wpList_app Tryz.sChgs (HRX.out.mono ((ExtR _).alloc _)) (.tmp 79) (.tmp 86) rfl rfl rfl (news_blk (Blk.new _ _)) (news:=[.string x1,.string ⟨#[]⟩,.bool true]) (by intro u hu;simp at hu;rcases hu with rfl | rfl | rfl <;> rfl) rfl rfl ?c1 ?c2 (fun v' w' r1 r2 r3=>?_))
     case c1=>unfold maxLen;omega
     case c2=>omega
     have r1':CRow w w' v' (n+1) (acc++[⟨x1,⟨#[]⟩,true⟩]):=by unfold CRow;rw[cellsC_append];exact r1
     obtain⟨a8,c8,rfl⟩:=r1'.sl
     have HR5:=Hd r1'
     clear r1 r2 r3 r1'
     go_wp2_with fail
     go_roundw
     case rel=>exact⟨i+1,j,n+1,_,by go_num,rfl,by omega,hj,by omega,HR5.out,HN.out⟩
     case measure=>simp[intOf];omega
    | false =>
     have HLS:=Hd hls
     unfold lessB at hls
     go_wp2_with fail
     refine wp_region_mixK [0,1,2,3,4,5,6,7,8,9,10,11,12,13,14,15,16,17,18,19,20,21,22,23] Ext ExtR ExtT (by kernel_rfl) (by kernel_rfl) (by kernel_rfl) ?_
     iterate 14 (refine mixk_pure _ rfl (by kernel_rfl) rfl rfl (fun K hK=>?_);go_big_quiet_op;refine hK _ ?_;clear hK K)
     refine mixk_load ⟨bl,ol+i * 2,none⟩ (.string x1) rfl (by kernel_rfl) rfl rfl (fun w3 h3=>run_load_plain Tryz.uStr rfl (cell_ext (by exact QA1.out) ((drewE _).trans h3))) ?_
     simp only[Act.put,sA,sB,sC]
     iterate 4 (refine mixk_pure _ rfl (by kernel_rfl) rfl rfl (fun K hK=>?_);go_big_quiet_op;refine hK _ ?_;clear hK K)
     refine mixk_load ⟨bm,om+j * 2,none⟩ (.string y1) rfl (by kernel_rfl) rfl rfl (fun w3 h3=>run_load_plain Tryz.uStr rfl (cell_ext (by exact QB1.out) ((drewE _).trans h3))) ?_
     simp only[Act.put,sA,sB,sC]
     iterate 4 (refine mixk_pure _ rfl (by kernel_rfl) rfl rfl (fun K hK=>?_);go_big_quiet_op;refine hK _ ?_;clear hK K)
     refine mixk_end (by kernel_rfl) (fun w5 he=>?_)
     have HRY:=Hd (HR.out.mono ((drewE _).trans he))
     have QA1':=Hd (cell_ext QA1.out ((drewE _).trans he))
     have QA2':=Hd (cell_ext QA2.out ((drewE _).trans he))
     have QB1':=Hd (cell_ext QB1.out ((drewE _).trans he))
     have QB2':=Hd (cell_ext QB2.out ((drewE _).trans he))
     clear he HR QA1 QA2 QB1 QB2 hls
     cases hlt2:lessB y1 x1 with
     | true =>
      have HN:=Hd (show acc++[_]++diffL _ _=diffL l m from by rw[List.append_assoc,List.singleton_append, ←df_put2 HP.out HQ.out HLS.out hlt2];exact HEQ.out)
      unfold lessB at hlt2
      clear HEQ
      go_wp2_with fail
      refine wp_region_mixK [0,1,2,3,4,5,6,7,8,9,10,11,12,13,14,15,16,17] Ext ExtR ExtT (by kernel_rfl) (by kernel_rfl) (by kernel_rfl) ?_
      iterate 9 (refine mixk_pure _ rfl (by kernel_rfl) rfl rfl (fun K hK=>?_);go_big_quiet_op;refine hK _ ?_;clear hK K)
      refine mixk_load ⟨bm,om+j * 2,none⟩ (.string y1) rfl (by kernel_rfl) rfl rfl (fun w3 h3=>run_load_plain Tryz.uStr rfl (cell_ext (by exact QB1'.out) ((drewE _).trans h3))) ?_
      simp only[Act.put,sA,sB,sC]
      iterate 4 (refine mixk_pure _ rfl (by kernel_rfl) rfl rfl (fun K hK=>?_);go_big_quiet_op;refine hK _ ?_;clear hK K)
      refine mixk_load ⟨bl,ol+i * 2,none⟩ (.string x1) rfl (by kernel_rfl) rfl rfl (fun w3 h3=>run_load_plain Tryz.uStr rfl (cell_ext (by exact QA1'.out) ((drewE _).trans h3))) ?_
      simp only[Act.put,sA,sB,sC]
      iterate 3 (refine mixk_pure _ rfl (by kernel_rfl) rfl rfl (fun K hK=>?_);go_big_quiet_op;refine hK _ ?_;clear hK K)
      refine mixk_end (by kernel_rfl) (fun w5 he=>?_)
      have HRX:=Hd (HRY.out.mono ((drewE _).trans he))
      have QD1:=Hd (cell_ext QB1'.out ((drewE _).trans he))
      have QD2:=Hd (cell_ext QB2'.out ((drewE _).trans he))
      clear he HRY QA1' QA2' QB1' QB2' hlt2
      go_wp2_with fail
      refine wp_region_mixD [0,1,2,3,4,5,6,7,8,9,10,11,12,13,14] [12,13] Ext (Keeps (fun b=>(Value.slice a2 n c2).ownBlock=some b)) ExtR ExtT (fun x y z h k=>Keeps.trans h k) (fun x y h=>h.mono (fun _ _ h=>h.elim)) (by kernel_rfl) (by kernel_rfl) (by kernel_rfl) ?_
      iterate 5 (refine mixd_pure _ rfl (by kernel_rfl) rfl rfl (fun K hK=>?_);go_big_quiet_op;refine hK _ ?_;clear hK K)
      refine mixd_load ⟨bm,om+j * 2,none⟩ (.string y1) rfl (by kernel_rfl) rfl rfl (fun w3 h3=>run_load_plain Tryz.uStr rfl (cell_keeps (by exact QD1.out) h3 NB.out)) ?_
      simp only[Act.put,sA,sB,sC]
      iterate 4 (refine mixd_pure _ rfl (by kernel_rfl) rfl rfl (fun K hK=>?_);go_big_quiet_op;refine hK _ ?_;clear hK K)
      refine mixd_load ⟨bm,om+j * 2+1,none⟩ (.string y2) rfl (by kernel_rfl) rfl rfl (fun w3 h3=>run_load_plain Tryz.uStr rfl (cell_keeps (by exact QD2.out) h3 NB.out)) ?_
      simp only[Act.put,sA,sB,sC]
      (refine mixd_pure _ rfl (by kernel_rfl) rfl rfl (fun K hK=>?_);go_big_quiet_op;refine hK _ ?_;clear hK K)
      refine mixd_hard _ rfl (by kernel_rfl) rfl (fun w6 he K hK=>?_)
      have HR6:=Hd (HRX.out.mono ((drewE _).trans he))
      clear he
      go_simp
      refine hK _ _ ((Keeps.refl _ w6).alloc _) ?_
      clear hK K
      refine mixd_hard _ rfl (by kernel_rfl) rfl (fun w7 he K hK=>?_)
      have HR7:=Hd (HR6.out.mono (((ExtR w6).alloc _).trans he))
      have hB:∀ k u,([.string y1,.string y2,.bool false]:List Value)[k]?=some u→w7.cell? ((⟨w6.heap.size,0,none⟩:Addr).add k)=some u:=fun k u hk=>cell_ext (news_blk (Blk.new w6 (.cells [Value.string y1,.string y2,.bool false].toArray 66)) k u hk) he
      refine wp_app Tryz.sChgs HR7.out (.tmp 108) (.tmp 120) rfl rfl hB (by intro u hu;simp at hu;rcases hu with rfl | rfl | rfl <;> rfl) rfl rfl (by unfold maxLen;omega) (by omega) (fun v' w8 r1 r2 r3=>hK _ _ r2 ?_)
      have r1':CRow w w8 v' (n+1) (acc++[⟨y1,y2,false⟩]):=by unfold CRow;rw[cellsC_append];exact r1
      have HR8:=Hd r1'
      clear hK K he r1 r2 r3 r1' hB HR6 HR7
      obtain⟨a4,c4,rfl⟩:=HR8.out.sl
      simp only[Act.put,sA,sB,sC]
      (refine mixd_pure _ rfl (by kernel_rfl) rfl rfl (fun K hK=>?_);go_big_quiet_op;refine hK _ ?_;clear hK K)
      refine mixd_end (by kernel_rfl) (fun w9 he=>?_)
      have HR9:=Hd (HR8.out.mono he)
      clear he HR8
      go_wp2_with fail
      go_roundw
      case rel=>exact⟨i,j+1,n+1,_,rfl,by go_num,by omega,by omega,by omega,HR9.out,HN.out⟩
      case measure=>simp[intOf];omega
     | false =>
      have HLT:=Hd hlt2
      unfold lessB at hlt2
      go_wp2_with fail
      refine wp_region_mixK [0,1,2,3,4,5,6,7,8,9,10,11,12,13,14,15,16,17] Ext ExtR ExtT (by kernel_rfl) (by kernel_rfl) (by kernel_rfl) ?_
      iterate 9 (refine mixk_pure _ rfl (by kernel_rfl) rfl rfl (fun K hK=>?_);go_big_quiet_op;refine hK _ ?_;clear hK K)
      refine mixk_load ⟨bm,om+j * 2,none⟩ (.string y1) rfl (by kernel_rfl) rfl rfl (fun w3 h3=>run_load_plain Tryz.uStr rfl (cell_ext (by exact QB1'.out) ((drewE _).trans h3))) ?_
      simp only[Act.put,sA,sB,sC]
      iterate 4 (refine mixk_pure _ rfl (by kernel_rfl) rfl rfl (fun K hK=>?_);go_big_quiet_op;refine hK _ ?_;clear hK K)
      refine mixk_load ⟨bl,ol+i * 2,none⟩ (.string x1) rfl (by kernel_rfl) rfl rfl (fun w3 h3=>run_load_plain Tryz.uStr rfl (cell_ext (by exact QA1'.out) ((drewE _).trans h3))) ?_
      simp only[Act.put,sA,sB,sC]
      iterate 3 (refine mixk_pure _ rfl (by kernel_rfl) rfl rfl (fun K hK=>?_);go_big_quiet_op;refine hK _ ?_;clear hK K)
      refine mixk_end (by kernel_rfl) (fun w5 he=>?_)
      have HRZ:=Hd (HRY.out.mono ((drewE _).trans he))
      have QE2:=Hd (cell_ext QA2'.out ((drewE _).trans he))
      have QF1:=Hd (cell_ext QB1'.out ((drewE _).trans he))
      have QF2:=Hd (cell_ext QB2'.out ((drewE _).trans he))
      clear he HRY QA1' QA2' QB1' QB2' hlt2
      cases hvv:(x2.toList == y2.toList)with
      | true =>
       have HN:=Hd (show acc++diffL _ _=diffL l m from by rw[←df_same HP.out HQ.out HLS.out HLT.out hvv];exact HEQ.out)
       clear HEQ
       go_wp2_with fail
       refine wp_region_mixK [0,1,2,3,4,5,6,7,8,9,10] Ext ExtR ExtT (by kernel_rfl) (by kernel_rfl) (by kernel_rfl) ?_
       iterate 4 (refine mixk_pure _ rfl (by kernel_rfl) rfl rfl (fun K hK=>?_);go_big_quiet_op;refine hK _ ?_;clear hK K)
       refine mixk_load ⟨bl,ol+i * 2+1,none⟩ (.string x2) rfl (by kernel_rfl) rfl rfl (fun w3 h3=>run_load_plain Tryz.uStr rfl (cell_ext (by exact QE2.out) ((drewE _).trans h3))) ?_
       simp only[Act.put,sA,sB,sC]
       iterate 4 (refine mixk_pure _ rfl (by kernel_rfl) rfl rfl (fun K hK=>?_);go_big_quiet_op;refine hK _ ?_;clear hK K)
       refine mixk_load ⟨bm,om+j * 2+1,none⟩ (.string y2) rfl (by kernel_rfl) rfl rfl (fun w3 h3=>run_load_plain Tryz.uStr rfl (cell_ext (by exact QF2.out) ((drewE _).trans h3))) ?_
       simp only[Act.put,sA,sB,sC]
       (refine mixk_pure _ rfl (by kernel_rfl) rfl rfl (fun K hK=>?_);go_big_quiet_op;refine hK _ ?_;clear hK K)
       refine mixk_end (by kernel_rfl) (fun w5 he=>?_)
       have HRX:=Hd (HRZ.out.mono ((drewE _).trans he))
       clear he HRZ QE2 QF1 QF2
       go_wp2_with fail
       go_roundw
       case rel=>exact⟨i+1,j+1,n,acc,by go_num,by go_num,by omega,by omega,by omega,HRX.out,HN.out⟩
       case measure=>simp[intOf];omega
      | false =>
       have HN:=Hd (show acc++[_]++diffL _ _=diffL l m from by rw[List.append_assoc,List.singleton_append, ←df_other HP.out HQ.out HLS.out HLT.out hvv];exact HEQ.out)
       clear HEQ
       go_wp2_with fail
       refine wp_region_mixK [0,1,2,3,4,5,6,7,8,9,10] Ext ExtR ExtT (by kernel_rfl) (by kernel_rfl) (by kernel_rfl) ?_
       iterate 4 (refine mixk_pure _ rfl (by kernel_rfl) rfl rfl (fun K hK=>?_);go_big_quiet_op;refine hK _ ?_;clear hK K)
       refine mixk_load ⟨bl,ol+i * 2+1,none⟩ (.string x2) rfl (by kernel_rfl) rfl rfl (fun w3 h3=>run_load_plain Tryz.uStr rfl (cell_ext (by exact QE2.out) ((drewE _).trans h3))) ?_
       simp only[Act.put,sA,sB,sC]
       iterate 4 (refine mixk_pure _ rfl (by kernel_rfl) rfl rfl (fun K hK=>?_);go_big_quiet_op;refine hK _ ?_;clear hK K)
       refine mixk_load ⟨bm,om+j * 2+1,none⟩ (.string y2) rfl (by kernel_rfl) rfl rfl (fun w3 h3=>run_load_plain Tryz.uStr rfl (cell_ext (by exact QF2.out) ((drewE _).trans h3))) ?_
       simp only[Act.put,sA,sB,sC]
       (refine mixk_pure _ rfl (by kernel_rfl) rfl rfl (fun K hK=>?_);go_big_quiet_op;refine hK _ ?_;clear hK K)
       refine mixk_end (by kernel_rfl) (fun w5 he=>?_)
       have HRX:=Hd (HRZ.out.mono ((drewE _).trans he))
       have QD1:=Hd (cell_ext QF1.out ((drewE _).trans he))
       have QD2:=Hd (cell_ext QF2.out ((drewE _).trans he))
       clear he HRZ QE2 QF1 QF2
       go_wp2_with fail
       refine wp_region_mixD [0,1,2,3,4,5,6,7,8,9,10,11,12,13,14] [12,13] Ext (Keeps (fun b=>(Value.slice a2 n c2).ownBlock=some b)) ExtR ExtT (fun x y z h k=>Keeps.trans h k) (fun x y h=>h.mono (fun _ _ h=>h.elim)) (by kernel_rfl) (by kernel_rfl) (by kernel_rfl) ?_
       iterate 5 (refine mixd_pure _ rfl (by kernel_rfl) rfl rfl (fun K hK=>?_);go_big_quiet_op;refine hK _ ?_;clear hK K)
       refine mixd_load ⟨bm,om+j * 2,none⟩ (.string y1) rfl (by kernel_rfl) rfl rfl (fun w3 h3=>run_load_plain Tryz.uStr rfl (cell_keeps (by exact QD1.out) h3 NB.out)) ?_
       simp only[Act.put,sA,sB,sC]
       iterate 4 (refine mixd_pure _ rfl (by kernel_rfl) rfl rfl (fun K hK=>?_);go_big_quiet_op;refine hK _ ?_;clear hK K)
       refine mixd_load ⟨bm,om+j * 2+1,none⟩ (.string y2) rfl (by kernel_rfl) rfl rfl (fun w3 h3=>run_load_plain Tryz.uStr rfl (cell_keeps (by exact QD2.out) h3 NB.out)) ?_
       simp only[Act.put,sA,sB,sC]
       (refine mixd_pure _ rfl (by kernel_rfl) rfl rfl (fun K hK=>?_);go_big_quiet_op;refine hK _ ?_;clear hK K)
       refine mixd_hard _ rfl (by kernel_rfl) rfl (fun w6 he K hK=>?_)
       have HR6:=Hd (HRX.out.mono ((drewE _).trans he))
       clear he
       go_simp
       refine hK _ _ ((Keeps.refl _ w6).alloc _) ?_
       clear hK K
       refine mixd_hard _ rfl (by kernel_rfl) rfl (fun w7 he K hK=>?_)
       have HR7:=Hd (HR6.out.mono (((ExtR w6).alloc _).trans he))
       have hB:∀ k u,([.string y1,.string y2,.bool false]:List Value)[k]?=some u→w7.cell? ((⟨w6.heap.size,0,none⟩:Addr).add k)=some u:=fun k u hk=>cell_ext (news_blk (Blk.new w6 (.cells [Value.string y1,.string y2,.bool false].toArray 66)) k u hk) he
       refine wp_app Tryz.sChgs HR7.out (.tmp 37) (.tmp 49) rfl rfl hB (by intro u hu;simp at hu;rcases hu with rfl | rfl | rfl <;> rfl) rfl rfl (by unfold maxLen;omega) (by omega) (fun v' w8 r1 r2 r3=>hK _ _ r2 ?_)
       have r1':CRow w w8 v' (n+1) (acc++[⟨y1,y2,false⟩]):=by unfold CRow;rw[cellsC_append];exact r1
       have HR8:=Hd r1'
       clear hK K he r1 r2 r3 r1' hB HR6 HR7
       obtain⟨a4,c4,rfl⟩:=HR8.out.sl
       simp only[Act.put,sA,sB,sC]
       (refine mixd_pure _ rfl (by kernel_rfl) rfl rfl (fun K hK=>?_);go_big_quiet_op;refine hK _ ?_;clear hK K)
       refine mixd_end (by kernel_rfl) (fun w9 he=>?_)
       have HR9:=Hd (HR8.out.mono he)
       clear he HR8
       go_wp2_with fail
       go_roundw
       case rel=>exact⟨i+1,j+1,n+1,_,by go_num,by go_num,by omega,by omega,by omega,HR9.out,HN.out⟩
       case measure=>simp[intOf];omega
   ·obtain⟨q,hq⟩:∃ q,m[j]?=some q:=⟨_,List.getElem?_eq_getElem hjm⟩
    rcases HU.out with⟨_,_,_,h0⟩ |⟨bm,om,cm,hh,hb,hc,hcell⟩
    ·rw[h0]at hjm;cases hjm
    cases hh
    obtain⟨qb1,qb2⟩:=hcell j q hq
    have QB1:=Hd (cell_ext qb1 HR.out.ext)
    have QB2:=Hd (cell_ext qb2 HR.out.ext)
    have NB:=Hd (show ¬(Value.slice a2 n c2).ownBlock=some bm from fun e=>by have:=HR.out.new bm e;omega)
    have HQ:=Hd hq
    have b2:(j:Int) < (m.length:Int):=by omega
    obtain⟨y1,y2⟩:=q
    simp only at QB1 QB2
    clear hcell hb hc hq
    have hie:i=l.length:=by omega
    have b1:¬(i:Int) < (l.length:Int):=by omega
    have eA:((j:Int) ==(m.length:Int))=false:=by simp;omega
    have eN:((i:Int) ==(l.length:Int))=true:=by simp;omega
    have HN:=Hd (show acc++[_]++diffL _ _=diffL l m from by rw[List.append_assoc,List.singleton_append, ←df_put1 HQ.out hie];exact HEQ.out)
    clear hie HEQ
    go_wp2_with fail
    refine wp_region_mixK [0,1,2,3,4,5,6,7,8,9,10,11,12,13,14,15,16,17,18,19,20,21,22,23] Ext ExtR ExtT (by kernel_rfl) (by kernel_rfl) (by kernel_rfl) ?_
    iterate 10 (refine mixk_pure _ rfl (by kernel_rfl) rfl rfl (fun K hK=>?_);go_big_quiet_op;refine hK _ ?_;clear hK K)
    iterate 11 (refine mixk_skip _ rfl (by kernel_rfl) rfl ?_;simp only[Act.put,sA,sB,sC])
    iterate 3 (refine mixk_pure _ rfl (by kernel_rfl) rfl rfl (fun K hK=>?_);go_big_quiet_op;refine hK _ ?_;clear hK K)
    refine mixk_end (by kernel_rfl) (fun w5 he=>?_)
    have HRY:=Hd (HR.out.mono ((drewE _).trans he))
    have QC1:=Hd (cell_ext QB1.out ((drewE _).trans he))
    have QC2:=Hd (cell_ext QB2.out ((drewE _).trans he))
    clear he HR QB1 QB2
    go_wp2_with fail
    refine wp_region_mixK [0,1,2,3,4,5,6,7,8,9,10,11,12,13,14,15,16,17] Ext ExtR ExtT (by kernel_rfl) (by kernel_rfl) (by kernel_rfl) ?_
    iterate 5 (refine mixk_pure _ rfl (by kernel_rfl) rfl rfl (fun K hK=>?_);go_big_quiet_op;refine hK _ ?_;clear hK K)
    iterate 11 (refine mixk_skip _ rfl (by kernel_rfl) rfl ?_;simp only[Act.put,sA,sB,sC])
    iterate 2 (refine mixk_pure _ rfl (by kernel_rfl) rfl rfl (fun K hK=>?_);go_big_quiet_op;refine hK _ ?_;clear hK K)
    refine mixk_end (by kernel_rfl) (fun w5 he=>?_)
    have HRX:=Hd (HRY.out.mono ((drewE _).trans he))
    have QD1:=Hd (cell_ext QC1.out ((drewE _).trans he))
    have QD2:=Hd (cell_ext QC2.out ((drewE _).trans he))
    clear he HRY QC1 QC2
    go_wp2_with fail
    refine wp_region_mixD [0,1,2,3,4,5,6,7,8,9,10,11,12,13,14] [12,13] Ext (Keeps (fun b=>(Value.slice a2 n c2).ownBlock=some b)) ExtR ExtT (fun x y z h k=>Keeps.trans h k) (fun x y h=>h.mono (fun _ _ h=>h.elim)) (by kernel_rfl) (by kernel_rfl) (by kernel_rfl) ?_
    iterate 5 (refine mixd_pure _ rfl (by kernel_rfl) rfl rfl (fun K hK=>?_);go_big_quiet_op;refine hK _ ?_;clear hK K)
    refine mixd_load ⟨bm,om+j * 2,none⟩ (.string y1) rfl (by kernel_rfl) rfl rfl (fun w3 h3=>run_load_plain Tryz.uStr rfl (cell_keeps (by exact QD1.out) h3 NB.out)) ?_
    simp only[Act.put,sA,sB,sC]
    iterate 4 (refine mixd_pure _ rfl (by kernel_rfl) rfl rfl (fun K hK=>?_);go_big_quiet_op;refine hK _ ?_;clear hK K)
    refine mixd_load ⟨bm,om+j * 2+1,none⟩ (.string y2) rfl (by kernel_rfl) rfl rfl (fun w3 h3=>run_load_plain Tryz.uStr rfl (cell_keeps (by exact QD2.out) h3 NB.out)) ?_
    simp only[Act.put,sA,sB,sC]
    (refine mixd_pure _ rfl (by kernel_rfl) rfl rfl (fun K hK=>?_);go_big_quiet_op;refine hK _ ?_;clear hK K)
    refine mixd_hard _ rfl (by kernel_rfl) rfl (fun w6 he K hK=>?_)
    have HR6:=Hd (HRX.out.mono ((drewE _).trans he))
    clear he
    go_simp
    refine hK _ _ ((Keeps.refl _ w6).alloc _) ?_
    clear hK K
    refine mixd_hard _ rfl (by kernel_rfl) rfl (fun w7 he K hK=>?_)
    have HR7:=Hd (HR6.out.mono (((ExtR w6).alloc _).trans he))
    have hB:∀ k u,([.string y1,.string y2,.bool false]:List Value)[k]?=some u→w7.cell? ((⟨w6.heap.size,0,none⟩:Addr).add k)=some u:=fun k u hk=>cell_ext (news_blk (Blk.new w6 (.cells [Value.string y1,.string y2,.bool false].toArray 66)) k u hk) he
    refine wp_app Tryz.sChgs HR7.out (.tmp 108) (.tmp 120) rfl rfl hB (by intro u hu;simp at hu;rcases hu with rfl | rfl | rfl <;> rfl) rfl rfl (by unfold maxLen;omega) (by omega) (fun v' w8 r1 r2 r3=>hK _ _ r2 ?_)
    have r1':CRow w w8 v' (n+1) (acc++[⟨y1,y2,false⟩]):=by unfold CRow;rw[cellsC_append];exact r1
    have HR8:=Hd r1'
    clear hK K he r1 r2 r3 r1' hB HR6 HR7
    obtain⟨a4,c4,rfl⟩:=HR8.out.sl
    simp only[Act.put,sA,sB,sC]
    (refine mixd_pure _ rfl (by kernel_rfl) rfl rfl (fun K hK=>?_);go_big_quiet_op;refine hK _ ?_;clear hK K)
    refine mixd_end (by kernel_rfl) (fun w9 he=>?_)
    have HR9:=Hd (HR8.out.mono he)
    clear he HR8
    go_wp2_with fail
    go_roundw
    case rel=>exact⟨i,j+1,n+1,_,rfl,by go_num,by omega,by omega,by omega,HR9.out,HN.out⟩
    case measure=>simp[intOf];omega
  ·have hje:j=m.length:=by omega
   by_cases hil:i < l.length
   ·obtain⟨p,hp⟩:∃ p,l[i]?=some p:=⟨_,List.getElem?_eq_getElem hil⟩
    rcases HV.out with⟨_,_,_,h0⟩ |⟨bl,ol,cl,hh,hb,hc,hcell⟩
    ·rw[h0]at hil;cases hil
    cases hh
    obtain⟨qa1,qa2⟩:=hcell i p hp
    have QA1:=Hd (cell_ext qa1 HR.out.ext)
    have QA2:=Hd (cell_ext qa2 HR.out.ext)
    have HP:=Hd hp
    have b1:(i:Int) < (l.length:Int):=by omega
    obtain⟨x1,x2⟩:=p
    simp only at QA1 QA2
    clear hcell hb hc hp
    have b2:¬(j:Int) < (m.length:Int):=by omega
    have eA:((j:Int) ==(m.length:Int))=true:=by simp;omega
    have HN:=Hd (show acc++[_]++diffL _ _=diffL l m from by rw[List.append_assoc,List.singleton_append, ←df_gone1 HP.out hje];exact HEQ.out)
    clear hje HEQ
    go_wp2_with fail
    refine wp_region_mixK [0,1,2,3,4,5,6,7,8,9,10,11,12,13,14,15,16,17,18,19,20,21,22,23] Ext ExtR ExtT (by kernel_rfl) (by kernel_rfl) (by kernel_rfl) ?_
    iterate 5 (refine mixk_pure _ rfl (by kernel_rfl) rfl rfl (fun K hK=>?_);go_big_quiet_op;refine hK _ ?_;clear hK K)
    iterate 17 (refine mixk_skip _ rfl (by kernel_rfl) rfl ?_;simp only[Act.put,sA,sB,sC])
    iterate 2 (refine mixk_pure _ rfl (by kernel_rfl) rfl rfl (fun K hK=>?_);go_big_quiet_op;refine hK _ ?_;clear hK K)
    refine mixk_end (by kernel_rfl) (fun w5 he=>?_)
    have HRX:=Hd (HR.out.mono ((drewE _).trans he))
    have qx1:=cell_ext QA1.out ((drewE _).trans he)
    clear he HR QA1 QA2
    go_wp2_with (at_builtin;refine wpList_app Tryz.sChgs (HRX.out.mono ((ExtR _).alloc _)) (.tmp 79) (.tmp 86) rfl rfl rfl (news_blk (Blk.new _ _)) (news:=[.string x1,.string ⟨#[]⟩,.bool true]) (by intro u hu;simp at hu;rcases hu with rfl | rfl | rfl <;> rfl) rfl rfl ?c1 ?c2 (fun v' w' r1 r2 r3=>?_))
    case c1=>unfold maxLen;omega
    case c2=>omega
    have r1':CRow w w' v' (n+1) (acc++[⟨x1,⟨#[]⟩,true⟩]):=by unfold CRow;rw[cellsC_append];exact r1
    obtain⟨a8,c8,rfl⟩:=r1'.sl
    have HR5:=Hd r1'
    clear r1 r2 r3 r1'
    go_wp2_with fail
    go_roundw
    case rel=>exact⟨i+1,j,n+1,_,by go_num,rfl,by omega,hj,by omega,HR5.out,HN.out⟩
    case measure=>simp[intOf];omega
   ·have hie:i=l.length:=by omega
    have HF:=Hd (show acc=R by have h:=HEQ.out;rw[df_end hie hje,List.append_nil, ←HRR.out]at h;exact h)
    have b1:¬(i:Int) < (l.length:Int):=by omega
    have b2:¬(j:Int) < (m.length:Int):=by omega
    have hnl:n=R.length:=by
     have:=HR.out.len
     rw[HF.out]at this
     rw[cellsC_len]at this
     omega
    have HNL:=Hd hnl
    clear hie hje hnl HEQ HRR
    go_wp2_with fail
    go_ret
    exact⟨_,rfl,by rw[←HNL.out, ←HF.out];exact HR.out⟩
abbrev Chg.k(c:Chg):List UInt8:=c.key.data.toList
def Chg.o(c:Chg):Option ByteArray:=if c.gone then none else some c.value
theorem lasts_none{k:List UInt8}:∀ {cs:List Chg},(∀ c∈cs,c.k≠k)→∀ o,cs.foldl (lastC k) o=o
 | [],_,_=>rfl
 | c :: r,h,o=>by
  have e:lastC k o c=o:=by unfold lastC;rw[if_neg (fun e=>h c List.mem_cons_self e.symm)]
  rw[List.foldl_cons,e,lasts_none fun x hx=>h x (List.mem_cons_of_mem _ hx)]
theorem lasts_mem{c:Chg}:∀ {cs:List Chg},c∈cs→(cs.map Chg.k).Nodup→∀ o,cs.foldl (lastC c.k) o=c.o
 | [],h,_,_=>by cases h
 | d :: r,h,hn,o=>by
  rw[List.map_cons,List.nodup_cons]at hn
  rw[List.foldl_cons]
  rcases List.mem_cons.1 h with rfl | h
  ·rw[lasts_none fun x hx e=>hn.1 (by rw[←e];exact List.mem_map_of_mem hx)]
   unfold lastC Chg.o;rw[if_pos rfl]
  ·exact lasts_mem h hn.2 _
structure Makes(l m:List Pair)(cs:List Chg):Prop where
 keys:(cs.map Chg.k).Nodup
 done:∀ c∈cs,look m c.k=c.o
 rest:∀ k,(∀ c∈cs,c.k≠k)→look l k=look m k
 fine:cs.any Chg.bad=false
theorem Makes.looks{l m:List Pair}{cs:List Chg}(h:Makes l m cs)(k:List UInt8):cs.foldl (lastC k) (look l k)=look m k:=by
 by_cases hk:∃ c∈cs,c.k=k
 ·obtain⟨c,hc,rfl⟩:=hk
  rw[lasts_mem hc h.keys,h.done c hc]
 ·have hn:∀ c∈cs,c.k≠k:=fun c hc e=>hk ⟨c,hc,e⟩
  rw[lasts_none hn,h.rest k hn]
def okL(l:List Pair):Prop:=(∀ p∈l,okP p)∧Rises l
theorem okL.tail{p:Pair}{l:List Pair}(h:okL (p :: l)):okL l:=⟨fun q hq=>h.1 q (List.mem_cons_of_mem _ hq),(List.pairwise_cons.1 h.2).2⟩
theorem okL.head{p:Pair}{l:List Pair}(h:okL (p :: l)):okP p:=h.1 p List.mem_cons_self
theorem okL.lt{p:Pair}{l:List Pair}(h:okL (p :: l)):∀ q∈l,Lt p.k q.k:=(List.pairwise_cons.1 h.2).1
theorem diffL_keys(l m:List Pair):∀ c∈diffL l m,c.k∈l.map Pair.k∨c.k∈m.map Pair.k:=by
 fun_induction diffL l m with
 | case1=>intro c hc;cases hc
 | case2 p l ih =>
  intro c hc
  rcases List.mem_cons.1 hc with rfl | hc
  ·exact .inl (by simp[Chg.k,Pair.k])
  ·rcases ih c hc with h | h
   ·exact .inl (List.mem_cons_of_mem _ h)
   ·exact .inr h
 | case3 q m ih =>
  intro c hc
  rcases List.mem_cons.1 hc with rfl | hc
  ·exact .inr (by simp[Chg.k,Pair.k])
  ·rcases ih c hc with h | h
   ·exact .inl h
   ·exact .inr (List.mem_cons_of_mem _ h)
 | case4 p l q m h ih =>
  intro c hc
  rcases List.mem_cons.1 hc with rfl | hc
  ·exact .inl (by simp[Chg.k,Pair.k])
  ·rcases ih c hc with h | h
   ·exact .inl (List.mem_cons_of_mem _ h)
   ·exact .inr h
 | case5 p l q m h h2 ih =>
  intro c hc
  rcases List.mem_cons.1 hc with rfl | hc
  ·exact .inr (by simp[Chg.k,Pair.k])
  ·rcases ih c hc with h | h
   ·exact .inl h
   ·exact .inr (List.mem_cons_of_mem _ h)
 | case6 p l q m h h2 h3 ih =>
  intro c hc
  rcases ih c hc with h | h
  ·exact .inl (List.mem_cons_of_mem _ h)
  ·exact .inr (List.mem_cons_of_mem _ h)
 | case7 p l q m h h2 h3 ih =>
  intro c hc
  rcases List.mem_cons.1 hc with rfl | hc
  ·exact .inr (by simp[Chg.k,Pair.k])
  ·rcases ih c hc with h | h
   ·exact .inl (List.mem_cons_of_mem _ h)
   ·exact .inr (List.mem_cons_of_mem _ h)
theorem look_small{k:List UInt8}{m:List Pair}(h:∀ q∈m,Lt k q.k):look m k=none:=look_none fun hm=>by
 obtain⟨q,hq,e⟩:=List.mem_map.1 hm
 exact lt_irrefl _ (e ▸ h q hq)
theorem keys_lt{k:List UInt8}{l m:List Pair}(h1:∀ q∈l,Lt k q.k)(h2:∀ q∈m,Lt k q.k):∀ c∈diffL l m,Lt k c.k:=fun c hc=>by
 rcases diffL_keys l m c hc with h | h
 ·obtain⟨q,hq,e⟩:=List.mem_map.1 h;rw[←e];exact h1 q hq
 ·obtain⟨q,hq,e⟩:=List.mem_map.1 h;rw[←e];exact h2 q hq
theorem Makes.cons{l m l' m':List Pair}{c:Chg}{cs:List Chg}(h:Makes l m cs)(hk:∀ d∈cs,Lt c.k d.k)(hc:look m' c.k=c.o)(hb:c.bad=false)
  (hl:∀ k,k≠c.k→look l' k=look l k) (hm:∀ k,k≠c.k→look m' k=look m k):Makes l' m' (c :: cs):=by
 refine⟨?_,?_,?_,?_⟩
 ·rw[List.map_cons,List.nodup_cons]
  refine⟨fun hh=>?_,h.keys⟩
  obtain⟨d,hd,e⟩:=List.mem_map.1 hh
  exact lt_irrefl _ (e ▸ hk d hd)
 ·intro d hd
  rcases List.mem_cons.1 hd with rfl | hd
  ·exact hc
  ·rw[hm _ (fun e=>lt_irrefl _ (e ▸ hk d hd)),h.done d hd]
 ·intro k hh
  have h1:k≠c.k:=fun e=>hh c List.mem_cons_self e.symm
  rw[hl k h1,hm k h1,h.rest k fun d hd=>hh d (List.mem_cons_of_mem _ hd)]
 ·rw[List.any_cons,hb,h.fine];rfl
theorem gone_ok{p:Pair}(h:okP p):Chg.bad ⟨p.1,⟨#[]⟩,true⟩=false:=by
 unfold Chg.bad;rw[h.1];rfl
theorem put_ok{p:Pair}(h:okP p):Chg.bad ⟨p.1,p.2,false⟩=false:=by
 unfold Chg.bad;rw[h.1,h.2];rfl
theorem look_head(q:Pair)(m:List Pair):look (q :: m) q.k=some q.2:=by rw[look_cons,if_pos rfl]
theorem look_tail{q:Pair}{m:List Pair}{k:List UInt8}(h:k≠q.k):look (q :: m) k=look m k:=by rw[look_cons,if_neg h]
theorem makes:∀ (l m:List Pair),okL l→okL m→Makes l m (diffL l m):=by
 intro l m
 fun_induction diffL l m with
 | case1=>exact fun _ _=>⟨by simp,by simp,fun _ _=>rfl,rfl⟩
 | case2 p l ih =>
  intro h1 h2
  refine (ih h1.tail h2).cons (keys_lt h1.lt (by simp)) rfl (gone_ok h1.head) (fun k hk=>look_tail hk) (fun _ _=>rfl)
 | case3 q m ih =>
  intro h1 h2
  exact (ih h1 h2.tail).cons (keys_lt (by simp) h2.lt) (look_head q m) (put_ok h2.head) (fun _ _=>rfl) (fun k hk=>look_tail hk)
 | case4 p l q m h ih =>
  intro h1 h2
  have hl:=(lessB_iff _ _).1 h
  have hq:∀ x∈q :: m,Lt p.k x.k:=fun x hx=>by
   rcases List.mem_cons.1 hx with rfl | hx
   ·exact hl
   ·exact lt_trans' _ _ _ hl (h2.lt x hx)
  refine (ih h1.tail h2).cons (keys_lt h1.lt hq) (look_small hq) (gone_ok h1.head) (fun k hk=>look_tail hk) (fun _ _=>rfl)
 | case5 p l q m h h' ih =>
  intro h1 h2
  have hl:=(lessB_iff _ _).1 h'
  have hp:∀ x∈p :: l,Lt q.k x.k:=fun x hx=>by
   rcases List.mem_cons.1 hx with rfl | hx
   ·exact hl
   ·exact lt_trans' _ _ _ hl (h1.lt x hx)
  exact (ih h1 h2.tail).cons (keys_lt hp h2.lt) (look_head q m) (put_ok h2.head) (fun _ _=>rfl) (fun k hk=>look_tail hk)
 | case6 p l q m h h' h3 ih =>
  intro h1 h2
  have hk:p.k=q.k:=by
   rcases lt_tri p.k q.k with e | e | e
   ·exact absurd ((lessB_iff _ _).2 e) h
   ·exact e
   ·exact absurd ((lessB_iff _ _).2 e) h'
  have hv:p.2=q.2:=by
   rw[ByteArray.toList_eq,ByteArray.toList_eq]at h3
   obtain⟨⟨⟨a⟩⟩,⟨⟨b⟩⟩⟩:=p
   obtain⟨⟨⟨c⟩⟩,⟨⟨d⟩⟩⟩:=q
   simp at h3;simp[h3]
  have:=pair_ext hk hv
  subst this
  have hi:=ih h1.tail h2.tail
  have hlt:=keys_lt h1.lt h2.lt
  refine⟨hi.keys,fun c hc=>?_,fun k hh=>?_,hi.fine⟩
  ·rw[look_tail (fun e=>lt_irrefl _ (e ▸ hlt c hc)),hi.done c hc]
  ·by_cases e:k=p.k
   ·rw[e,look_head,look_head]
   ·rw[look_tail e,look_tail e,hi.rest k hh]
 | case7 p l q m h h' h3 ih =>
  intro h1 h2
  have hk:p.k=q.k:=by
   rcases lt_tri p.k q.k with e | e | e
   ·exact absurd ((lessB_iff _ _).2 e) h
   ·exact e
   ·exact absurd ((lessB_iff _ _).2 e) h'
  have hlt:=keys_lt (fun x hx=>hk ▸ h1.lt x hx) h2.lt
  exact (ih h1.tail h2.tail).cons hlt (look_head q m) (put_ok h2.head) (fun k e=>look_tail (by rw[hk];exact e)) (fun k e=>look_tail e)
theorem check_okL{l:List Pair}(h:checkN l=0):okL l:=⟨map_okP h,(check_ok h).rise⟩
theorem diff_makes{l m:List Pair}(h1:checkN l=0)(h2:checkN m=0):Makes l m (diffN l m):=by
 unfold diffN;rw[if_pos ⟨h1,h2⟩];exact makes l m (check_okL h1) (check_okL h2)
abbrev Key:=List UInt8
abbrev EntK:=Ent Key
def kvE(x:EntK):Key × Value:=(x.1,x.2.1)
def getV(m:List (Key × Value))(k:Key):Option Value:=(m.find? fun x=>decide (k=x.1)).map (·.2)
def putV:List (Key × Value)→Key→Value→List (Key × Value)
 | [],k,v=>[(k,v)]
 | x :: r,k,v=>if k=x.1 then (k,v) :: r else x :: putV r k v
structure MapV(es:List EntK)(ck:Nat)(m:List (Key × Value)):Prop where
 same:es.map kvE=m
 born:(es.map (·.2.2)).Nodup
 lt:∀ x∈es,x.2.2 < ck
 keys:(m.map (·.1)).Nodup
theorem MapV.nil(ck:Nat):MapV [] ck []:=⟨rfl,by simp,by simp,by simp⟩
theorem MapV.len{es:List EntK}{ck:Nat}{m:List (Key × Value)}(h:MapV es ck m):es.length=m.length:=by rw[←h.same];simp
theorem get_kv(k:Key):∀ es:List EntK,entGet es k=getV (es.map kvE) k
 | []=>rfl
 | x :: r=>by
  have ih:=get_kv k r
  unfold getV entGet at *
  rw[List.map_cons,List.find?_cons,List.find?_cons]
  by_cases h:k=x.1
  ·simp[h,kvE]
  ·simp[h,kvE]at ih ⊢;exact ih
theorem MapV.get{es:List EntK}{ck:Nat}{m:List (Key × Value)}(h:MapV es ck m)(k:Key):entGet es k=getV m k:=by rw[get_kv,h.same]
theorem put_kv(k:Key)(v:Value)(n:Nat):∀ es:List EntK,(entPut es k v n).map kvE=putV (es.map kvE) k v
 | []=>rfl
 | x :: r=>by
  unfold entPut
  rw[List.map_cons,putV]
  by_cases h:k=x.1
  ·rw[if_pos h,if_pos (show k=(kvE x).1 from h),List.map_cons];rfl
  ·rw[if_neg h,if_neg (show ¬ k=(kvE x).1 from h),List.map_cons,put_kv k v n r]
theorem getK_cons(x:EntK)(r:List EntK)(k:Key):entGet (x :: r) k=if k=x.1 then some x.2.1 else entGet r k:=by
 by_cases h:k=x.1 <;> simp[entGet,h]
theorem putK_born(k:Key)(v:Value)(n:Nat):∀ es:List EntK,(entPut es k v n).map (·.2.2)=if (entGet es k).isSome then es.map (·.2.2)else es.map (·.2.2)++[n]
 | []=>rfl
 | x :: r=>by
  unfold entPut
  rw[getK_cons]
  by_cases h:k=x.1
  ·rw[if_pos h,if_pos h];simp
  ·rw[if_neg h,if_neg h,List.map_cons,putK_born k v n r]
   cases (entGet r k).isSome <;> simp
theorem putV_keys(k:Key)(v:Value):∀ m:List (Key × Value),(putV m k v).map (·.1)=if k∈m.map (·.1)then m.map (·.1)else m.map (·.1)++[k]
 | []=>rfl
 | x :: r=>by
  rw[putV]
  by_cases h:k=x.1
  ·rw[if_pos h,if_pos (by simp[h])];simp[h]
  ·rw[if_neg h,List.map_cons,putV_keys k v r]
   by_cases h2:k∈r.map (·.1)
   ·rw[if_pos h2,if_pos (by rw[List.map_cons];exact List.mem_cons_of_mem _ h2)];rfl
   ·rw[if_neg h2,if_neg (by rw[List.map_cons,List.mem_cons];exact fun e=>e.elim h h2)];rfl
theorem MapV.put{es:List EntK}{ck:Nat}{m:List (Key × Value)}(h:MapV es ck m)(k:Key)(v:Value):MapV (entPut es k v ck) (if (entGet es k).isSome then ck else ck+1) (putV m k v):=by
 have hb:=putK_born k v ck es
 refine⟨by rw[put_kv,h.same],?_,?_,?_⟩
 ·rw[hb]
  split
  ·exact h.born
  ·rw[List.nodup_append]
   refine⟨h.born,by simp,fun a ha b hb e=>?_⟩
   obtain⟨x,hx,e1⟩:=List.mem_map.1 ha
   have:=h.lt x hx
   simp at hb;omega
 ·intro x hx
  have hm:x.2.2∈(entPut es k v ck).map (·.2.2):=List.mem_map.2 ⟨x,hx,rfl⟩
  rw[hb]at hm
  split at hm
  ·rename_i hs
   rw[if_pos hs]
   obtain⟨y,hy,e⟩:=List.mem_map.1 hm
   rw[←e];exact h.lt y hy
  ·rename_i hs
   rw[if_neg hs]
   rcases List.mem_append.1 hm with hm | hm
   ·obtain⟨y,hy,e⟩:=List.mem_map.1 hm
    have:=h.lt y hy;omega
   ·simp at hm;omega
 ·rw[putV_keys]
  split
  ·exact h.keys
  ·rename_i hn
   rw[List.nodup_append]
   exact⟨h.keys,by simp,fun a ha b hb e=>by simp at hb;subst hb;subst e;exact hn ha⟩
structure It where
 text:ByteArray
 refs:List ByteArray
 used:Int
 held:Int
abbrev Nd5:=Key × Nat × It
theorem Tryz.uMapIt:Tryz.prog.underlying 109=some (.map 9 114):=by kernel_rfl
theorem Tryz.zeroIt(w:World):(zeroValue 114).run Tryz.prog w=.ok (.pointer none) w:=by kernel_rfl
structure ItemAt(W:World)(b:Nat)(it:It):Prop where
 cells:∃ rv,Blk W b (.cells #[.string it.text,rv,.int .i64 it.used,.int .i64 it.held] 118)∧W.ownsRow 0 9 1 rv it.refs.length (it.refs.map Value.string)
def NoRow(W:World)(F:BSet):Prop:=∀ b cur fz,F b→¬ Blk W b (.cells cur 9 fz)
theorem NoRow.none(W:World):NoRow W (fun _=>False):=fun _ _ _ h=>h.elim
theorem row_keeps{W W':World}{F:BSet}{v:Value}{n:Nat}{xs:List Value}(h:W.ownsRow 0 9 1 v n xs)(k:Keeps F W W')(hF:NoRow W F):W'.ownsRow 0 9 1 v n xs:=by
 refine own_keeps h k fun b hb hf=>?_
 obtain⟨_,⟨h1,_⟩ |⟨g,cap,cur,h1,_,h3,_⟩⟩:=h
 ·rw[h1]at hb;cases hb
 ·rw[h1]at hb
  have e:some g=some b:=hb
  obtain rfl:=Option.some.inj e
  exact hF g cur (0,0) hf h3
theorem ItemAt.keeps{W W':World}{F:BSet}{b:Nat}{it:It}(h:ItemAt W b it)(k:Keeps F W W')(hb:¬ F b)(hF:NoRow W F):ItemAt W' b it:=by
 obtain⟨rv,h1,h2⟩:=h.cells
 exact⟨rv,h1.keeps k hb,row_keeps h2 k hF⟩
theorem ItemAt.lt{W:World}{b:Nat}{it:It}(h:ItemAt W b it):b < W.heap.size:=by obtain⟨rv,h1,_⟩:=h.cells;exact h1.lt
def kvN(x:Nd5):Key × Value:=(x.1,.pointer (some ⟨x.2.1,0,none⟩))
structure MapAt(W:World)(bm:Nat)(L:List Nd5):Prop where
 mp:∃ es ck,Blk W bm (.map (Tryz.ES.arr es) ck)∧MapV es ck (L.map kvN)
 blks:(L.map (·.2.1)).Nodup
 items:∀ x∈L,ItemAt W x.2.1 x.2.2
theorem MapAt.keeps{W W':World}{F:BSet}{bm:Nat}{L:List Nd5}(h:MapAt W bm L)(k:Keeps F W W')(hm:¬ F bm)(hL:∀ x∈L,¬ F x.2.1)(hF:NoRow W F):MapAt W' bm L:=by
 obtain⟨es,ck,h1,h2⟩:=h.mp
 exact⟨⟨es,ck,h1.keeps k hm,h2⟩,h.blks,fun x hx=>(h.items x hx).keeps k (hL x hx) hF⟩
theorem MapAt.ext{W W':World}{bm:Nat}{L:List Nd5}(h:MapAt W bm L)(k:Ext W W'):MapAt W' bm L:=h.keeps k (fun h=>h) (fun _ _ h=>h) (NoRow.none W)
def atL(L:List Nd5)(k:Key):Option Nd5:=L.find? fun x=>decide (k=x.1)
theorem get_at(k:Key):∀ L:List Nd5,getV (L.map kvN) k=(atL L k).map fun x=>.pointer (some ⟨x.2.1,0,none⟩)
 | []=>rfl
 | x :: r=>by
  have ih:=get_at k r
  unfold getV atL at *
  rw[List.map_cons,List.find?_cons,List.find?_cons]
  by_cases h:k=x.1
  ·simp[h,kvN]
  ·simp[h,kvN]at ih ⊢;exact ih
theorem atL_mem{L:List Nd5}{k:Key}{x:Nd5}(h:atL L k=some x):x∈L∧x.1=k:=by
 unfold atL at h
 have h2:=List.find?_some h
 exact⟨List.mem_of_find?_eq_some h,(of_decide_eq_true h2).symm⟩
def ptrO(o:Option Nd5):Value:=match o with | some x=>.pointer (some ⟨x.2.1,0,none⟩) | none=>.pointer none
theorem MapAt.look{W:World}{bm:Nat}{L:List Nd5}(h:MapAt W bm L)(k:ByteArray)(ok:Bool) :
  (Instr.lookup 109 (.map (some bm)) (.string k) ok).run Tryz.prog W=.ok (if ok then .tuple #[ptrO (atL L k.data.toList),.bool (atL L k.data.toList).isSome]else ptrO (atL L k.data.toList)) W:=by
 obtain⟨es,ck,h1,h2⟩:=h.mp
 have:=run_lookup Tryz.ES Tryz.uMapIt h1 (Tryz.zeroIt W) k.data.toList ok
 rw[h2.get,get_at]at this
 cases ha:atL L k.data.toList with
 | none=>rw[ha]at this;exact this
 | some x=>rw[ha]at this;exact this
structure StoreAt(W:World)(s bm:Nat)(room:Int)(L:List Nd5):Prop where
 st:Blk W s (.cells #[.int .i64 room,.map (some bm)] 116)
 mp:MapAt W bm L
theorem StoreAt.ext{W W':World}{s bm:Nat}{room:Int}{L:List Nd5}(h:StoreAt W s bm room L)(k:Ext W W'):StoreAt W' s bm room L:=⟨h.st.keeps k (fun h=>h),h.mp.ext k⟩
theorem sget_c(w:World)(s bm:Nat)(room:Int)(L:List Nd5)(k:ByteArray)(h:StoreAt w s bm room L):Calls Tryz.prog 29 #[.pointer (some ⟨s,0,none⟩),.string k] w fun e w'=>e=.returned (optV ((atL L k.data.toList).map (·.2.2.text)))∧Ext w w':=by
 have q1:=h.st.cell (i:=1) (v:=.map (some bm)) (by rfl)
 have hlk:=h.mp.look k true
 have HI:=Hd h.mp.items
 simp only[if_true]at hlk
 clear h
 cases ha:atL L k.data.toList with
 | none =>
  rw[ha]at hlk
  unfold ptrO at hlk
  simp only[Option.isSome]at hlk
  clear ha
  go_enter Tryz.func29,Tryz.ntmps29
  go_wp2_with fail
  go_ret2
  exact⟨rfl,ExtR w⟩
 | some x =>
  rw[ha]at hlk
  obtain⟨rv,hB,_⟩:=(HI.out x (atL_mem ha).1).cells
  have q2:=hB.cell (i:=0) (v:=.string x.2.2.text) (by rfl)
  unfold ptrO at hlk
  simp only[Option.isSome]at hlk
  clear ha hB
  go_enter Tryz.func29,Tryz.ntmps29
  go_wp2_with fail
  go_ret2
  exact⟨rfl,ExtR w⟩
def heldO(o:Option Nd5):Int:=match o with | some x=>x.2.2.held | none=>0
end
section
open Go Go.RowKit
attribute [local go_sem] Oper.semAt_some
theorem Tryz.infoS1:(Tryz.prog.info? 9).map (fun i=>(i.zero,i.size,i.bytes))=some (some (.string ⟨#[]⟩),1,16):=by kernel_rfl
theorem MapV.lenL{es:List EntK}{ck:Nat}{L:List Nd5}(h:MapV es ck (L.map kvN)):es.length=L.length:=by rw[h.len];simp
theorem sroom_c(w:World)(s bm:Nat)(room:Int)(L:List Nd5)(h:StoreAt w s bm room L)(h0:0≤room)(h1:room≤9223372036854775807)(hl:L.length≤1000000):Calls Tryz.prog 74 #[.pointer (some ⟨s,0,none⟩)] w fun e w'=>e=.returned (.int .i64 (room - L.length))∧Ext w w':=by
 have Q1:=Hd (h.st.cell (i:=1) (v:=.map (some bm)) (by rfl))
 have Q0:=Hd (h.st.cell (i:=0) (v:=.int .i64 room) (by rfl))
 obtain⟨es,ck,hm,hmv⟩:=h.mp.mp
 have HM:=Hd hm
 obtain⟨n,hn⟩:∃ n,n=L.length:=⟨_,rfl⟩
 have hel:es.length=n:=by rw[hmv.lenL,hn]
 have HEL:=Hd hel
 rw[←hn]at hl ⊢
 clear h hm hmv hel hn
 go_enter Tryz.func74,Tryz.ntmps74
 go_wp2_with fail
 refine wp_region_mixK [0,1,2,3,4,5,6,7,8,9,10] Ext ExtR ExtT (by kernel_rfl) (by kernel_rfl) (by kernel_rfl) ?_
 (refine mixk_pure _ rfl (by kernel_rfl) rfl rfl (fun K hK=>?_);go_big_quiet_op;refine hK _ ?_;clear hK K)
 refine mixk_val _ (.pointer (some ⟨s,0,none⟩)) rfl (by kernel_rfl) rfl (fun w1 _=>by kernel_rfl) ?_
 simp only[Act.put,sA,sB,sC]
 (refine mixk_pure _ rfl (by kernel_rfl) rfl rfl (fun K hK=>?_);go_big_quiet_op;refine hK _ ?_;clear hK K)
 refine mixk_load ⟨s,0,none⟩ _ rfl (by kernel_rfl) rfl rfl (fun w1 h1=>run_load_plain Tryz.underlying3 rfl (cell_ext Q0.out ((drewE _).trans h1))) ?_
 simp only[Act.put,sA,sB,sC]
 (refine mixk_pure _ rfl (by kernel_rfl) rfl rfl (fun K hK=>?_);go_big_quiet_op;refine hK _ ?_;clear hK K)
 refine mixk_val _ (.pointer (some ⟨s,0,none⟩)) rfl (by kernel_rfl) rfl (fun w1 _=>by kernel_rfl) ?_
 simp only[Act.put,sA,sB,sC]
 (refine mixk_pure _ rfl (by kernel_rfl) rfl rfl (fun K hK=>?_);go_big_quiet_op;refine hK _ ?_;clear hK K)
 refine mixk_load ⟨s,1,none⟩ _ rfl (by kernel_rfl) rfl rfl (fun w1 h1=>run_load_plain Tryz.underlying109 rfl (cell_ext Q1.out ((drewE _).trans h1))) ?_
 simp only[Act.put,sA,sB,sC]
 refine mixk_val _ (.int .i64 es.length) rfl (by kernel_rfl) rfl (fun w1 h1=>by
  have hx:=run_len_map Tryz.ES Tryz.uMapIt (HM.out.keeps ((drewE _).trans h1) (fun h=>h)) 3
  simp[execOp,Act.eval,resolve,invoke,builtin,hx,Sem.run_bind,Result.andThen,Sem.run_pure]) ?_
 simp only[Act.put,sA,sB,sC]
 rw[HEL.out]
 iterate 2 (refine mixk_pure _ rfl (by kernel_rfl) rfl rfl (fun K hK=>?_);go_big_quiet_op;refine hK _ ?_;clear hK K)
 refine mixk_end (by kernel_rfl) (fun w3 he=>?_)
 have HE:=Hd ((drewE _).trans he)
 clear he
 go_wp2_with fail
 go_ret
 exact⟨rfl,HE.out⟩
theorem Tryz.makeMapIt(W:World):(Instr.makeMap 109 none).run Tryz.prog W=.ok (.map (some W.heap.size)) (W.alloc (.map #[] 0)):=by kernel_rfl
theorem snew_c(w:World)(room:Int):Calls Tryz.prog 41 #[.int .i64 room] w fun e w'=>∃ s bm,e=.returned (.pointer (some ⟨s,0,none⟩))∧Ext w w'∧StoreAt w' s bm (max room 0) []∧w.heap.size≤bm∧w.heap.size≤s∧s≠bm:=by
 have hmm:=Tryz.makeMapIt
 go_enter Tryz.func41,Tryz.ntmps41
 go_wp2_with fail
 go_ret
 refine⟨_,_,rfl,((ExtR w).alloc _).alloc _,⟨?_,⟨[],0,?_,MapV.nil 0⟩,by simp,fun x hx=>by cases hx⟩,Nat.le_refl _,Nat.le_succ _,by omega⟩
 ·exact (by simpa using Blk.new (w.alloc (.map #[] 0)) (.cells #[.int .i64 (max room 0),.map (some w.heap.size)] 116))
 ·exact (Blk.new w (.map #[] 0)).alloc _
def slN(v:Value):Nat:=match v with | .slice _ n _=>n | _=>0
def bornK(s:List EntK):Array Nat:=(s.map (·.2.2)).toArray
def keyS(s:List EntK):List Value:=(s.map (·.1)).map encStr
structure HaS(w:World)(r bm ck:Nat)(es s:List EntK)(v:Value)(W:World):Prop where
 row:ORow 9 1 w W v s.length (keyS s)
 it:Blk W r (.mapIter (some bm) ck (bornK s) ck)
 sub:∀ x∈s,x∈es
 nd:(s.map (·.2.2)).Nodup
 ne:∀ b,v.ownBlock=some b→b≠r
theorem nodup_of{α β:Type}(f:α→β):∀ {l:List α},(l.map f).Nodup→l.Nodup
 | [],_=>List.nodup_nil
 | x :: r,h=>by
  rw[List.map_cons,List.nodup_cons]at h
  exact List.nodup_cons.2 ⟨fun hx=>h.1 (List.mem_map.2 ⟨x,hx,rfl⟩),nodup_of f h.2⟩
theorem HaS.len{w:World}{r bm ck:Nat}{es s:List EntK}{v:Value}{W:World}(h:HaS w r bm ck es s v W):s.length≤es.length:=
 List.Nodup.length_le_of_subset (nodup_of _ h.nd) (fun x hx=>h.sub x hx)
theorem HaS.done{w:World}{r bm ck:Nat}{es s:List EntK}{v:Value}{W:World}(h:HaS w r bm ck es s v W)(h0:entLeft es (bornK s)=[])(hb:(es.map (·.2.2)).Nodup):s.Perm es:=by
 refine (List.perm_ext_iff_of_nodup (nodup_of _ h.nd) (nodup_of _ hb)).2 fun x=>⟨fun hx=>h.sub x hx,fun hx=>?_⟩
 by_cases hc:x.2.2∈s.map (·.2.2)
 ·obtain⟨y,hy,e⟩:=List.mem_map.1 hc
  have:y=x:=nodup_map_inj hb (h.sub y hy) hx e
  exact this ▸ hy
 ·have:x∈entLeft es (bornK s):=List.mem_filter.2 ⟨hx,by unfold bornK;simpa using hc⟩
  rw[h0]at this;cases this
theorem MapV.keysL{es:List EntK}{ck:Nat}{L:List Nd5}(h:MapV es ck (L.map kvN)):es.map (·.1)=L.map (·.1):=by
 have:=congrArg (List.map Prod.fst) h.same
 rw[List.map_map,List.map_map]at this
 exact this
def HaRel(w:World)(r bm ck:Nat)(es:List EntK)(v:Value)(W:World):Prop:=∃ s,HaS w r bm ck es s v W
end
section
open Go Go.RowKit
noncomputable def itOf(t:ByteArray):It:=⟨t,hashesT (nodeOf t),0,0⟩
noncomputable def ky(t:ByteArray):Key:=(shaB t).data.toList
noncomputable def addG(m:List (Key × It))(t:ByteArray):List (Key × It):=if m.any (fun x=>decide (ky t=x.1))then m else m++[(ky t,itOf t)]
noncomputable def readG(L:List ByteArray):List (Key × It):=L.foldl addG []
def kvI(x:Nd5):Key × It:=(x.1,x.2.2)
theorem atL_none{L:List Nd5}{k:Key}:atL L k=none↔∀ x∈L,k≠x.1:=by
 unfold atL;rw[List.find?_eq_none];simp
theorem atL_any{L:List Nd5}{k:Key}:(L.map kvI).any (fun x=>decide (k=x.1))=(atL L k).isSome:=by
 rw[List.any_map]
 unfold atL
 rw[List.isSome_find?]
 rfl
theorem entPut_none(k:Key)(v:Value)(n:Nat):∀ es:List EntK,entGet es k=none→entPut es k v n=es++[(k,v,n)]
 | [],_=>rfl
 | x :: r,h=>by
  rw[getK_cons]at h
  unfold entPut
  by_cases hk:k=x.1
  ·rw[if_pos hk]at h;cases h
  ·rw[if_neg hk]at h ⊢
   rw[entPut_none k v n r h];rfl
theorem MapAt.put{W:World}{bm:Nat}{L:List Nd5}(h:MapAt W bm L)(k:ByteArray)(hk:atL L k.data.toList=none){b:Nat}{it:It}(hb:ItemAt W b it)(hn:∀ x∈L,x.2.1≠b) :
  ∃ o,(Instr.mapUpdate 109 (.map (some bm)) (.string k) (.pointer (some ⟨b,0,none⟩))).run Tryz.prog W=.ok () (W.putObj bm o)∧MapAt (W.putObj bm o) bm (L++[(k.data.toList,b,it)]):=by
 obtain⟨es,ck,h1,h2⟩:=h.mp
 have hg:entGet es k.data.toList=none:=by rw[h2.get,get_at,hk];rfl
 have hmu:=run_mapUpdate Tryz.ES Tryz.uMapIt h1 k.data.toList (.pointer (some ⟨b,0,none⟩))
 have hp:=h2.put k.data.toList (.pointer (some ⟨b,0,none⟩))
 rw[hg]at hmu hp
 simp only[Option.isSome_none,Bool.false_eq_true,if_false]at hmu hp
 have hK:Keeps (fun z=>z=bm) W (W.putObj bm (.map (Tryz.ES.arr (entPut es k.data.toList (.pointer (some ⟨b,0,none⟩)) ck)) (ck+1))):=Keeps.onePut W bm _
 have hN:NoRow W (fun z=>z=bm):=fun z cur fz e hz=>by
  have e:z=bm:=e
  subst e
  have:=h1.uniq hz;cases this
 have hne:∀ {c:Nat} {i:It},ItemAt W c i→¬ c=bm:=fun hi e=>by
  obtain⟨_,hc,_⟩:=hi.cells
  subst e
  have:=h1.uniq hc;cases this
 refine⟨_,hmu,⟨_,_,h1.put_same _,?_⟩,?_,?_⟩
 ·have e:putV (L.map kvN) k.data.toList (.pointer (some ⟨b,0,none⟩))=(L++[(k.data.toList,b,it)]).map kvN:=by
   rw[List.map_append, ←h2.same, ←put_kv,entPut_none _ _ ck _ hg,List.map_append];rfl
  rw[←e];exact hp
 ·rw[List.map_append,List.nodup_append]
  exact⟨h.blks,by simp,fun a ha c hc e=>by
   simp at hc;subst hc;subst e
   obtain⟨x,hx,e⟩:=List.mem_map.1 ha
   exact hn x hx e⟩
 ·intro x hx
  rcases List.mem_append.1 hx with hx | hx
  ·exact (h.items x hx).keeps hK (hne (h.items x hx)) hN
  ·simp only[List.mem_singleton]at hx
   subst hx
   exact hb.keeps hK (hne hb) hN
structure ReS(w:World)(bg:Nat)(G:List Nd5)(T:List ByteArray)(W:World):Prop where
 ext:Ext w W
 at':MapAt W bg G
 is:G.map kvI=readG T
 new:w.heap.size≤bg
 news:∀ x∈G,w.heap.size≤x.2.1
theorem ReS.keeps{w:World}{bg:Nat}{G:List Nd5}{T:List ByteArray}{W W':World}(h:ReS w bg G T W)(e:Ext W W'):ReS w bg G T W':=⟨h.ext.trans e,h.at'.ext e,h.is,h.new,h.news⟩
theorem readG_step{L:List ByteArray}{i:Nat}{t:ByteArray}(h:L[i]?=some t):readG (L.take (i+1))=addG (readG (L.take i)) t:=by
 unfold readG;rw[List.take_add_one,h,List.foldl_append];rfl
end
section
open Go Go.RowKit
attribute [local go_sem] Oper.semAt_some
def frK(S:List Nd5)(M:List ByteArray):List ByteArray:=(firsts M).filter fun y=>(atL S y.data.toList).isNone
structure Meet(w0:World)(s:Nat)(S:List Nd5)(bg b:Nat)(M:List ByteArray)(W:World):Prop where
 ext:Ext w0 W
 lo:w0.heap.size≤b
 c3:Blk W b (.cells #[.pointer (some ⟨s,0,none⟩)] 24)
 c5:Blk W (b+1) (.cells #[.map (some bg)] 109)
 c9:Blk W (b+4) (.cells #[.map (some (b+3))] 101)
 tab:∃ es ck,Blk W (b+3) (.map (Tryz.ES.arr es) ck)∧∀ y:ByteArray,entGet es y.data.toList=cntV (cntB M y)
 var:∃ v n,Blk W (b+2) (.cells #[v] 34)∧W.ownsRow 0 9 1 v n ((frK S M).map Value.string)∧n≤M.length∧∀ z,v.ownBlock=some z→b+5≤z
theorem Meet.keeps{w0:World}{s:Nat}{S:List Nd5}{bg b:Nat}{M:List ByteArray}{W W':World}(h:Meet w0 s S bg b M W)(e:Ext W W'):Meet w0 s S bg b M W':=by
 obtain⟨es,ck,h1,h2⟩:=h.tab
 obtain⟨v,n,h3,h4,h5,h6⟩:=h.var
 exact⟨h.ext.trans e,h.lo,h.c3.keeps e (fun g=>g),h.c5.keeps e (fun g=>g),h.c9.keeps e (fun g=>g),⟨es,ck,h1.keeps e (fun g=>g),h2⟩,v,n,h3.keeps e (fun g=>g),own_ext h4 e,h5,h6⟩
theorem frK_step(S:List Nd5)(M:List ByteArray)(x:ByteArray):frK S (M++[x])=if memB (firsts M) x=true then frK S M else if (atL S x.data.toList).isNone then frK S M++[x]else frK S M:=by
 unfold frK
 rw[firsts_snoc]
 unfold addF
 split
 ·rfl
 ·rw[List.filter_append]
  split
  ·rename_i h;rw[List.filter_cons_of_pos (by simpa using h)];rfl
  ·rename_i h;rw[List.filter_cons_of_neg (by simpa using h)];simp
theorem cntB_snoc(M:List ByteArray)(x y:ByteArray):cntB (M++[x]) y=cntB M y+(if x.data.toList=y.data.toList then 1 else 0):=by
 unfold cntB
 rw[List.map_append,List.count_append,List.map_cons,List.map_nil,List.count_singleton]
 simp
end
end Go.Proofs.YtpaacnhboilkkaaGreatDoor
