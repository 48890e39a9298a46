/- Lemmas; each is under no condition but those that it states. -/
import Derived.Test.YtnkdaacmpceghaaGreatDoorPa15
import Derived.Test.YtnkdaacmpceghaaGreatDoorPa16
import Derived.Sort.OwnSorted
namespace Go.Proofs.YtnkdaacmpceghaaGreatDoor
set_option linter.unusedSimpArgs false
set_option linter.unusedVariables false
set_option maxRecDepth 100000
set_option maxHeartbeats 16000000
open Go Go.RowKit
variable (w:vW)(l:List (vN)){a b ks:List (vN)}{es:List EntS}{ck n:Nat}{m xs:vL}{v:vV}
section
attribute [local go_sem] Oper.semAt_some
def jdo(l:List (vN)):List (vN):=l.mergeSort fun x y=>decide (x<=y)
def baL(l:List (vN)):vM:=l.map fun x=>⟨x.toArray⟩
theorem jfS:(jdo l).length=l.length:=by simp[jdo]
theorem jiW(h:a.Perm b):jdo a=jdo b:=by
 have A:∀ a b c:vN,decide (a<=b)=true->decide (b<=c)=true->decide (a<=c)=true:=fun a b c e q=>by simp only[decide_eq_true_eq]at *;exact List.le_trans e q
 have to:∀ a b:vN,(decide (a<=b) || decide (b<=a))=true:=fun a b=>by simp only[Bool.or_eq_true,decide_eq_true_eq];exact List.le_total a b
 refine List.Perm.eq_of_pairwise (le:=fun x y=>decide (x<=y)=true) (fun x y _ _ e q=>by simp only[decide_eq_true_eq]at e q;exact List.le_antisymm e q) (List.pairwise_mergeSort A to a) (List.pairwise_mergeSort A to b) ?_;exact (iE a _).trans (h.trans (iE b _).symm)
theorem jo6:(baL l).map Value.string=l.map encStr:=by
 unfold baL;rw[cW];rfl
theorem juQ{w0 w:vW}(h:ORow 9 1 w0 w v n (ks.map encStr))(hn:n<=1000000) :
  vQ 63 #[v] w fun e w'=>e=.returned (.tuple #[])/\ORow 9 1 w0 w' v n ((jdo ks).map encStr):=by
 have A:ks.length=n:=by have:=h.len;simpa using this
 rcases h.own.2 with⟨e0,_⟩ |⟨g,cap,cur,e0,h3,h4,h5,h6,h7,h8⟩
 ·subst e0
  obtain⟨a,c,e⟩:=h.sl
  injection e with e1 e2 e3;subst e2
  have:ks=[]:=bO A
  subst this;refine (Tryz.slices_Sort_string_none none 0 w).mono ?_;rintro e w' ⟨rfl,rfl⟩
  exact⟨rfl,by simpa [jdo]using h⟩
 ·subst e0
  subst A;refine (Tryz.slices_Sort_string g 0 cap ks w (holds_of_block h4 (by simpa using h8)) (cX.1 h4).1 vO).mono ?_;rintro e w' ⟨rfl,q,J,rfl⟩
  refine⟨rfl,⟨_,_,rfl⟩,ownsRow_sorted (jfS ks) (cB _) h4 h5 h6 h7,?_,h.new⟩
  exact h.ext.trans' (jac.of_grown (F:=fun b=>b=g) (grownBy_sorted _) (fun r H _=>by cases H;rfl)) (fun x K e=>by have:=h.new g rfl;omega)
theorem jtn(s:List EntS):(s.map keyB).map Value.string=(s.map (·.1)).map encStr:=by
 rw[cW,cW];rfl
theorem jpH(bx bm ck:Nat)(es:List EntS)(hk:KyS bx bm ck es w)(hnd:(es.map (·.2.2)).Nodup)(hlt:∀ x∈es,x.2.2 < ck)(hlen:es.length<=1000000) :
  vQ 171 #[.func (.func 172) #[] #[.pointer (some ⟨bx,0,none⟩)]] w fun e w'=>∃ u s,e=.returned u/\InvS es s/\jnx es s/\SRow w w' u s.length (s.map keyB):=by
 have A:=Hd (jsf w bx bm ck es hk hnd hlt hlen);clear hk hnd hlt hlen;go_enter Tryz.func171,Tryz.ntmps171;go_wp2_with fail
 refine A.o.mono ?_;rintro e w1 ⟨u,s,rfl,J,K,q⟩
 obtain⟨a,c,rfl⟩:=q.sl
 have H:=Hd (bA J (bA K q));clear J K q A;go_wp2_with fail
 go_ret
 exact⟨_,s,rfl,H.o⟩
theorem jue(bx bm ck:Nat)(es:List EntS)(hk:KyS bx bm ck es w)(hnd:(es.map (·.2.2)).Nodup)(hkn:(es.map (·.1)).Nodup)(hlt:∀ x∈es,x.2.2 < ck)(hlen:es.length<=1000000) :
  vQ 127 #[.func (.func 172) #[] #[.pointer (some ⟨bx,0,none⟩)]] w fun e w'=>∃ u,e=.returned u/\SRow w w' u es.length (baL (jdo (es.map (·.1)))):=by
 have HT:=Hd (jpH w bx bm ck es hk hnd hlt hlen);have HP:=Hd (fun s (K:InvS es s) (O:jnx es s)=>K.perm O hnd hkn);have HL:=Hd hlen;clear hk hnd hlt hlen hkn;go_enter Tryz.func127,Tryz.ntmps127;go_wp2_with fail
 refine HT.o.mono ?_;rintro e w1 ⟨u,s,rfl,K,O,Z⟩
 obtain⟨a,c,rfl⟩:=Z.sl
 have hp:=HP.o s K O;have A:s.length=es.length:=by simpa using hp.length_eq
 have J:ORow 9 1 w w1 (.slice a s.length c) s.length ((s.map (·.1)).map encStr):=by
  have q:=Z;unfold SRow at q;rw[jtn]at q;exact q
 have X:=Hd (juQ J (by have:=HL.o;omega));rw[jiW hp]at X;rw[A]at X ⊢;clear K O Z J HT HP hp A;go_wp2_with fail
 refine X.o.mono ?_;rintro e w2 ⟨rfl,q⟩;have H:=Hd q;clear q X;go_wp2_with fail
 go_ret
 refine⟨_,rfl,?_⟩
 unfold SRow;rw[jo6];exact H.o
theorem jqK(bm:Nat):vQ 128 #[.map (some bm)] w fun e w'=>e=.returned (.func (.func 172) #[] #[.pointer (some ⟨w.heap.size,0,none⟩)])/\Blk w' w.heap.size (.cells #[.map (some bm)] 233)/\Ext w w':=by
 unfold vQ;go_in;go_wp2_with fail
 go_ret
 exact⟨rfl,Blk.new w _,(ExtR w).alloc _⟩
end
def putM:vL->Pair->vL
 | [],p=>[p]
 | q :: r,p=>if p.k=q.k then p :: r else q :: putM r p
def delM:vL->vB->vL
 | [],_=>[]
 | q :: r,k=>if k.data.toList=q.k then r else q :: delM r k
def valM(m:vL)(k:vN):vB:=((m.find? (fun p=>decide (k=p.k))).map (·.2)).getD ⟨#[]⟩
def jbV(m:vL):vL:=(jdo (m.map Pair.k)).map fun k=>(⟨k.toArray⟩,valM m k)
def eKV(x:EntS):vN × vV:=(x.1,x.2.1)
def pKV(p:Pair):vN × vV:=(p.k,Pair.V p)
structure MapR(es:List EntS)(ck:Nat)(m:vL):Prop where
 same:es.map eKV=m.map pKV
 born:(es.map (·.2.2)).Nodup
 lt:∀ x∈es,x.2.2 < ck
 keys:(es.map (·.1)).Nodup
theorem MapR.nil(ck:Nat):MapR [] ck []:=⟨rfl,by simp,by simp,by simp⟩
theorem MapR.keysEq(h:MapR es ck m):es.map (·.1)=m.map Pair.k:=by
 have:=congrArg (List.map Prod.fst) h.same
 rw[cW,cW]at this;exact this
theorem MapR.len(h:MapR es ck m):es.length=m.length:=by
 have:=congrArg List.length h.same;simpa using this
theorem put_same(p:Pair)(n:Nat):∀ (es:List EntS) (m:vL),es.map eKV=m.map pKV->(jba es p.k (Pair.V p) n).map eKV=(putM m p).map pKV
 | [],[],_=>rfl
 | [],_ :: _,h=>by cases h
 | _ :: _,[],h=>by cases h
 | x :: r,q :: s,h=>by
  rw[bN,bN]at h;injection h with h1 h2;have e:x.1=q.k:=congrArg Prod.fst h1;unfold jba putM;rw[<-e]
  by_cases hp:p.k=x.1
  ·rw[if_pos hp,if_pos hp,bN,bN,h2];rfl
  ·rw[if_neg hp,if_neg hp,bN,bN,put_same p n r s h2,h1]
theorem jmo(k:vB):∀ (es:List EntS) (m:vL),es.map eKV=m.map pKV->(jbS es k.data.toList).map eKV=(delM m k).map pKV
 | [],[],_=>rfl
 | [],_ :: _,h=>by cases h
 | _ :: _,[],h=>by cases h
 | x :: r,q :: s,h=>by
  rw[bN,bN]at h;injection h with h1 h2;have e:x.1=q.k:=congrArg Prod.fst h1;unfold jbS delM;rw[<-e]
  by_cases hp:k.data.toList=x.1
  ·rw[if_pos hp,if_pos hp,h2]
  ·rw[if_neg hp,if_neg hp,bN,bN,jmo k r s h2,h1]
theorem jgZ(x:EntS)(r:List EntS)(k:vN):jay (x :: r) k=if k=x.1 then some x.2.1 else jay r k:=by
 by_cases h:k=x.1 <;> simp[jay,h]
theorem jm8(k:vN)(v:vV)(n:Nat):∀ es:List EntS,(jba es k v n).map (·.2.2)=if (jay es k).isSome then es.map (·.2.2)else es.map (·.2.2)++[n]
 | []=>rfl
 | x :: r=>by
  unfold jba;rw[jgZ]
  by_cases h:k=x.1
  ·rw[if_pos h,if_pos h];simp
  ·rw[if_neg h,if_neg h,bN,jm8 k v n r]
   cases (jay r k).isSome <;> simp
theorem jm9(k:vN)(v:vV)(n:Nat):∀ es:List EntS,(jba es k v n).map (·.1)=if (jay es k).isSome then es.map (·.1)else es.map (·.1)++[k]
 | []=>rfl
 | x :: r=>by
  unfold jba;rw[jgZ]
  by_cases h:k=x.1
  ·rw[if_pos h,if_pos h];simp[h]
  ·rw[if_neg h,if_neg h,bN,jm9 k v n r]
   cases (jay r k).isSome <;> simp
theorem jmC(k:vN):∀ es:List EntS,(jay es k).isSome=false->k ∉ es.map (·.1)
 | [],_=>by simp
 | x :: r,h=>by
  rw[jgZ]at h
  by_cases hk:k=x.1
  ·rw[if_pos hk]at h;cases h
  ·rw[if_neg hk]at h
   have:=jmC k r h
   simp only[bN,bZ,not_or]
   exact⟨hk,this⟩
theorem MapR.put(h:MapR es ck m)(p:Pair):MapR (jba es p.k (Pair.V p) ck) (if (jay es p.k).isSome then ck else ck+1) (putM m p):=by
 have hb:=jm8 p.k (Pair.V p) ck es;have K:=jm9 p.k (Pair.V p) ck es
 refine⟨put_same p ck es m h.same,?_,?_,?_⟩
 ·rw[hb]
  split
  ·exact h.born
  ·rw[dR]
   refine⟨h.born,by simp,fun a A b hb e=>?_⟩
   obtain⟨x,H,X⟩:=bD.1 A
   have:=h.lt x H
   simp at hb;omega
 ·intro x H
  have q:x.2.2∈(jba es p.k (Pair.V p) ck).map (·.2.2):=bD.2 ⟨x,H,rfl⟩;rw[hb]at q;split at q
  ·rename_i hs
   rw[if_pos hs]
   obtain⟨y,J,e⟩:=bD.1 q
   rw[<-e];exact h.lt y J
  ·rename_i hs
   rw[if_neg hs];rcases bQ.1 q with q | q
   ·obtain⟨y,J,e⟩:=bD.1 q
    have:=h.lt y J;omega
   ·simp at q;omega
 ·rw[K]
  split
  ·exact h.keys
  ·rename_i hs
   have O:=jmC p.k es (by simpa using hs);rw[dR]
   exact⟨h.keys,by simp,fun a A b hb e=>by simp at hb;subst hb;subst e;exact O A⟩
theorem jpW(k:vN):∀ es:List EntS,(jbS es k).Sublist es
 | []=>List.Sublist.refl _
 | x :: r=>by
  unfold jbS;split
  ·exact iM _ _
  ·exact (jpW k r).cons_cons _
theorem MapR.del(h:MapR es ck m)(k:vB):MapR (jbS es k.data.toList) ck (delM m k):=by
 have e:=jpW k.data.toList es
 exact⟨jmo k es m h.same,h.born.sublist (e.map _),fun x q=>h.lt x (e.subset q),h.keys.sublist (e.map _)⟩
theorem jmB(k:vN):∀ (es:List EntS) (m:vL),es.map eKV=m.map pKV->jay es k=(m.find? (fun p=>decide (k=p.k))).map Pair.V
 | [],[],_=>rfl
 | [],_ :: _,h=>by cases h
 | _ :: _,[],h=>by cases h
 | x :: r,q :: s,h=>by
  rw[bN,bN]at h;injection h with h1 h2;have e:x.1=q.k:=congrArg Prod.fst h1;have A:x.2.1=Pair.V q:=congrArg Prod.snd h1;rw[jgZ,fW,e]
  by_cases hp:k=q.k
  ·rw[if_pos hp];simp[hp,A]
  ·rw[if_neg hp,jmB k r s h2];simp[hp]
theorem MapR.get(h:MapR es ck m){k:vN}(hk:k∈m.map Pair.k):jay es k=some (Pair.V (⟨k.toArray⟩,valM m k)):=by
 rw[jmB k es m h.same]
 obtain⟨p,A,e⟩:=bD.1 hk
 cases hf:m.find? (fun p=>decide (k=p.k))with
 | none=>exact absurd e.symm (by have:=List.find?_eq_none.1 hf p A;simpa using this)
 | some q =>
  have H:k=q.k:=by simpa using List.find?_some hf
  unfold valM;rw[hf]
  have:(⟨k.toArray⟩:vB)=q.1:=by rw[H]
  simp only[fM,Option.getD_some];rw[this]
structure Chg where
 key:vB
 value:vB
 gone:Bool
def Chg.bad(c:Chg):Bool := !jds c.key ||(c.gone && decide (c.value.size≠0)) ||(!c.gone && !jcu c.value)
def doM(m:vL)(c:Chg):vL:=if c.gone then delM m c.key else putM m (c.key,c.value)
def jca(l:vL)(cs:List Chg):vL:=cs.foldl doM (l.foldl putM [])
def jbL(l:vL)(cs:List Chg):Int:=
 if jbf l≠0 then jbf l else if cs.any Chg.bad=true then 1 else if (jca l cs).length > 40 then 12 else 0
theorem Tryz.infoEnt:(Tryz.prog.info? 52).map (fun i=>(i.zero,i.size,i.bytes))=some (some (.agg #[.string ⟨#[]⟩,.string ⟨#[]⟩]),2,32):=vY
theorem Tryz.uEnts:Tryz.prog.underlying 53=some (.slice 52):=vY
theorem Tryz.sEnts:jcw Tryz.prog 53 52 2 32:=jcw.mk' Tryz.uEnts Tryz.infoEnt rfl vI
abbrev ERow(w0 w:vW)(v:vV)(n:Nat)(xs:vL):Prop:=ORow 52 2 w0 w v n (jch xs)
theorem ERow.rd{w0 w:vW}(h:ERow w0 w v n xs):RdP w v xs:=by
 have A:xs.length=n:=by have:=h.len;rw[jeO]at this;omega
 obtain⟨_,⟨rfl,Z⟩ |⟨g,e,H,rfl,h3,J,K,h6,h7⟩⟩:=h.own
 ·exact .inl ⟨none,0,rfl,bO vO⟩
 ·subst A
  refine .inr ⟨g,0,e,rfl,(cX.1 J).1,K,fun j x q=>?_⟩;have hj:=(bH.1 q).1
  obtain⟨O,X⟩:=jeN xs j x q
  exact⟨by rw[bT,h.own.cellAt (j * 2) vO,O],by rw[bT,h.own.cellAt (j * 2+1) vO,X]⟩
