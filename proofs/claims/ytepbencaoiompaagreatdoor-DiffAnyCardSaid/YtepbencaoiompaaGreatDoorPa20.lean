/- Lemmas; each is under no condition but those that it states. -/
import Derived.Test.YtepbencaoiompaaGreatDoorPa19
import Derived.Test.YtepbencaoiompaaGreatDoorPa18
import Derived.Sort.OwnSorted
namespace Go.Proofs.YtepbencaoiompaaGreatDoor
set_option linter.unusedSimpArgs false
set_option linter.unusedVariables false
set_option maxRecDepth 100000
set_option maxHeartbeats 16000000
open Go Go.RowKit
section
attribute [local go_sem] Oper.semAt_some
def jeI(l:List (vN)):List (vN):=l.mergeSort fun x y=>decide (x<=y)
def baL(l:List (vN)):vM:=l.map fun x=>⟨x.toArray⟩
theorem jg0(l:List (vN)):(jeI l).length=l.length:=by simp[jeI]
theorem jko{a b:List (vN)}(h:a.Perm b):jeI a=jeI b:=by
 have q:∀ a b c:vN,decide (a<=b)=true->decide (b<=c)=true->decide (a<=c)=true:=fun a b c e o=>by simp only[decide_eq_true_eq]at *;exact List.le_trans e o
 have to:∀ a b:vN,(decide (a<=b) || decide (b<=a))=true:=fun a b=>by simp only[Bool.or_eq_true,decide_eq_true_eq];exact List.le_total a b
 refine List.Perm.eq_of_pairwise (le:=fun x y=>decide (x<=y)=true) (fun x y _ _ e o=>by simp only[decide_eq_true_eq]at e o;exact List.le_antisymm e o) (List.pairwise_mergeSort q to a) (List.pairwise_mergeSort q to b) ?_;exact (iJ a _).trans (h.trans (iJ b _).symm)
theorem jrX(l:List (vN)):(baL l).map Value.string=l.map encStr:=by
 unfold baL;rw[dL];rfl
theorem jxz{w0 w:vW}{v:vV}{n:Nat}{ks:List (vN)}(h:ORow 9 1 w0 w v n (ks.map encStr))(hn:n<=1000000) :
  vQ 41 #[v] w fun e w'=>e=.returned (.tuple #[])/\ORow 9 1 w0 w' v n ((jeI ks).map encStr):=by
 have o:ks.length=n:=by have:=h.len;simpa using this
 rcases h.own.2 with⟨e0,_⟩ |⟨g,cap,cur,e0,h3,h4,h5,h6,h7,h8⟩
 ·subst e0
  obtain⟨a,c,e⟩:=h.sl
  injection e with e1 e2 e3;subst e2
  have:ks=[]:=bG o
  subst this;refine (Tryz.slices_Sort_string_none none 0 w).mono ?_;rintro e w' ⟨rfl,rfl⟩
  exact⟨rfl,by simpa [jeI]using h⟩
 ·subst e0
  subst o;refine (Tryz.slices_Sort_string g 0 cap ks w (holds_of_block h4 (by simpa using h8)) (dK.1 h4).1 vO).mono ?_;rintro e w' ⟨rfl,q,A,rfl⟩
  refine⟨rfl,⟨_,_,rfl⟩,ownsRow_sorted (jg0 ks) (bY _) h4 h5 h6 h7,?_,h.new⟩
  exact h.ext.trans' (jag.of_grown (F:=fun b=>b=g) (grownBy_sorted _) (fun r z _=>by cases z;rfl)) (fun x E e=>by have:=h.new g rfl;omega)
theorem jvT(s:List EntS):(s.map keyB).map Value.string=(s.map (·.1)).map encStr:=by
 rw[dL,dL];rfl
theorem jsg(w:vW)(bx bm ck:Nat)(es:List EntS)(hk:KyS bx bm ck es w)(hnd:(es.map (·.2.2)).Nodup)(hlt:∀ x∈es,x.2.2 < ck)(hlen:es.length<=1000000) :
  vQ 83 #[.func (.func 84) #[] #[.pointer (some ⟨bx,0,none⟩)]] w fun e w'=>∃ u s,e=.returned u/\InvS es s/\jqv es s/\SRow w w' u s.length (s.map keyB):=by
 have z:=Hd (ju0 w bx bm ck es hk hnd hlt hlen);clear hk hnd hlt hlen;go_enter Tryz.func83,Tryz.ntmps83;go_wp2_with fail
 refine z.o.mono ?_;rintro e w1 ⟨u,s,rfl,A,E,q⟩
 obtain⟨a,c,rfl⟩:=q.sl
 have H:=Hd (bB A (bB E q));clear A E q z;go_wp2_with fail
 go_ret
 exact⟨_,s,rfl,H.o⟩
theorem jwK(w:vW)(bx bm ck:Nat)(es:List EntS)(hk:KyS bx bm ck es w)(hnd:(es.map (·.2.2)).Nodup)(hkn:(es.map (·.1)).Nodup)(hlt:∀ x∈es,x.2.2 < ck)(hlen:es.length<=1000000) :
  vQ 57 #[.func (.func 84) #[] #[.pointer (some ⟨bx,0,none⟩)]] w fun e w'=>∃ u,e=.returned u/\SRow w w' u es.length (baL (jeI (es.map (·.1)))):=by
 have X:=Hd (jsg w bx bm ck es hk hnd hlt hlen);have Z:=Hd (fun s (E:InvS es s) (J:jqv es s)=>E.perm J hnd hkn);have HL:=Hd hlen;clear hk hnd hlt hlen hkn;go_enter Tryz.func57,Tryz.ntmps57;go_wp2_with fail
 refine X.o.mono ?_;rintro e w1 ⟨u,s,rfl,E,J,O⟩
 obtain⟨a,c,rfl⟩:=O.sl
 have Q:=Z.o s E J;have z:s.length=es.length:=by simpa using Q.length_eq
 have A:ORow 9 1 w w1 (.slice a s.length c) s.length ((s.map (·.1)).map encStr):=by
  have q:=O;unfold SRow at q;rw[jvT]at q;exact q
 have K:=Hd (jxz A (by have:=HL.o;omega));rw[jko Q]at K;rw[z]at K ⊢;clear E J O A X Z Q z;go_wp2_with fail
 refine K.o.mono ?_;rintro e w2 ⟨rfl,q⟩;have H:=Hd q;clear q K;go_wp2_with fail
 go_ret
 refine⟨_,rfl,?_⟩
 unfold SRow;rw[jrX];exact H.o
theorem jtg(w:vW)(bm:Nat):vQ 58 #[.map (some bm)] w fun e w'=>e=.returned (.func (.func 84) #[] #[.pointer (some ⟨w.heap.size,0,none⟩)])/\Blk w' w.heap.size (.cells #[.map (some bm)] 116)/\Ext w w':=by
 go_enter Tryz.func58,Tryz.ntmps58;go_wp2_with fail
 go_ret
 exact⟨rfl,Blk.new w _,(ExtR w).alloc _⟩
end
def putM:vL->Pair->vL
 | [],p=>[p]
 | q :: r,p=>if p.k=q.k then p :: r else q :: putM r p
def delM:vL->vB->vL
 | [],_=>[]
 | q :: r,k=>if k.data.toList=q.k then r else q :: delM r k
def valM(m:vL)(k:vN):vB:=((m.find? (fun p=>decide (k=p.k))).map (·.2)).getD ⟨#[]⟩
def jc8(m:vL):vL:=(jeI (m.map Pair.k)).map fun k=>(⟨k.toArray⟩,valM m k)
def eKV(x:EntS):vN × vV:=(x.1,x.2.1)
def pKV(p:Pair):vN × vV:=(p.k,Pair.V p)
structure MapR(es:List EntS)(ck:Nat)(m:vL):Prop where
 same:es.map eKV=m.map pKV
 born:(es.map (·.2.2)).Nodup
 lt:∀ x∈es,x.2.2 < ck
 keys:(es.map (·.1)).Nodup
theorem MapR.nil(ck:Nat):MapR [] ck []:=⟨rfl,by simp,by simp,by simp⟩
theorem MapR.keysEq{es:List EntS}{ck:Nat}{m:vL}(h:MapR es ck m):es.map (·.1)=m.map Pair.k:=by
 have:=congrArg (List.map Prod.fst) h.same
 rw[dL,dL]at this;exact this
theorem MapR.len{es:List EntS}{ck:Nat}{m:vL}(h:MapR es ck m):es.length=m.length:=by
 have:=congrArg List.length h.same;simpa using this
theorem put_same(p:Pair)(n:Nat):∀ (es:List EntS) (m:vL),es.map eKV=m.map pKV->(jbo es p.k (Pair.V p) n).map eKV=(putM m p).map pKV
 | [],[],_=>rfl
 | [],_ :: _,h=>by cases h
 | _ :: _,[],h=>by cases h
 | x :: r,q :: s,h=>by
  rw[bV,bV]at h;injection h with h1 h2;have e:x.1=q.k:=congrArg Prod.fst h1;unfold jbo putM;rw[<-e]
  by_cases hp:p.k=x.1
  ·rw[if_pos hp,if_pos hp,bV,bV,h2];rfl
  ·rw[if_neg hp,if_neg hp,bV,bV,put_same p n r s h2,h1]
theorem jo5(k:vB):∀ (es:List EntS) (m:vL),es.map eKV=m.map pKV->(jef es k.data.toList).map eKV=(delM m k).map pKV
 | [],[],_=>rfl
 | [],_ :: _,h=>by cases h
 | _ :: _,[],h=>by cases h
 | x :: r,q :: s,h=>by
  rw[bV,bV]at h;injection h with h1 h2;have e:x.1=q.k:=congrArg Prod.fst h1;unfold jef delM;rw[<-e]
  by_cases hp:k.data.toList=x.1
  ·rw[if_pos hp,if_pos hp,h2]
  ·rw[if_neg hp,if_neg hp,bV,bV,jo5 k r s h2,h1]
theorem jh8(x:EntS)(r:List EntS)(k:vN):jaS (x :: r) k=if k=x.1 then some x.2.1 else jaS r k:=by
 by_cases h:k=x.1 <;> simp[jaS,h]
theorem jpO(k:vN)(v:vV)(n:Nat):∀ es:List EntS,(jbo es k v n).map (·.2.2)=if (jaS es k).isSome then es.map (·.2.2)else es.map (·.2.2)++[n]
 | []=>rfl
 | x :: r=>by
  unfold jbo;rw[jh8]
  by_cases h:k=x.1
  ·rw[if_pos h,if_pos h];simp
  ·rw[if_neg h,if_neg h,bV,jpO k v n r]
   cases (jaS r k).isSome <;> simp
theorem jpP(k:vN)(v:vV)(n:Nat):∀ es:List EntS,(jbo es k v n).map (·.1)=if (jaS es k).isSome then es.map (·.1)else es.map (·.1)++[k]
 | []=>rfl
 | x :: r=>by
  unfold jbo;rw[jh8]
  by_cases h:k=x.1
  ·rw[if_pos h,if_pos h];simp[h]
  ·rw[if_neg h,if_neg h,bV,jpP k v n r]
   cases (jaS r k).isSome <;> simp
theorem jpn(k:vN):∀ es:List EntS,(jaS es k).isSome=false->k ∉ es.map (·.1)
 | [],_=>by simp
 | x :: r,h=>by
  rw[jh8]at h
  by_cases hk:k=x.1
  ·rw[if_pos hk]at h;cases h
  ·rw[if_neg hk]at h
   have:=jpn k r h
   simp only[bV,bM,not_or]
   exact⟨hk,this⟩
theorem MapR.put{es:List EntS}{ck:Nat}{m:vL}(h:MapR es ck m)(p:Pair):MapR (jbo es p.k (Pair.V p) ck) (if (jaS es p.k).isSome then ck else ck+1) (putM m p):=by
 have hb:=jpO p.k (Pair.V p) ck es;have E:=jpP p.k (Pair.V p) ck es
 refine⟨put_same p ck es m h.same,?_,?_,?_⟩
 ·rw[hb]
  split
  ·exact h.born
  ·rw[fF]
   refine⟨h.born,by simp,fun a q b hb e=>?_⟩
   obtain⟨x,z,J⟩:=bI.1 q
   have:=h.lt x z
   simp at hb;omega
 ·intro x z
  have o:x.2.2∈(jbo es p.k (Pair.V p) ck).map (·.2.2):=bI.2 ⟨x,z,rfl⟩;rw[hb]at o;split at o
  ·rename_i hs
   rw[if_pos hs]
   obtain⟨y,A,e⟩:=bI.1 o
   rw[<-e];exact h.lt y A
  ·rename_i hs
   rw[if_neg hs];rcases bT.1 o with o | o
   ·obtain⟨y,A,e⟩:=bI.1 o
    have:=h.lt y A;omega
   ·simp at o;omega
 ·rw[E]
  split
  ·exact h.keys
  ·rename_i hs
   have H:=jpn p.k es (by simpa using hs);rw[fF]
   exact⟨h.keys,by simp,fun a q b hb e=>by simp at hb;subst hb;subst e;exact H q⟩
theorem jst(k:vN):∀ es:List EntS,(jef es k).Sublist es
 | []=>List.Sublist.refl _
 | x :: r=>by
  unfold jef;split
  ·exact List.sublist_cons_self _ _
  ·exact (jst k r).cons_cons _
theorem MapR.del{es:List EntS}{ck:Nat}{m:vL}(h:MapR es ck m)(k:vB):MapR (jef es k.data.toList) ck (delM m k):=by
 have e:=jst k.data.toList es
 exact⟨jo5 k es m h.same,h.born.sublist (e.map _),fun x o=>h.lt x (e.subset o),h.keys.sublist (e.map _)⟩
theorem jpm(k:vN):∀ (es:List EntS) (m:vL),es.map eKV=m.map pKV->jaS es k=(m.find? (fun p=>decide (k=p.k))).map Pair.V
 | [],[],_=>rfl
 | [],_ :: _,h=>by cases h
 | _ :: _,[],h=>by cases h
 | x :: r,q :: s,h=>by
  rw[bV,bV]at h;injection h with h1 h2;have e:x.1=q.k:=congrArg Prod.fst h1;have o:x.2.1=Pair.V q:=congrArg Prod.snd h1;rw[jh8,fT,e]
  by_cases hp:k=q.k
  ·rw[if_pos hp];simp[hp,o]
  ·rw[if_neg hp,jpm k r s h2];simp[hp]
theorem MapR.get{es:List EntS}{ck:Nat}{m:vL}(h:MapR es ck m){k:vN}(hk:k∈m.map Pair.k):jaS es k=some (Pair.V (⟨k.toArray⟩,valM m k)):=by
 rw[jpm k es m h.same]
 obtain⟨p,o,e⟩:=bI.1 hk
 cases hf:m.find? (fun p=>decide (k=p.k))with
 | none=>exact absurd e.symm (by have:=List.find?_eq_none.1 hf p o;simpa using this)
 | some q =>
  have z:k=q.k:=by simpa using List.find?_some hf
  unfold valM;rw[hf]
  have:(⟨k.toArray⟩:vB)=q.1:=by rw[z]
  simp only[fZ,Option.getD_some];rw[this]
structure Chg where
 key:vB
 value:vB
 gone:Bool
def Chg.bad(c:Chg):Bool := !jei c.key ||(c.gone && decide (c.value.size≠0)) ||(!c.gone && !jcT c.value)
def doM(m:vL)(c:Chg):vL:=if c.gone then delM m c.key else putM m (c.key,c.value)
def jdC(l:vL)(cs:List Chg):vL:=cs.foldl doM (l.foldl putM [])
def ja8(l:vL)(cs:List Chg):Int:=
 if jaD l≠0 then jaD l else if cs.any Chg.bad=true then 1 else if (jdC l cs).length > 40 then 12 else 0
theorem Tryz.infoEnt:(Tryz.prog.info? 53).map (fun i=>(i.zero,i.size,i.bytes))=some (some (.agg #[.string ⟨#[]⟩,.string ⟨#[]⟩]),2,32):=vY
theorem Tryz.uEnts:Tryz.prog.underlying 32=some (.slice 53):=vY
theorem Tryz.sEnts:jeN Tryz.prog 32 53 2 32:=jeN.mk' Tryz.uEnts Tryz.infoEnt rfl vI
abbrev ERow(w0 w:vW)(v:vV)(n:Nat)(xs:vL):Prop:=ORow 53 2 w0 w v n (jcl xs)
theorem ERow.rd{w0 w:vW}{v:vV}{n:Nat}{xs:vL}(h:ERow w0 w v n xs):RdP w v xs:=by
 have q:xs.length=n:=by have:=h.len;rw[jdQ]at this;omega
 obtain⟨_,⟨rfl,K⟩ |⟨g,e,z,rfl,O,A,E,Q,X⟩⟩:=h.own
 ·exact .inl ⟨none,0,rfl,bG vO⟩
 ·subst q
  refine .inr ⟨g,0,e,rfl,(dK.1 A).1,E,fun j x o=>?_⟩;have Z:=(bW.1 o).1
  obtain⟨H,J⟩:=jdP xs j x o
  exact⟨by rw[cR,h.own.cellAt (j * 2) vO,H],by rw[cR,h.own.cellAt (j * 2+1) vO,J]⟩
end Go.Proofs.YtepbencaoiompaaGreatDoor
