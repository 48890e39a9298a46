/- Lemmas; each is under no condition but those that it states. -/
import Derived.Test.YtgppadbgofalpaaGreatDoorPa0
import Derived.Test.YtgppadbgofalpaaGreatDoorPa15
import Derived.Test.YtgppadbgofalpaaGreatDoorPa16
import Derived.Sort.OwnSorted
namespace Go.Proofs.YtgppadbgofalpaaGreatDoor
set_option linter.unusedSimpArgs false
set_option linter.unusedVariables false
set_option maxRecDepth 100000
set_option maxHeartbeats 16000000
open Go Go.RowKit
variable (w:vW)(l:List (vN)){a b ks:List (vN)}{es:List Ea}{ck n:Nat}{m xs:vL}{v:vV}
section
attribute [local go_sem] Oper.semAt_some
def Rl(l:List (vN)):List (vN):=l.mergeSort fun x y=>decide (x<=y)
def EV(l:List (vN)):vM:=l.map fun x=>⟨x.toArray⟩
theorem ND:(Rl l).length=l.length:=by simp[Rl]
theorem aS(h:a.Perm b):Rl a=Rl b:=by
 have A:∀ a b c:vN,decide (a<=b)=true->decide (b<=c)=true->decide (a<=c)=true:=fun a b c e q=>by simp only[decide_eq_true_eq]at *;exact List.le_trans e q
 have to:∀ a b:vN,(decide (a<=b) || decide (b<=a))=true:=fun a b=>by simp only[Bool.or_eq_true,decide_eq_true_eq];exact List.le_total a b
 refine List.Perm.eq_of_pairwise (le:=fun x y=>decide (x<=y)=true) (fun x y _ _ e q=>by simp only[decide_eq_true_eq]at e q;exact List.le_antisymm e q) (List.pairwise_mergeSort A to a) (List.pairwise_mergeSort A to b) ?_;exact (iM a _).trans (h.trans (iM b _).symm)
theorem pM:(EV l).map Value.string=l.map encStr:=by
 unfold EV;rw[dA];rfl
theorem sO{w0 w:vW}(h:Av 9 1 w0 w v n (ks.map encStr))(hn:n<=1000000):vQ 87 #[v] w fun e w'=>e=.returned (.tuple #[])/\Av 9 1 w0 w' v n ((Rl ks).map encStr):=by
 have A:ks.length=n:=by have:=h.len;simpa using this
 rcases h.own.2 with⟨e0,_⟩ |⟨g,cap,cur,e0,h3,h4,h5,h6,h7,h8⟩
 ·subst e0;obtain⟨a,c,e⟩:=h.sl;injection e with e1 e2 e3;subst e2;have:ks=[]:=bH A;subst this;refine (Tryz.slices_Sort_string_none none 0 w).mono ?_;rintro e w' ⟨rfl,rfl⟩;exact⟨rfl,by simpa [Rl]using h⟩
 ·subst e0;subst A;refine (Tryz.slices_Sort_string g 0 cap ks w (holds_of_block h4 (by simpa using h8)) (dD.1 h4).1 vO).mono ?_;rintro e w' ⟨rfl,q,J,rfl⟩;refine⟨rfl,⟨_,_,rfl⟩,ownsRow_sorted (ND ks) (cE _) h4 h5 h6 h7,?_,h.new⟩;exact h.ext.trans' (Ad.of_grown (F:=fun b=>b=g) (grownBy_sorted _) (fun r H _=>by cases H;rfl)) (fun x K e=>kL (h.new g rfl))
theorem jvK(s:List Ea):(s.map Us).map Value.string=(s.map (·.1)).map encStr:=by
 rw[dA,dA];rfl
theorem jrR(bx bm ck:Nat)(es:List Ea)(hk:LP bx bm ck es w)(hnd:(es.map (·.2.2)).Nodup)(hlt:∀ x∈es,x.2.2 < ck)(hlen:es.length<=1000000):vQ 86 #[.func (.func 88) #[] #[bx]] w fun e w'=>∃ u s,e=.returned u/\Nm es s/\GR es s/\Cd w w' u s.length (s.map Us):=by
 have A:=Hd (juv w bx bm ck es hk hnd hlt hlen);clear hk hnd hlt hlen;unfold vQ;go_in;go_wp2_with fail
 refine A.o.mono ?_;rintro e w1 ⟨u,s,rfl,J,K,q⟩
 obtain⟨a,c,rfl⟩:=q.sl
 have H:=Hd (bA J (bA K q));clear J K q A;go_wp2_with fail
 go_ret
 exact⟨_,s,rfl,H.o⟩
theorem jwz(bx bm ck:Nat)(es:List Ea)(hk:LP bx bm ck es w)(hnd:(es.map (·.2.2)).Nodup)(hkn:(es.map (·.1)).Nodup)(hlt:∀ x∈es,x.2.2 < ck)(hlen:es.length<=1000000):vQ 44 #[.func (.func 88) #[] #[bx]] w fun e w'=>∃ u,e=.returned u/\Cd w w' u es.length (EV (Rl (es.map (·.1)))):=by
 have HT:=Hd (jrR w bx bm ck es hk hnd hlt hlen);have HP:=Hd (fun s (K:Nm es s) (O:GR es s)=>K.perm O hnd hkn);have HL:=Hd hlen;clear hk hnd hlt hlen hkn;unfold vQ;go_in;go_wp2_with fail
 refine HT.o.mono ?_;rintro e w1 ⟨u,s,rfl,K,O,Z⟩
 obtain⟨a,c,rfl⟩:=Z.sl
 have hp:=HP.o s K O;have A:s.length=es.length:=by simpa using hp.length_eq
 have J:Av 9 1 w w1 (.slice a s.length c) s.length ((s.map (·.1)).map encStr):=by have q:=Z;unfold Cd at q;rw[jvK]at q;exact q
 have X:=Hd (sO J (kL HL.o));rw[aS hp]at X;rw[A]at X ⊢;clear K O Z J HT HP hp A;go_wp2_with fail
 refine X.o.mono ?_;rintro e w2 ⟨rfl,q⟩;have H:=Hd q;clear q X;go_wp2_with fail
 go_ret
 refine⟨_,rfl,?_⟩
 unfold Cd;rw[pM];exact H.o
theorem jsW(bm:Nat):vQ 45 #[.map (some bm)] w fun e w'=>e=.returned (.func (.func 88) #[] #[w])/\Ae w' w (.cells #[.map (some bm)] 101)/\Af w w':=by
 unfold vQ;go_in;go_wp2_with fail
 go_ret
 exact⟨rfl,Ae.new w _,(Aa w).alloc _⟩
end
def Fw:vL->Ar->vL
 | [],p=>[p]
 | q :: r,p=>if p.k=q.k then p :: r else q :: Fw r p
def Mc:vL->vB->vL
 | [],_=>[]
 | q :: r,k=>if k.data.toList=q.k then r else q :: Mc r k
def Za(m:vL)(k:vN):vB:=((m.find? (fun p=>decide (k=p.k))).map (·.2)).getD ⟨#[]⟩
def Hi(m:vL):vL:=(Rl (m.map Ar.k)).map fun k=>(⟨k.toArray⟩,Za m k)
def EW(x:Ea):vN × vV:=(x.1,x.2.1)
def IC(p:Ar):vN × vV:=(p.k,Ar.V p)
structure Gq(es:List Ea)(ck:Nat)(m:vL):Prop where
 same:es.map EW=m.map IC
 born:(es.map (·.2.2)).Nodup
 lt:∀ x∈es,x.2.2 < ck
 keys:(es.map (·.1)).Nodup
theorem Gq.nil(ck:Nat):Gq [] ck []:=⟨rfl,by simp,by simp,by simp⟩
theorem Gq.keysEq(h:Gq es ck m):es.map (·.1)=m.map Ar.k:=by
 have:=congrArg (List.map Prod.fst) h.same
 rw[dA,dA]at this;exact this
theorem Gq.len(h:Gq es ck m):es.length=m.length:=by
 have:=congrArg List.length h.same;simpa using this
theorem put_same(p:Ar)(n:Nat):∀ (es:List Ea) (m:vL),es.map EW=m.map IC->(Iy es p.k (Ar.V p) n).map EW=(Fw m p).map IC
 | [],[],_=>rfl
 | [],_ :: _,h=>by cases h
 | _ :: _,[],h=>by cases h
 | x :: r,q :: s,h=>by
  rw[bN,bN]at h;injection h with h1 h2;have e:x.1=q.k:=congrArg Prod.fst h1;unfold Iy Fw;rw[<-e]
  by_cases hp:p.k=x.1
  ·rw[if_pos hp,if_pos hp,bN,bN,h2];rfl
  ·rw[if_neg hp,if_neg hp,bN,bN,put_same p n r s h2,h1]
theorem nE(k:vB):∀ (es:List Ea) (m:vL),es.map EW=m.map IC->(Jr es k.data.toList).map EW=(Mc m k).map IC
 | [],[],_=>rfl
 | [],_ :: _,h=>by cases h
 | _ :: _,[],h=>by cases h
 | x :: r,q :: s,h=>by
  rw[bN,bN]at h;injection h with h1 h2;have e:x.1=q.k:=congrArg Prod.fst h1;unfold Jr Mc;rw[<-e]
  by_cases hp:k.data.toList=x.1
  ·rw[if_pos hp,if_pos hp,h2]
  ·rw[if_neg hp,if_neg hp,bN,bN,nE k r s h2,h1]
theorem NM(x:Ea)(r:List Ea)(k:vN):Dr (x :: r) k=if k=x.1 then some x.2.1 else Dr r k:=by
 by_cases h:k=x.1 <;> simp[Dr,h]
theorem lZ(k:vN)(v:vV)(n:Nat):∀ es:List Ea,(Iy es k v n).map (·.2.2)=if (Dr es k).isSome then es.map (·.2.2)else es.map (·.2.2)++[n]
 | []=>rfl
 | x :: r=>by
  unfold Iy;rw[NM]
  by_cases h:k=x.1
  ·rw[if_pos h,if_pos h];simp
  ·rw[if_neg h,if_neg h,bN,lZ k v n r]
   cases (Dr r k).isSome <;> simp
theorem mA(k:vN)(v:vV)(n:Nat):∀ es:List Ea,(Iy es k v n).map (·.1)=if (Dr es k).isSome then es.map (·.1)else es.map (·.1)++[k]
 | []=>rfl
 | x :: r=>by
  unfold Iy;rw[NM]
  by_cases h:k=x.1
  ·rw[if_pos h,if_pos h];simp[h]
  ·rw[if_neg h,if_neg h,bN,mA k v n r]
   cases (Dr r k).isSome <;> simp
theorem nY(k:vN):∀ es:List Ea,(Dr es k).isSome=false->k ∉ es.map (·.1)
 | [],_=>by simp
 | x :: r,h=>by
  rw[NM]at h
  by_cases hk:k=x.1
  ·rw[if_pos hk]at h;cases h
  ·rw[if_neg hk]at h
   have:=nY k r h
   simp only[bN,bT,not_or]
   exact⟨hk,this⟩
theorem Gq.put(h:Gq es ck m)(p:Ar):Gq (Iy es p.k (Ar.V p) ck) (if (Dr es p.k).isSome then ck else ck+1) (Fw m p):=by
 have hb:=lZ p.k (Ar.V p) ck es;have K:=mA p.k (Ar.V p) ck es
 refine⟨put_same p ck es m h.same,?_,?_,?_⟩
 ·rw[hb];split;{exact h.born};rw[dS];refine⟨h.born,by simp,fun a A b hb e=>?_⟩;obtain⟨x,H,X⟩:=bC.1 A;have:=h.lt x H;simp at hb;omega
 ·intro x H;have q:x.2.2∈(Iy es p.k (Ar.V p) ck).map (·.2.2):=bC.2 ⟨x,H,rfl⟩;rw[hb]at q;split at q;{rename_i hs;rw[if_pos hs];obtain⟨y,J,e⟩:=bC.1 q;rw[<-e];exact h.lt y J};rename_i hs;rw[if_neg hs];rcases bR.1 q with q | q;{obtain⟨y,J,e⟩:=bC.1 q;have:=h.lt y J;omega};simp at q;omega
 ·rw[K];split;{exact h.keys};rename_i hs;have O:=nY p.k es (by simpa using hs);rw[dS];exact⟨h.keys,by simp,fun a A b hb e=>by simp at hb;subst hb;subst e;exact O A⟩
theorem pA(k:vN):∀ es:List Ea,(Jr es k).Sublist es
 | []=>List.Sublist.refl _
 | x :: r=>by
  unfold Jr;split
  ·exact iA _ _
  ·exact (pA k r).cons_cons _
theorem Gq.del(h:Gq es ck m)(k:vB):Gq (Jr es k.data.toList) ck (Mc m k):=by
 have e:=pA k.data.toList es
 exact⟨nE k es m h.same,h.born.sublist (e.map _),fun x q=>h.lt x (e.subset q),h.keys.sublist (e.map _)⟩
theorem nX(k:vN):∀ (es:List Ea) (m:vL),es.map EW=m.map IC->Dr es k=(m.find? (fun p=>decide (k=p.k))).map Ar.V
 | [],[],_=>rfl
 | [],_ :: _,h=>by cases h
 | _ :: _,[],h=>by cases h
 | x :: r,q :: s,h=>by
  rw[bN,bN]at h;injection h with h1 h2;have e:x.1=q.k:=congrArg Prod.fst h1;have A:x.2.1=Ar.V q:=congrArg Prod.snd h1;rw[NM,fL,e]
  by_cases hp:k=q.k
  ·rw[if_pos hp];simp[hp,A]
  ·rw[if_neg hp,nX k r s h2];simp[hp]
theorem Gq.get(h:Gq es ck m){k:vN}(hk:k∈m.map Ar.k):Dr es k=some (Ar.V (⟨k.toArray⟩,Za m k)):=by
 rw[nX k es m h.same]
 obtain⟨p,A,e⟩:=bC.1 hk
 cases hf:m.find? (fun p=>decide (k=p.k))with
 | none=>exact absurd e.symm (by have:=List.find?_eq_none.1 hf p A;simpa using this)
 | some q =>(have H:k=q.k:=by simpa using List.find?_some hf);unfold Za;rw[hf];(have:(⟨k.toArray⟩:vB)=q.1:=by rw[H]);simp only[fW,Option.getD_some];rw[this]
structure Bk where
 key:vB
 value:vB
 gone:Bool
def Bk.bad(c:Bk):Bool := !Up c.key ||(c.gone && decide (c.value.size≠0)) ||(!c.gone && !Wm c.value)
def Ui(m:vL)(c:Bk):vL:=if c.gone then Mc m c.key else Fw m (c.key,c.value)
def Lq(l:vL)(cs:List Bk):vL:=cs.foldl Ui (l.foldl Fw [])
def Fi(l:vL)(cs:List Bk):Int:=
 if Dv l≠0 then Dv l else if cs.any Bk.bad=true then 1 else if (Lq l cs).length > 40 then 12 else 0
theorem Qi:(Tryz.prog.info? 49).map (fun i=>(i.zero,i.size,i.bytes))=some (some (.agg #[.string ⟨#[]⟩,.string ⟨#[]⟩]),2,32):=vY
theorem Kk:Tryz.prog.underlying 30=some (.slice 49):=vY
theorem Ff:Me Tryz.prog 30 49 2 32:=Me.mk' Kk Qi rfl vI
abbrev Ey(w0 w:vW)(v:vV)(n:Nat)(xs:vL):Prop:=Av 49 2 w0 w v n (Pz xs)
theorem Ey.rd{w0 w:vW}(h:Ey w0 w v n xs):Io w v xs:=by
 have A:xs.length=n:=by have:=h.len;rw[MH]at this;omega
 obtain⟨_,⟨rfl,Z⟩ |⟨g,e,H,rfl,h3,J,K,h6,h7⟩⟩:=h.own
 ·exact .inl ⟨none,0,rfl,bH vO⟩
 ·subst A;refine .inr ⟨g,0,e,rfl,(dD.1 J).1,K,fun j x q=>?_⟩;have hj:=(bI.1 q).1;obtain⟨O,X⟩:=MG xs j x q;exact⟨by rw[bX,h.own.cellAt (j * 2) vO,O],by rw[bX,h.own.cellAt (j * 2+1) vO,X]⟩
