/- Lemmas. -/
import Derived.Test.YtgmmpefjadjajaaGreatDoorPa0
import Derived.Test.YtgmmpefjadjajaaGreatDoorPa15
import Derived.Test.YtgmmpefjadjajaaGreatDoorPa16
import Derived.Sort.OwnSorted
namespace Go.Proofs.YtgmmpefjadjajaaGreatDoor
open Go.Proofs.Tryz
set_option linter.unusedSimpArgs false
set_option linter.unusedVariables false
set_option maxRecDepth 100000
set_option maxHeartbeats 16000000
open Go Go.RowKit
variable (w:vW)(l:List (vN)){a b ks:List (vN)}{es:List Ea}{ck n:Nat}{m xs:vL}{v:vV}
section
attribute [local go_sem] Oper.semAt_some
def Ru(l:List (vN)):List (vN):=l.mergeSort λx y=>decide (x<=y)
def FP(l:List (vN)):vM:=l.map λx=>⟨x.toArray⟩
theorem NP:(Ru l).length=l.length:=by simp[Ru]
theorem eY(h:a.Perm b):Ru a=Ru b:=by
 have A:∀ a b c:vN,decide (a<=b)=true->decide (b<=c)=true->decide (a<=c)=true:=λa b c e q=>by simp only[decide_eq_true_eq]at *;exact List.le_trans e q
 have to:∀ a b:vN,(decide (a<=b) || decide (b<=a))=true:=λa b=>by simp only[Bool.or_eq_true,decide_eq_true_eq];exact List.le_total a b
 refine List.Perm.eq_of_pairwise (le:=λx y=>decide (x<=y)=true) (λx y _ _ e q=>by simp only[decide_eq_true_eq]at e q;exact List.le_antisymm e q) (List.pairwise_mergeSort A to a) (List.pairwise_mergeSort A to b) ?_;exact (iR a _).trans (h.trans (iR b _).symm)
theorem pZ:(FP l).map Value.string=l.map encStr:=by
 unfold FP;rw[dB];rfl
theorem tI{w0 w:vW}(h:Ar 9 1 w0 w v n (ks.map encStr))(hn:n<=1000000):vQ 113 #[v] w λe w'=>e=.returned (.tuple #[])/\Ar 9 1 w0 w' v n ((Ru ks).map encStr):=by
 have A:ks.length=n:=by have:=h.len;simpa using this
 rcases h.own.2 with⟨e0,_⟩|⟨g,cap,cur,e0,h3,h4,h5,h6,h7,h8⟩
 ·subst e0;obtain⟨a,c,e⟩:=h.sl;injection e with e1 e2 e3;subst e2;have:ks=[]:=bF A;subst this;refine (Tryz.slices_Sort_string_none none 0 w).mono ?_;rintro e w' ⟨rfl,rfl⟩;exact⟨rfl,by simpa [Ru]using h⟩
 ·subst e0;subst A;refine (Tryz.slices_Sort_string g 0 cap ks w (holds_of_block h4 (by simpa using h8)) (dD.1 h4).1 vO).mono ?_;rintro e w' ⟨rfl,q,K,rfl⟩;refine⟨rfl,⟨_,_,rfl⟩,ownsRow_sorted (NP ks) (cD _) h4 h5 h6 h7,?_,h.new⟩;exact h.ext.O (Ad.y3 (F:=λb=>b=g) (grownBy_sorted _) λr H _=>by cases H;rfl) (λx O e=>kL (h.new g rfl))
theorem H5(s:List Ea):(s.map Vf).map Value.string=(s.map (·.1)).map encStr:=by
 rw[dB,dB];rfl
theorem k6(bx bm ck:Nat)(es:List Ea)(hk:MK bx bm ck es w)(hnd:(es.map (·.2.2)).Nodup)(hlt:∀ x∈es,x.2.2<ck)(hlen:es.length<=1000000):vQ 118 #[.func (.func 119) #[] #[bx]] w λe w'=>∃ u s,e=.returned u/\Nx es s/\IM es s/\Cg w w' u s.length (s.map Vf):=by
 have A:=J (B5 w bx bm ck es hk hnd hlt hlen);unfold vQ;go_in;go_wp2_with fail
 refine A.o.mono ?_;rintro e w1 ⟨u,s,rfl,K,O,q⟩
 obtain⟨a,c,rfl⟩:=q.sl
 have H:=J (kT K O q);go_wp2
 go_ret
 exact⟨_,s,rfl,H.o⟩
theorem L6(bx bm ck:Nat)(es:List Ea)(hk:MK bx bm ck es w)(hnd:(es.map (·.2.2)).Nodup)(hkn:(es.map (·.1)).Nodup)(hlt:∀ x∈es,x.2.2<ck)(hlen:es.length<=1000000):vQ 68 #[.func (.func 119) #[] #[bx]] w λe w'=>∃ u,e=.returned u/\Cg w w' u es.length (FP (Ru (es.map (·.1)))):=by
 have HT:=J (k6 w bx bm ck es hk hnd hlt hlen);have HP:=J (λs (A:Nx es s) (K:IM es s)=>A.perm K hnd hkn);have HL:=J hlen;unfold vQ;go_in;go_wp2_with fail
 refine HT.o.mono ?_;rintro e w1 ⟨u,s,rfl,A,K,h3⟩
 obtain⟨a,c,rfl⟩:=h3.sl
 have hp:=HP.o s A K;have O:s.length=es.length:=by simpa using hp.length_eq
 have X:Ar 9 1 w w1 (.slice a s.length c) s.length ((s.map (·.1)).map encStr):=by have q:=h3;unfold Cg at q;rw[H5]at q;exact q
 have Z:=J (tI X (kL HL.o));rw[eY hp]at Z;rw[O]at Z ⊢;go_wp2_with fail
 refine Z.o.mono ?_;rintro e w2 ⟨rfl,q⟩;have H:=J q;go_wp2
 go_ret
 refine⟨_,rfl,?_⟩
 unfold Cg;rw[pZ];exact H.o
theorem p3(bm:Nat):vQ 69 #[.map (some bm)] w λe w'=>e=.returned (.func (.func 119) #[] #[w])/\Ae w' w (.cells #[.map (some bm)] 140)/\Af w w':=by
 unfold vQ;go_in;go_wp2
 go_ret
 exact⟨rfl,Ae.new w _,(Aa w).alloc _⟩
end
def Hb:vL->Ay->vL
 |[],p=>[p]
 |q::r,p=>if p.k=q.k then p::r else q::Hb r p
def Px:vL->vB->vL
 |[],_=>[]
 |q::r,k=>if k.data.toList=q.k then r else q::Px r k
def Zm(m:vL)(k:vN):vB:=((m.find? λp=>decide (k=p.k)).map (·.2)).getD ()
def Jc(m:vL):vL:=(Ru (m.map Ay.k)).map λk=>(⟨k.toArray⟩,Zm m k)
def FQ(x:Ea):vN × vV:=(x.1,x.2.1)
def JB(p:Ay):vN × vV:=(p.k,Ay.V p)
structure Gu(es:List Ea)(ck:Nat)(m:vL):Prop where
 same:es.map FQ=m.map JB
 born:(es.map (·.2.2)).Nodup
 lt:∀ x∈es,x.2.2<ck
 keys:(es.map (·.1)).Nodup
theorem Gu.nil(ck:Nat):Gu [] ck []:=⟨rfl,by simp,by simp,by simp⟩
theorem Gu.keysEq(h:Gu es ck m):es.map (·.1)=m.map Ay.k:=by
 have:=congrArg (List.map Prod.fst) h.same
 rw[dB,dB]at this;exact this
theorem Gu.len(h:Gu es ck m):es.length=m.length:=by
 have:=congrArg List.length h.same;simpa using this
theorem put_same(p:Ay)(n:Nat):∀ (es:List Ea) (m:vL),es.map FQ=m.map JB->(Iv es p.k (Ay.V p) n).map FQ=(Hb m p).map JB
 |[],[],_=>rfl
 |[],_::_,h=>by cases h
 |_::_,[],h=>by cases h
 |x::r,q::s,h=>by
  rw[bP,bP]at h;injection h with h1 h2;have e:x.1=q.k:=congrArg Prod.fst h1;unfold Iv Hb;rw[<-e]
  by_cases hp:p.k=x.1
  ·rw[if_pos hp,if_pos hp,bP,bP,h2];rfl
  ·rw[if_neg hp,if_neg hp,bP,bP,put_same p n r s h2,h1]
theorem oA(k:vB):∀ (es:List Ea) (m:vL),es.map FQ=m.map JB->(Kb es k.data.toList).map FQ=(Px m k).map JB
 |[],[],_=>rfl
 |[],_::_,h=>by cases h
 |_::_,[],h=>by cases h
 |x::r,q::s,h=>by
  rw[bP,bP]at h;injection h with h1 h2;have e:x.1=q.k:=congrArg Prod.fst h1;unfold Kb Px;rw[<-e]
  by_cases hp:k.data.toList=x.1
  ·rw[if_pos hp,if_pos hp,h2]
  ·rw[if_neg hp,if_neg hp,bP,bP,oA k r s h2,h1]
theorem OE(x:Ea)(r:List Ea)(k:vN):Cp (x::r) k=if k=x.1 then some x.2.1 else Cp r k:=by
 by_cases h:k=x.1<;>simp[Cp,h]
theorem mT(k:vN)(v:vV)(n:Nat):∀ es:List Ea,(Iv es k v n).map (·.2.2)=if (Cp es k).isSome then es.map (·.2.2)else es.map (·.2.2)++[n]
 |[]=>rfl
 |x::r=>by
  unfold Iv;rw[OE]
  by_cases h:k=x.1
  ·rw[if_pos h,if_pos h];simp
  ·rw[if_neg h,if_neg h,bP,mT k v n r]
   cases (Cp r k).isSome<;>simp
theorem oQ(k:vN)(v:vV)(n:Nat):∀ es:List Ea,(Iv es k v n).map (·.1)=if (Cp es k).isSome then es.map (·.1)else es.map (·.1)++[k]
 |[]=>rfl
 |x::r=>by
  unfold Iv;rw[OE]
  by_cases h:k=x.1
  ·rw[if_pos h,if_pos h];simp[h]
  ·rw[if_neg h,if_neg h,bP,oQ k v n r]
   cases (Cp r k).isSome<;>simp
theorem mV(k:vN):∀ es:List Ea,(Cp es k).isSome=false->k ∉ es.map (·.1)
 |[],_=>by simp
 |x::r,h=>by
  rw[OE]at h
  by_cases hk:k=x.1
  ·rw[if_pos hk]at h;cases h
  ·rw[if_neg hk]at h
   have:=mV k r h
   simp only[bP,bU,not_or]
   exact⟨hk,this⟩
theorem Gu.put(h:Gu es ck m)(p:Ay):Gu (Iv es p.k (Ay.V p) ck) (if (Cp es p.k).isSome then ck else ck+1) (Hb m p):=by
 have hb:=mT p.k (Ay.V p) ck es;have O:=oQ p.k (Ay.V p) ck es
 refine⟨put_same p ck es m h.same,?_,?_,?_⟩
 ·rw[hb];split;{exact h.born};rw[dW];refine⟨h.born,by simp,λa A b hb e=>?_⟩;obtain⟨x,H,Z⟩:=bC.1 A;have:=h.lt x H;simp at hb;omega
 ·intro x H;have q:x.2.2∈(Iv es p.k (Ay.V p) ck).map (·.2.2):=bC.2 ⟨x,H,rfl⟩;rw[hb]at q;split at q;{rename_i hs;rw[if_pos hs];obtain⟨y,K,e⟩:=bC.1 q;rw[<-e];exact h.lt y K};rename_i hs;rw[if_neg hs];rcases bR.1 q with q|q;{obtain⟨y,K,e⟩:=bC.1 q;have:=h.lt y K;omega};simp at q;omega
 ·rw[O];split;{exact h.keys};rename_i hs;have X:=mV p.k es (by simpa using hs);rw[dW];exact⟨h.keys,by simp,λa A b hb e=>by simp at hb;subst hb;subst e;exact X A⟩
theorem qY(k:vN):∀ es:List Ea,(Kb es k).Sublist es
 |[]=>List.Sublist.refl _
 |x::r=>by
  unfold Kb;split
  ·exact iH _ _
  ·exact (qY k r).cons_cons _
theorem Gu.del(h:Gu es ck m)(k:vB):Gu (Kb es k.data.toList) ck (Px m k):=by
 have e:=qY k.data.toList es
 exact⟨oA k es m h.same,h.born.sublist (e.map _),λx q=>h.lt x (e.subset q),h.keys.sublist (e.map _)⟩
theorem mU(k:vN):∀ (es:List Ea) (m:vL),es.map FQ=m.map JB->Cp es k=(m.find? λp=>decide (k=p.k)).map Ay.V
 |[],[],_=>rfl
 |[],_::_,h=>by cases h
 |_::_,[],h=>by cases h
 |x::r,q::s,h=>by
  rw[bP,bP]at h;injection h with h1 h2;have e:x.1=q.k:=congrArg Prod.fst h1;have A:x.2.1=Ay.V q:=congrArg Prod.snd h1;rw[OE,fQ,e]
  by_cases hp:k=q.k
  ·rw[if_pos hp];simp[hp,A]
  ·rw[if_neg hp,mU k r s h2];simp[hp]
theorem Gu.get(h:Gu es ck m){k:vN}(hk:k∈m.map Ay.k):Cp es k=some (Ay.V (⟨k.toArray⟩,Zm m k)):=by
 rw[mU k es m h.same]
 obtain⟨p,A,e⟩:=bC.1 hk
 cases hf:m.find? (λp=>decide (k=p.k))with
 |none=>exact absurd e.symm (by have:=List.find?_eq_none.1 hf p A;simpa using this)
 |some q =>(have H:k=q.k:=by simpa using List.find?_some hf);unfold Zm;rw[hf];(have:(⟨k.toArray⟩:vB)=q.1:=by rw[H]);simp only[fP,Option.getD_some];rw[this]
structure Br where
 key:vB
 value:vB
 gone:Bool
def Br.bad(c:Br):Bool := !Vv c.key ||(c.gone&&decide (c.value.size≠0)) ||(!c.gone&&!Xt c.value)
def Xm(m:vL)(c:Br):vL:=if c.gone then Px m c.key else Hb m (c.key,c.value)
def Pf(l:vL)(cs:List Br):vL:=cs.foldl Xm (l.foldl Hb [])
def Ez(l:vL)(cs:List Br):Int:=
 if Em l≠0 then Em l else if cs.any Br.bad=true then 1 else if (Pf l cs).length > 40 then 12 else 0
theorem Qz:(prog.info? 49).map (λi=>(i.zero,i.size,i.bytes))=some (some (.agg #[(),()]),2,32):=vY
theorem Kw:prog.underlying 50=some (.slice 49):=vY
theorem Fk:Mn prog 50 49 2 32:=Mn.mk' Kw Qz rfl vI
abbrev Fg(w0 w:vW)(v:vV)(n:Nat)(xs:vL):Prop:=Ar 49 2 w0 w v n (Qp xs)
theorem Fg.rd{w0 w:vW}(h:Fg w0 w v n xs):Jv w v xs:=by
 have A:xs.length=n:=by have:=h.len;rw[NG]at this;omega
 obtain⟨_,⟨rfl,h2⟩|⟨g,e,H,rfl,h3,K,O,h6,h7⟩⟩:=h.own
 ·exact .inl ⟨none,0,rfl,bF vO⟩
 ·subst A;refine .inr ⟨g,0,e,rfl,(dD.1 K).1,O,λj x q=>?_⟩;have hj:=(bI.1 q).1;obtain⟨X,Z⟩:=NE xs j x q;exact⟨by rw[bX,h.own.cellAt (j*2) vO,X],by rw[bX,h.own.cellAt (j*2+1) vO,Z]⟩
