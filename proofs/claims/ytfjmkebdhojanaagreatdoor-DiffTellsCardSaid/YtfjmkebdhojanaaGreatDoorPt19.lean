/- Lemmas; each is under no condition but those that it states. -/
import Derived.Test.YtfjmkebdhojanaaGreatDoorPt18
namespace Go.Proofs.YtfjmkebdhojanaaGreatDoor
set_option linter.unusedSimpArgs false
set_option linter.unusedVariables false
set_option maxRecDepth 100000
set_option maxHeartbeats 16000000
open Go Go.RowKit
section
attribute [local go_sem] Oper.semAt_some
def keyB(x:EntS):vB:=⟨x.1.toArray⟩
theorem jpU(x:EntS):str x.1=.string (keyB x):=rfl
def InvS(es s:List EntS):Prop:=(s.map (·.2.2)).Nodup/\∀ x∈s,x∈es
theorem InvS.step{es s s':List EntS}{v:Array vV}(h:InvS es s)(k:jy4 es s v s'):InvS es s':=by
 obtain⟨x,E,_,rfl⟩:=k
 obtain⟨H,A⟩:=cP.1 E
 have A:x.2.2 ∉ s.map (·.2.2):=by simpa [jf3]using A
 refine⟨?_,fun z o=>?_⟩
 ·rw[cB,fL]
  exact⟨h.1,by simp,fun a J b hb e=>by simp at hb;subst hb;subst e;exact A J⟩
 ·rcases bU.1 o with o | o
  ·exact h.2 z o
  ·simp at o;exact o ▸ H
theorem InvS.len{es s:List EntS}(h:InvS es s):s.length<=es.length:=by
 have:=iJ h.1 (l₂:=es.map (·.2.2)) (fun k o=>by
  obtain⟨z,A,e⟩:=bK.1 o;exact bK.2 ⟨z,h.2 z A,e⟩)
 simpa using this
theorem InvS.perm{es s:List EntS}(h:InvS es s)(hd:jqb es s)(hst:(es.map (·.2.2)).Nodup)(hkn:(es.map (·.1)).Nodup):(s.map (·.1)).Perm (es.map (·.1)):=by
 have o:∀ x∈es,x∈s:=by
  intro x E
  by_cases hc:x.2.2∈s.map (·.2.2)
  ·obtain⟨z,A,e⟩:=bK.1 hc
   have:=jbH hst (h.2 z A) E e
   exact this ▸ A
  ·have:x∈jaZ es (jf3 s):=by
    refine cP.2 ⟨E,?_⟩;simpa [jf3]using hc
   rw[hd]at this;cases this
 have H:(s.map (·.1)).Nodup:=by
  have J:=h.1;have K:=h.2;clear h hd o;induction s with
  | nil=>simp
  | cons z r ih =>
   rw[bS,fF]at J ⊢
   refine⟨fun X=>?_,ih J.2 (fun x E=>K x (bD _ E))⟩
   obtain⟨y,Q,e⟩:=bK.1 X
   have:=jbH hkn (K y (bD _ Q)) (K z (bG ..)) e
   exact J.1 (bK.2 ⟨y,Q,by rw[this]⟩)
 refine jiV H hkn fun k=>?_;constructor
 ·intro O;obtain⟨z,A,e⟩:=bK.1 O;exact bK.2 ⟨z,h.2 z A,e⟩
 ·intro O;obtain⟨z,A,e⟩:=bK.1 O;exact bK.2 ⟨z,o z A,e⟩
structure AppS(w:World)(es s:List EntS)(W:World):Prop where
 ext:Ext w W
 inv:InvS es s
 var:∃ v,Blk W w.heap.size (.cells #[v] 31)/\W.ownsRow 0 9 1 v s.length ((s.map keyB).map Value.string)/\∀ b,v.ownBlock=some b->w.heap.size+4<=b
theorem AppS.st{w:vW}{es s:List EntS}{W W':vW}(h:AppS w es s W)(k:jae (fun b=>b=w.heap.size+1\/b=w.heap.size+1+1\/b=w.heap.size+1+2) W W'):AppS w es s W':=by
 obtain⟨v,A,E,o⟩:=h.var
 exact⟨h.ext.trans' k (fun x H e=>by omega),h.inv,v,A.keeps k vO,ja8 E k (fun b hb e=>by have:=o b hb;omega),o⟩
theorem juA(w:vW)(bx bm ck:Nat)(es:List EntS)(hk:KyS bx bm ck es w)(hnd:(es.map (·.2.2)).Nodup)(A:∀ x∈es,x.2.2 < ck)(hlen:es.length<=1000000) :
  vQ 136 #[.slice none 0 0,.func (.func 111) #[] #[.pointer (some ⟨bx,0,none⟩)]] w fun e w'=>∃ u s,e=.returned u/\InvS es s/\jqb es s/\SRow w w' u s.length (s.map keyB):=by
 have a5:=Hd (jxP bx bm ck es hnd A);have HK:=Hd hk;clear hk hnd A;refine (callsIn_wide (n:=0)).1 ?_;refine callsIn_of_wp_marks Tryz.func136 rfl trivial ?_ rfl;simp only[Tryz.ntmps136,dK,bF,cF,Nat.reduceAdd,Nat.reduceSub,dP,dO,fC,dY,cT,dA];gi_wp2_with fail
 obtain⟨w1,H⟩:=vE (w.alloc (.cells #[.slice none 0 0] 31))
 rw[<-H];have E:w1.heap.size=w.heap.size+1:=by rw[H];simp
 have S0:AppS w es [] w1:=by
  rw[H]
  exact⟨(ExtR w).alloc _,⟨by simp,fun x hx=>by cases hx⟩,_,Blk.new w _,fV _ _ _ _,fun b hb=>by cases hb⟩
 have X:=Hd S0;clear S0 H;refine juj (gf:=111) (lb:=#[.pointer (some ⟨bx,0,none⟩)]) rfl (vX 111) a5.o
  (fun s v s' h=>by obtain⟨x,_,rfl,_⟩:=h;rfl) (AppS w es) (fun s W W' h k=>h.st (by rw[E]at k;exact k)) (fun s W h=>⟨HK.o.1.keeps h.ext (fun h=>h),HK.o.2.keeps h.ext (fun h=>h)⟩) X.o
  (fun v=>{ tmps:=#[.slice none 0 0,.func (.func 111) #[] #[.pointer (some ⟨bx,0,none⟩)],.pointer (some ⟨w.heap.size,0,none⟩),undef,.slice none 0 0,v.getD 0 undef,.func (.func 111) #[] #[.pointer (some ⟨bx,0,none⟩)],v.getD 0 undef,undef,undef,undef,undef,undef],defers:=[] })
  ?hassign ?hbody ?hdone
 case hassign =>
  intro l2 v s s' W K J hK
  obtain⟨x,_,rfl,_⟩:=J
  rw[jpU]at hK ⊢;rw[jzT];simp only[dL,dG];gi_wp2;exact hK
 case hbody =>
  intro l2 v s s' W J h A;have hinv:=h.inv.step J
  obtain⟨x,hx,rfl,rfl⟩:=J
  obtain⟨v,O,Q,h3⟩:=h.var
  obtain⟨Z,cp,rfl⟩:=jaU Q
  rw[jpU]
  obtain⟨q,hq⟩:=vE (keyB x)
  rw[<-hq];have a6:s.length<=1000000:=bJ h.inv.len hlen;have hV:=O.cell (i:=0) (v:=.slice Z s.length cp) vF;have b2:W.frozen? ⟨w.heap.size,0,none⟩=false:=O.frozen
  obtain⟨n,hn⟩:=vE s.length
  rw[<-hn]at Q a6 hV O h3;have A:w.heap.size+3 < W.heap.size:=by rw[E]at A;omega
  have HN:=Hd hn;have HQ:=Hd hq;have HV:=Hd O;have HO:=Hd Q;have H3:=Hd h3;have HE:=Hd h.ext;have HI:=Hd hinv;rw[show (#[Value.string q]:Array vV).getD 0 undef=.string q from rfl];clear h O Q h3 hinv hx hn hq X
  obtain⟨i0,hi,a7,a8,a9⟩:=info_parts Tryz.infoStr
  gi_wp2_with (gi_at_builtin;refine jb5 _ rfl (.tmp 8) (.tmp 10) 31 rfl 9 i0 _ 1 16 Tryz.uStrs hi a7 a8 a9 rfl vI (.slice Z n cp) n _ rfl (jbq HO.o ((ExtR W).alloc _)) ⟨W.heap.size,0,none⟩ 1 1 [.string q] rfl rfl (jaJ (Blk.new W _)) (by simp[Value.oneCell']) (by unfold maxLen;omega) vO ?_;intro v' w6 r1 r2 r3;obtain⟨a0,a1,rfl⟩:=jaU r1;have a2:=(HV.o.alloc _).keeps r2 (fun e=>by have:=H3.o _ e;omega);have b3:w6.cell? ⟨w.heap.size,0,none⟩=some (.slice Z n cp):=a2.cell (i:=0) vF;have b4:w6.frozen? ⟨w.heap.size,0,none⟩=false:=a2.frozen)
  have b0:w6.ownsRow 0 9 1 (.slice a0 (n+1) a1) (s++[x]).length (((s++[x]).map keyB).map Value.string):=by
   rw[bC, <-HN.o,cB,cB]
   have:=r1;rw[HQ.o]at this;exact this
  have K6:jae (fun b=>(Value.slice Z n cp).ownBlock=some b) W w6:=((jae.refl _ W).alloc _).trans r2;have a3:∀ b,(Value.slice a0 (n+1) a1).ownBlock=some b->w.heap.size+4<=b:=fun b hb=>by
   rcases r3 with r3 | r3
   ·exact H3.o b (r3 ▸ hb)
   ·have h9:=r3 b hb;rw[bT]at h9;omega
  have K7:jae (fun b=>b=w.heap.size) w6 (w6.setCell ⟨w.heap.size,0,none⟩ (.slice a0 (n+1) a1)):=jae.oneSet w6 ⟨w.heap.size,0,none⟩ _
  refine⟨(K6.mono (fun y _ e=>?_)).trans (K7.mono (fun y _ e=>?_)),?_⟩
  ·have:=H3.o y e;rw[E];omega
  ·have e:y=_:=e;rw[E];omega
  ·exact⟨(HE.o.trans' K6 (fun y hy e=>by have:=H3.o y e;omega)).trans' K7 (fun y hy e=>by have e:y=_:=e;omega),HI.o,
    _,a2.set_same (i:=0) _,ja8 b0 K7 (fun b hb e=>by have:=a3 b hb;omega),a3⟩
 case hdone =>
  intro s W a4 h hd
  obtain⟨v,O,Q,h3⟩:=h.var
  obtain⟨Z,cp,rfl⟩:=jaU Q
  have q5:W.cell? ⟨w.heap.size,0,none⟩=some (.slice Z s.length cp):=O.cell (i:=0) vF;have H2:=Hd Q;have H3:=Hd h3;have HX:=Hd h.ext;have HI:=Hd h.inv;have b1:=Hd a4;have HD:=Hd hd;clear h O Q h3 hd a4 X;gi_wp2_with fail
  refine⟨by simp,.inl ⟨_,_,rfl,run_takeDeferred HD.o,?_⟩⟩
  refine⟨_,results_tmp rfl _ _ _,?_⟩
  have hK:=jae.onePut W w1.heap.size (.deferred none)
  exact⟨.slice Z s.length cp,s,rfl,HI.o,b1.o,⟨_,_,rfl⟩,ja8 H2.o hK (fun b hb e=>by have:=H3.o b hb;rw[E]at e;omega),HX.o.putObj (.inr vO) _,fun b hb=>by have:=H3.o b hb;omega⟩
theorem jvu(s:List EntS):(s.map keyB).map Value.string=(s.map (·.1)).map encStr:=by
 rw[dN,dN];rfl
theorem jrU(w:vW)(bx bm ck:Nat)(es:List EntS)(hk:KyS bx bm ck es w)(hnd:(es.map (·.2.2)).Nodup)(hlt:∀ x∈es,x.2.2 < ck)(hlen:es.length<=1000000) :
  vQ 110 #[.func (.func 111) #[] #[.pointer (some ⟨bx,0,none⟩)]] w fun e w'=>∃ u s,e=.returned u/\InvS es s/\jqb es s/\SRow w w' u s.length (s.map keyB):=by
 have E:=Hd (juA w bx bm ck es hk hnd hlt hlen);clear hk hnd hlt hlen;go_enter Tryz.func110,Tryz.ntmps110;go_wp2_with fail
 refine E.o.mono ?_;rintro e w1 ⟨u,s,rfl,J,K,A⟩
 obtain⟨a,c,rfl⟩:=A.sl
 have H:=Hd (bB J (bB K A));clear J K A E;go_wp2_with fail
 go_ret
 exact⟨_,s,rfl,H.o⟩
theorem jwk(w:vW)(bx bm ck:Nat)(es:List EntS)(hk:KyS bx bm ck es w)(hnd:(es.map (·.2.2)).Nodup)(hkn:(es.map (·.1)).Nodup)(hlt:∀ x∈es,x.2.2 < ck)(hlen:es.length<=1000000) :
  vQ 68 #[.func (.func 111) #[] #[.pointer (some ⟨bx,0,none⟩)]] w fun e w'=>∃ u,e=.returned u/\SRow w w' u es.length (baL (jdZ (es.map (·.1)))):=by
 have HT:=Hd (jrU w bx bm ck es hk hnd hlt hlen);have HP:=Hd (fun s (K:InvS es s) (O:jqb es s)=>K.perm O hnd hkn);have HL:=Hd hlen;clear hk hnd hlt hlen hkn;go_enter Tryz.func68,Tryz.ntmps68;go_wp2_with fail
 refine HT.o.mono ?_;rintro e w1 ⟨u,s,rfl,K,O,X⟩
 obtain⟨a,c,rfl⟩:=X.sl
 have Z:=HP.o s K O;have E:s.length=es.length:=by simpa using Z.length_eq
 have J:ORow 9 1 w w1 (.slice a s.length c) s.length ((s.map (·.1)).map encStr):=by
  have A:=X;unfold SRow at A;rw[jvu]at A;exact A
 have Q:=Hd (jwV J (by have:=HL.o;omega));rw[jki Z]at Q;rw[E]at Q ⊢;clear K O X J HT HP Z E;go_wp2_with fail
 refine Q.o.mono ?_;rintro e w2 ⟨rfl,A⟩;have H:=Hd A;clear A Q;go_wp2_with fail
 go_ret
 refine⟨_,rfl,?_⟩
 unfold SRow;rw[jrA];exact H.o
theorem jsR(w:vW)(bm:Nat):vQ 69 #[.map (some bm)] w fun e w'=>e=.returned (.func (.func 111) #[] #[.pointer (some ⟨w.heap.size,0,none⟩)])/\Blk w' w.heap.size (.cells #[.map (some bm)] 133)/\Ext w w':=by
 unfold vQ;go_in;go_wp2_with fail
 go_ret
 exact⟨rfl,Blk.new w _,(ExtR w).alloc _⟩
end
def putM:vL->Pair->vL
 | [],p=>[p]
 | q :: r,p=>if p.k=q.k then p :: r else q :: putM r p
def delM:vL->vB->vL
 | [],_=>[]
 | q :: r,k=>if k.data.toList=q.k then r else q :: delM r k
def valM(m:vL)(k:vN):vB:=((m.find? (fun p=>decide (k=p.k))).map (·.2)).getD ⟨#[]⟩
def jc1(m:vL):vL:=(jdZ (m.map Pair.k)).map fun k=>(⟨k.toArray⟩,valM m k)
def eKV(x:EntS):vN × vV:=(x.1,x.2.1)
def pKV(p:Pair):vN × vV:=(p.k,Pair.V p)
structure MapR(es:List EntS)(ck:Nat)(m:vL):Prop where
 same:es.map eKV=m.map pKV
 born:(es.map (·.2.2)).Nodup
 lt:∀ x∈es,x.2.2 < ck
 keys:(es.map (·.1)).Nodup
theorem MapR.nil(ck:Nat):MapR [] ck []:=⟨rfl,by simp,by simp,by simp⟩
theorem MapR.keysEq{es:List EntS}{ck:Nat}{m:vL}(h:MapR es ck m):es.map (·.1)=m.map Pair.k:=by
 have:=congrArg (List.map Prod.fst) h.same
 rw[dN,dN]at this;exact this
theorem MapR.len{es:List EntS}{ck:Nat}{m:vL}(h:MapR es ck m):es.length=m.length:=by
 have:=congrArg List.length h.same;simpa using this
theorem put_same(p:Pair)(n:Nat):∀ (es:List EntS) (m:vL),es.map eKV=m.map pKV->(jbt es p.k (Pair.V p) n).map eKV=(putM m p).map pKV
 | [],[],_=>rfl
 | [],_ :: _,h=>by cases h
 | _ :: _,[],h=>by cases h
 | x :: r,q :: s,h=>by
  rw[bS,bS]at h;injection h with h1 h2;have e:x.1=q.k:=congrArg Prod.fst h1;unfold jbt putM;rw[<-e]
  by_cases hp:p.k=x.1
  ·rw[if_pos hp,if_pos hp,bS,bS,h2];rfl
  ·rw[if_neg hp,if_neg hp,bS,bS,put_same p n r s h2,h1]
theorem joT(k:vB):∀ (es:List EntS) (m:vL),es.map eKV=m.map pKV->(jd3 es k.data.toList).map eKV=(delM m k).map pKV
 | [],[],_=>rfl
 | [],_ :: _,h=>by cases h
 | _ :: _,[],h=>by cases h
 | x :: r,q :: s,h=>by
  rw[bS,bS]at h;injection h with h1 h2;have e:x.1=q.k:=congrArg Prod.fst h1;unfold jd3 delM;rw[<-e]
  by_cases hp:k.data.toList=x.1
  ·rw[if_pos hp,if_pos hp,h2]
  ·rw[if_neg hp,if_neg hp,bS,bS,joT k r s h2,h1]
theorem jhW(x:EntS)(r:List EntS)(k:vN):jaX (x :: r) k=if k=x.1 then some x.2.1 else jaX r k:=by
 by_cases h:k=x.1 <;> simp[jaX,h]
theorem jpF(k:vN)(v:vV)(n:Nat):∀ es:List EntS,(jbt es k v n).map (·.2.2)=if (jaX es k).isSome then es.map (·.2.2)else es.map (·.2.2)++[n]
 | []=>rfl
 | x :: r=>by
  unfold jbt;rw[jhW]
  by_cases h:k=x.1
  ·rw[if_pos h,if_pos h];simp
  ·rw[if_neg h,if_neg h,bS,jpF k v n r]
   cases (jaX r k).isSome <;> simp
theorem jpG(k:vN)(v:vV)(n:Nat):∀ es:List EntS,(jbt es k v n).map (·.1)=if (jaX es k).isSome then es.map (·.1)else es.map (·.1)++[k]
 | []=>rfl
 | x :: r=>by
  unfold jbt;rw[jhW]
  by_cases h:k=x.1
  ·rw[if_pos h,if_pos h];simp[h]
  ·rw[if_neg h,if_neg h,bS,jpG k v n r]
   cases (jaX r k).isSome <;> simp
theorem jo9(k:vN):∀ es:List EntS,(jaX es k).isSome=false->k ∉ es.map (·.1)
 | [],_=>by simp
 | x :: r,h=>by
  rw[jhW]at h
  by_cases hk:k=x.1
  ·rw[if_pos hk]at h;cases h
  ·rw[if_neg hk]at h
   have:=jo9 k r h
   simp only[bS,bM,not_or]
   exact⟨hk,this⟩
theorem MapR.put{es:List EntS}{ck:Nat}{m:vL}(h:MapR es ck m)(p:Pair):MapR (jbt es p.k (Pair.V p) ck) (if (jaX es p.k).isSome then ck else ck+1) (putM m p):=by
 have hb:=jpF p.k (Pair.V p) ck es;have J:=jpG p.k (Pair.V p) ck es
 refine⟨put_same p ck es m h.same,?_,?_,?_⟩
 ·rw[hb]
  split
  ·exact h.born
  ·rw[fL]
   refine⟨h.born,by simp,fun a A b hb e=>?_⟩
   obtain⟨x,E,O⟩:=bK.1 A
   have:=h.lt x E
   simp at hb;omega
 ·intro x E
  have o:x.2.2∈(jbt es p.k (Pair.V p) ck).map (·.2.2):=bK.2 ⟨x,E,rfl⟩;rw[hb]at o;split at o
  ·rename_i hs
   rw[if_pos hs]
   obtain⟨y,H,e⟩:=bK.1 o
   rw[<-e];exact h.lt y H
  ·rename_i hs
   rw[if_neg hs];rcases bU.1 o with o | o
   ·obtain⟨y,H,e⟩:=bK.1 o
    have:=h.lt y H;omega
   ·simp at o;omega
 ·rw[J]
  split
  ·exact h.keys
  ·rename_i hs
   have K:=jo9 p.k es (by simpa using hs);rw[fL]
   exact⟨h.keys,by simp,fun a A b hb e=>by simp at hb;subst hb;subst e;exact K A⟩
theorem jr9(k:vN):∀ es:List EntS,(jd3 es k).Sublist es
 | []=>List.Sublist.refl _
 | x :: r=>by
  unfold jd3;split
  ·exact List.sublist_cons_self _ _
  ·exact (jr9 k r).cons_cons _
theorem MapR.del{es:List EntS}{ck:Nat}{m:vL}(h:MapR es ck m)(k:vB):MapR (jd3 es k.data.toList) ck (delM m k):=by
 have e:=jr9 k.data.toList es
 exact⟨joT k es m h.same,h.born.sublist (e.map _),fun x o=>h.lt x (e.subset o),h.keys.sublist (e.map _)⟩
theorem jo8(k:vN):∀ (es:List EntS) (m:vL),es.map eKV=m.map pKV->jaX es k=(m.find? (fun p=>decide (k=p.k))).map Pair.V
 | [],[],_=>rfl
 | [],_ :: _,h=>by cases h
 | _ :: _,[],h=>by cases h
 | x :: r,q :: s,h=>by
  rw[bS,bS]at h;injection h with h1 h2;have e:x.1=q.k:=congrArg Prod.fst h1;have o:x.2.1=Pair.V q:=congrArg Prod.snd h1;rw[jhW,fY,e]
  by_cases hp:k=q.k
  ·rw[if_pos hp];simp[hp,o]
  ·rw[if_neg hp,jo8 k r s h2];simp[hp]
theorem MapR.get{es:List EntS}{ck:Nat}{m:vL}(h:MapR es ck m){k:vN}(hk:k∈m.map Pair.k):jaX es k=some (Pair.V (⟨k.toArray⟩,valM m k)):=by
 rw[jo8 k es m h.same]
 obtain⟨p,o,e⟩:=bK.1 hk
 cases hf:m.find? (fun p=>decide (k=p.k))with
 | none=>exact absurd e.symm (by have:=List.find?_eq_none.1 hf p o;simpa using this)
 | some q =>
  have A:k=q.k:=by simpa using List.find?_some hf
  unfold valM;rw[hf]
  have:(⟨k.toArray⟩:vB)=q.1:=by rw[A]
  simp only[gQ,Option.getD_some];rw[this]
structure Chg where
 key:vB
 value:vB
 gone:Bool
def Chg.bad(c:Chg):Bool := !jcB c.key ||(c.gone && decide (c.value.size≠0)) ||(!c.gone && !jbY c.value)
def doM(m:vL)(c:Chg):vL:=if c.gone then delM m c.key else putM m (c.key,c.value)
def je1(l:vL)(cs:List Chg):vL:=cs.foldl doM (l.foldl putM [])
def jbk(l:vL)(cs:List Chg):Int:=
 if jaz l≠0 then jaz l else if cs.any Chg.bad=true then 1 else if (je1 l cs).length > 40 then 12 else 0
theorem Tryz.infoEnt:(Tryz.prog.info? 42).map (fun i=>(i.zero,i.size,i.bytes))=some (some (.agg #[.string ⟨#[]⟩,.string ⟨#[]⟩]),2,32):=vY
theorem Tryz.uEnts:Tryz.prog.underlying 22=some (.slice 42):=vY
theorem Tryz.sEnts:jdv Tryz.prog 22 42 2 32:=jdv.mk' Tryz.uEnts Tryz.infoEnt rfl vI
abbrev ERow(w0 w:vW)(v:vV)(n:Nat)(xs:vL):Prop:=ORow 42 2 w0 w v n (jca xs)
theorem ERow.rd{w0 w:vW}{v:vV}{n:Nat}{xs:vL}(h:ERow w0 w v n xs):RdP w v xs:=by
 have A:xs.length=n:=by have:=h.len;rw[jdF]at this;omega
 obtain⟨_,⟨rfl,Q⟩ |⟨g,e,E,rfl,X,H,J,Z,h7⟩⟩:=h.own
 ·exact .inl ⟨none,0,rfl,bE vO⟩
 ·subst A
  refine .inr ⟨g,0,e,rfl,(dJ.1 H).1,J,fun j x o=>?_⟩;have hj:=(bP.1 o).1
  obtain⟨K,O⟩:=jdE xs j x o
  exact⟨by rw[cH,h.own.cellAt (j * 2) vO,K],by rw[cH,h.own.cellAt (j * 2+1) vO,O]⟩
