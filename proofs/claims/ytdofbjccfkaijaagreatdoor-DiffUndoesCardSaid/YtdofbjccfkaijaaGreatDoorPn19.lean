/- Lemmas; each is under no condition but those that it states. -/
import Derived.Test.YtdofbjccfkaijaaGreatDoorPn18
namespace Go.Proofs.YtdofbjccfkaijaaGreatDoor
set_option linter.unusedSimpArgs false
set_option linter.unusedVariables false
set_option maxRecDepth 100000
set_option maxHeartbeats 16000000
open Go Go.RowKit
section
attribute [local go_sem] Oper.semAt_some
def keyB(x:EntS):vB:=⟨x.1.toArray⟩
theorem jpO(x:EntS):str x.1=.string (keyB x):=rfl
def InvS(es s:List EntS):Prop:=(s.map (·.2.2)).Nodup/\∀ x∈s,x∈es
theorem InvS.step{es s s':List EntS}{v:Array vV}(h:InvS es s)(k:jzf es s v s'):InvS es s':=by
 obtain⟨x,E,_,rfl⟩:=k
 obtain⟨H,A⟩:=cM.1 E
 have A:x.2.2 ∉ s.map (·.2.2):=by simpa [jf4]using A
 refine⟨?_,fun z o=>?_⟩
 ·rw[cB,fD]
  exact⟨h.1,by simp,fun a J b hb e=>by simp at hb;subst hb;subst e;exact A J⟩
 ·rcases bT.1 o with o | o
  ·exact h.2 z o
  ·simp at o;exact o ▸ H
theorem InvS.len{es s:List EntS}(h:InvS es s):s.length<=es.length:=by
 have:=gI h.1 (l₂:=es.map (·.2.2)) (fun k o=>by
  obtain⟨z,A,e⟩:=bJ.1 o;exact bJ.2 ⟨z,h.2 z A,e⟩)
 simpa using this
theorem InvS.perm{es s:List EntS}(h:InvS es s)(hd:jp7 es s)(hst:(es.map (·.2.2)).Nodup)(hkn:(es.map (·.1)).Nodup):(s.map (·.1)).Perm (es.map (·.1)):=by
 have o:∀ x∈es,x∈s:=by
  intro x E
  by_cases hc:x.2.2∈s.map (·.2.2)
  ·obtain⟨z,A,e⟩:=bJ.1 hc
   have:=jbH hst (h.2 z A) E e
   exact this ▸ A
  ·have:x∈ja1 es (jf4 s):=by
    refine cM.2 ⟨E,?_⟩;simpa [jf4]using hc
   rw[hd]at this;cases this
 have H:(s.map (·.1)).Nodup:=by
  have J:=h.1;have K:=h.2;clear h hd o;induction s with
  | nil=>simp
  | cons z r ih =>
   rw[bV,dV]at J ⊢
   refine⟨fun X=>?_,ih J.2 (fun x E=>K x (bE _ E))⟩
   obtain⟨y,Q,e⟩:=bJ.1 X
   have:=jbH hkn (K y (bE _ Q)) (K z (bH ..)) e
   exact J.1 (bJ.2 ⟨y,Q,by rw[this]⟩)
 refine jiW H hkn fun k=>?_;constructor
 ·intro O;obtain⟨z,A,e⟩:=bJ.1 O;exact bJ.2 ⟨z,h.2 z A,e⟩
 ·intro O;obtain⟨z,A,e⟩:=bJ.1 O;exact bJ.2 ⟨z,o z A,e⟩
structure AppS(w:World)(es s:List EntS)(W:World):Prop where
 ext:Ext w W
 inv:InvS es s
 var:∃ v,Blk W w.heap.size (.cells #[v] 28)/\W.ownsRow 0 9 1 v s.length ((s.map keyB).map Value.string)/\∀ b,v.ownBlock=some b->w.heap.size+4<=b
theorem AppS.st{w:vW}{es s:List EntS}{W W':vW}(h:AppS w es s W)(k:jaf (fun b=>b=w.heap.size+1\/b=w.heap.size+1+1\/b=w.heap.size+1+2) W W'):AppS w es s W':=by
 obtain⟨v,z,A,o⟩:=h.var
 exact⟨h.ext.trans' k (fun x E e=>by omega),h.inv,v,z.keeps k vO,jbc A k (fun b hb e=>by have:=o b hb;omega),o⟩
theorem juE(w:vW)(bx bm ck:Nat)(es:List EntS)(hk:KyS bx bm ck es w)(hnd:(es.map (·.2.2)).Nodup)(z:∀ x∈es,x.2.2 < ck)(hlen:es.length<=1000000) :
  vQ 85 #[.slice none 0 0,.func (.func 46) #[] #[.pointer (some ⟨bx,0,none⟩)]] w fun e w'=>∃ u s,e=.returned u/\InvS es s/\jp7 es s/\SRow w w' u s.length (s.map keyB):=by
 have a5:=Hd (jxT bx bm ck es hnd z);have HK:=Hd hk;clear hk hnd z;refine (callsIn_wide (n:=0)).1 ?_;refine callsIn_of_wp_marks Tryz.func85 rfl trivial ?_ rfl;simp only[Tryz.ntmps85,dL,bF,cF,Nat.reduceAdd,Nat.reduceSub,dO,dN,fC,dS,cP,cZ];gi_wp2_with fail
 obtain⟨w1,E⟩:=vE (w.alloc (.cells #[.slice none 0 0] 28))
 rw[<-E];have A:w1.heap.size=w.heap.size+1:=by rw[E];simp
 have S0:AppS w es [] w1:=by
  rw[E]
  exact⟨(ExtR w).alloc _,⟨by simp,fun x hx=>by cases hx⟩,_,Blk.new w _,gA _ _ _ _,fun b hb=>by cases hb⟩
 have Q:=Hd S0;clear S0 E;refine juo (gf:=46) (lb:=#[.pointer (some ⟨bx,0,none⟩)]) rfl (vX 46) a5.o
  (fun s v s' h=>by obtain⟨x,_,rfl,_⟩:=h;rfl) (AppS w es) (fun s W W' h k=>h.st (by rw[A]at k;exact k)) (fun s W h=>⟨HK.o.1.keeps h.ext (fun h=>h),HK.o.2.keeps h.ext (fun h=>h)⟩) Q.o
  (fun v=>{ tmps:=#[.slice none 0 0,.func (.func 46) #[] #[.pointer (some ⟨bx,0,none⟩)],.pointer (some ⟨w.heap.size,0,none⟩),undef,.slice none 0 0,v.getD 0 undef,.func (.func 46) #[] #[.pointer (some ⟨bx,0,none⟩)],v.getD 0 undef,undef,undef,undef,undef,undef],defers:=[] })
  ?hassign ?hbody ?hdone
 case hassign =>
  intro l2 v s s' W K H hK
  obtain⟨x,_,rfl,_⟩:=H
  rw[jpO]at hK ⊢;rw[jz5];simp only[dM,dF];gi_wp2;exact hK
 case hbody =>
  intro l2 v s s' W H h z;have hinv:=h.inv.step H
  obtain⟨x,hx,rfl,rfl⟩:=H
  obtain⟨v,J,O,h3⟩:=h.var
  obtain⟨X,Z,rfl⟩:=jaU O
  rw[jpO]
  obtain⟨q,hq⟩:=vE (keyB x)
  rw[<-hq];have a6:s.length<=1000000:=bK h.inv.len hlen;have hV:=J.cell (i:=0) (v:=.slice X s.length Z) vF;have b2:W.frozen? ⟨w.heap.size,0,none⟩=false:=J.frozen
  obtain⟨n,hn⟩:=vE s.length
  rw[<-hn]at O a6 hV J h3;have z:w.heap.size+3 < W.heap.size:=by rw[A]at z;omega
  have HN:=Hd hn;have HQ:=Hd hq;have HV:=Hd J;have HO:=Hd O;have H3:=Hd h3;have HE:=Hd h.ext;have HI:=Hd hinv;rw[show (#[Value.string q]:Array vV).getD 0 undef=.string q from rfl];clear h J O h3 hinv hx hn hq Q
  obtain⟨i0,hi,a7,a8,a9⟩:=info_parts Tryz.infoStr
  gi_wp2_with (gi_at_builtin;refine jb3 _ rfl (.tmp 8) (.tmp 10) 28 rfl 9 i0 _ 1 16 Tryz.uStrs hi a7 a8 a9 rfl vI (.slice X n Z) n _ rfl (jbo HO.o ((ExtR W).alloc _)) ⟨W.heap.size,0,none⟩ 1 1 [.string q] rfl rfl (jaI (Blk.new W _)) (by simp[Value.oneCell']) (by unfold maxLen;omega) vO ?_;intro v' w6 r1 r2 r3;obtain⟨a0,a1,rfl⟩:=jaU r1;have a2:=(HV.o.alloc _).keeps r2 (fun e=>by have:=H3.o _ e;omega);have b3:w6.cell? ⟨w.heap.size,0,none⟩=some (.slice X n Z):=a2.cell (i:=0) vF;have b4:w6.frozen? ⟨w.heap.size,0,none⟩=false:=a2.frozen)
  have b0:w6.ownsRow 0 9 1 (.slice a0 (n+1) a1) (s++[x]).length (((s++[x]).map keyB).map Value.string):=by
   rw[bC, <-HN.o,cB,cB]
   have:=r1;rw[HQ.o]at this;exact this
  have K6:jaf (fun b=>(Value.slice X n Z).ownBlock=some b) W w6:=((jaf.refl _ W).alloc _).trans r2;have a3:∀ b,(Value.slice a0 (n+1) a1).ownBlock=some b->w.heap.size+4<=b:=fun b hb=>by
   rcases r3 with r3 | r3
   ·exact H3.o b (r3 ▸ hb)
   ·have h9:=r3 b hb;rw[bR]at h9;omega
  have K7:jaf (fun b=>b=w.heap.size) w6 (w6.setCell ⟨w.heap.size,0,none⟩ (.slice a0 (n+1) a1)):=jaf.oneSet w6 ⟨w.heap.size,0,none⟩ _
  refine⟨(K6.mono (fun y _ e=>?_)).trans (K7.mono (fun y _ e=>?_)),?_⟩
  ·have:=H3.o y e;rw[A];omega
  ·have e:y=_:=e;rw[A];omega
  ·exact⟨(HE.o.trans' K6 (fun y hy e=>by have:=H3.o y e;omega)).trans' K7 (fun y hy e=>by have e:y=_:=e;omega),HI.o,
    _,a2.set_same (i:=0) _,jbc b0 K7 (fun b hb e=>by have:=a3 b hb;omega),a3⟩
 case hdone =>
  intro s W a4 h hd
  obtain⟨v,J,O,h3⟩:=h.var
  obtain⟨X,Z,rfl⟩:=jaU O
  have q5:W.cell? ⟨w.heap.size,0,none⟩=some (.slice X s.length Z):=J.cell (i:=0) vF;have H2:=Hd O;have H3:=Hd h3;have HX:=Hd h.ext;have HI:=Hd h.inv;have b1:=Hd a4;have HD:=Hd hd;clear h J O h3 hd a4 Q;gi_wp2_with fail
  refine⟨by simp,.inl ⟨_,_,rfl,run_takeDeferred HD.o,?_⟩⟩
  refine⟨_,results_tmp rfl _ _ _,?_⟩
  have hK:=jaf.onePut W w1.heap.size (.deferred none)
  exact⟨.slice X s.length Z,s,rfl,HI.o,b1.o,⟨_,_,rfl⟩,jbc H2.o hK (fun b hb e=>by have:=H3.o b hb;rw[A]at e;omega),HX.o.putObj (.inr vO) _,fun b hb=>by have:=H3.o b hb;omega⟩
theorem jvx(s:List EntS):(s.map keyB).map Value.string=(s.map (·.1)).map encStr:=by
 rw[dJ,dJ];rfl
theorem jrW(w:vW)(bx bm ck:Nat)(es:List EntS)(hk:KyS bx bm ck es w)(hnd:(es.map (·.2.2)).Nodup)(hlt:∀ x∈es,x.2.2 < ck)(hlen:es.length<=1000000) :
  vQ 45 #[.func (.func 46) #[] #[.pointer (some ⟨bx,0,none⟩)]] w fun e w'=>∃ u s,e=.returned u/\InvS es s/\jp7 es s/\SRow w w' u s.length (s.map keyB):=by
 have A:=Hd (juE w bx bm ck es hk hnd hlt hlen);clear hk hnd hlt hlen;go_enter Tryz.func45,Tryz.ntmps45;go_wp2_with fail
 refine A.o.mono ?_;rintro e w1 ⟨u,s,rfl,E,J,z⟩
 obtain⟨a,c,rfl⟩:=z.sl
 have H:=Hd (bB E (bB J z));clear E J z A;go_wp2_with fail
 go_ret
 exact⟨_,s,rfl,H.o⟩
theorem jwq(w:vW)(bx bm ck:Nat)(es:List EntS)(hk:KyS bx bm ck es w)(hnd:(es.map (·.2.2)).Nodup)(hkn:(es.map (·.1)).Nodup)(hlt:∀ x∈es,x.2.2 < ck)(hlen:es.length<=1000000) :
  vQ 23 #[.func (.func 46) #[] #[.pointer (some ⟨bx,0,none⟩)]] w fun e w'=>∃ u,e=.returned u/\SRow w w' u es.length (baL (jdD (es.map (·.1)))):=by
 have Z:=Hd (jrW w bx bm ck es hk hnd hlt hlen);have HP:=Hd (fun s (J:InvS es s) (K:jp7 es s)=>J.perm K hnd hkn);have HL:=Hd hlen;clear hk hnd hlt hlen hkn;go_enter Tryz.func23,Tryz.ntmps23;go_wp2_with fail
 refine Z.o.mono ?_;rintro e w1 ⟨u,s,rfl,J,K,Q⟩
 obtain⟨a,c,rfl⟩:=Q.sl
 have X:=HP.o s J K;have A:s.length=es.length:=by simpa using X.length_eq
 have E:ORow 9 1 w w1 (.slice a s.length c) s.length ((s.map (·.1)).map encStr):=by
  have z:=Q;unfold SRow at z;rw[jvx]at z;exact z
 have O:=Hd (jt5 E (by have:=HL.o;omega));rw[jhC X]at O;rw[A]at O ⊢;clear J K Q E Z HP X A;go_wp2_with fail
 refine O.o.mono ?_;rintro e w2 ⟨rfl,z⟩;have H:=Hd z;clear z O;go_wp2_with fail
 go_ret
 refine⟨_,rfl,?_⟩
 unfold SRow;rw[jnp];exact H.o
theorem jsS(w:vW)(bm:Nat):vQ 24 #[.map (some bm)] w fun e w'=>e=.returned (.func (.func 46) #[] #[.pointer (some ⟨w.heap.size,0,none⟩)])/\Blk w' w.heap.size (.cells #[.map (some bm)] 56)/\Ext w w':=by
 unfold vQ;go_in;go_wp2_with fail
 go_ret
 exact⟨rfl,Blk.new w _,(ExtR w).alloc _⟩
end
def putM:vL->Pair->vL
 | [],p=>[p]
 | q :: r,p=>if p.k=q.k then p :: r else q :: putM r p
def delM:vL->vB->vL
 | [],_=>[]
 | q :: r,k=>if k.data.toList=q.k then r else q :: delM r k
def valM(m:vL)(k:vN):vB:=((m.find? (fun p=>decide (k=p.k))).map (·.2)).getD ⟨#[]⟩
def jcH(m:vL):vL:=(jdD (m.map Pair.k)).map fun k=>(⟨k.toArray⟩,valM m k)
def eKV(x:EntS):vN × vV:=(x.1,x.2.1)
def pKV(p:Pair):vN × vV:=(p.k,Pair.V p)
structure MapR(es:List EntS)(ck:Nat)(m:vL):Prop where
 same:es.map eKV=m.map pKV
 born:(es.map (·.2.2)).Nodup
 lt:∀ x∈es,x.2.2 < ck
 keys:(es.map (·.1)).Nodup
theorem MapR.nil(ck:Nat):MapR [] ck []:=⟨rfl,by simp,by simp,by simp⟩
theorem MapR.keysEq{es:List EntS}{ck:Nat}{m:vL}(h:MapR es ck m):es.map (·.1)=m.map Pair.k:=by
 have:=congrArg (List.map Prod.fst) h.same
 rw[dJ,dJ]at this;exact this
theorem MapR.len{es:List EntS}{ck:Nat}{m:vL}(h:MapR es ck m):es.length=m.length:=by
 have:=congrArg List.length h.same;simpa using this
theorem put_same(p:Pair)(n:Nat):∀ (es:List EntS) (m:vL),es.map eKV=m.map pKV->(jbs es p.k (Pair.V p) n).map eKV=(putM m p).map pKV
 | [],[],_=>rfl
 | [],_ :: _,h=>by cases h
 | _ :: _,[],h=>by cases h
 | x :: r,q :: s,h=>by
  rw[bV,bV]at h;injection h with h1 h2;have e:x.1=q.k:=congrArg Prod.fst h1;unfold jbs putM;rw[<-e]
  by_cases hp:p.k=x.1
  ·rw[if_pos hp,if_pos hp,bV,bV,h2];rfl
  ·rw[if_neg hp,if_neg hp,bV,bV,put_same p n r s h2,h1]
theorem joG(k:vB):∀ (es:List EntS) (m:vL),es.map eKV=m.map pKV->(jd3 es k.data.toList).map eKV=(delM m k).map pKV
 | [],[],_=>rfl
 | [],_ :: _,h=>by cases h
 | _ :: _,[],h=>by cases h
 | x :: r,q :: s,h=>by
  rw[bV,bV]at h;injection h with h1 h2;have e:x.1=q.k:=congrArg Prod.fst h1;unfold jd3 delM;rw[<-e]
  by_cases hp:k.data.toList=x.1
  ·rw[if_pos hp,if_pos hp,h2]
  ·rw[if_neg hp,if_neg hp,bV,bV,joG k r s h2,h1]
theorem jh0(x:EntS)(r:List EntS)(k:vN):jaZ (x :: r) k=if k=x.1 then some x.2.1 else jaZ r k:=by
 by_cases h:k=x.1 <;> simp[jaZ,h]
theorem jpz(k:vN)(v:vV)(n:Nat):∀ es:List EntS,(jbs es k v n).map (·.2.2)=if (jaZ es k).isSome then es.map (·.2.2)else es.map (·.2.2)++[n]
 | []=>rfl
 | x :: r=>by
  unfold jbs;rw[jh0]
  by_cases h:k=x.1
  ·rw[if_pos h,if_pos h];simp
  ·rw[if_neg h,if_neg h,bV,jpz k v n r]
   cases (jaZ r k).isSome <;> simp
theorem jpA(k:vN)(v:vV)(n:Nat):∀ es:List EntS,(jbs es k v n).map (·.1)=if (jaZ es k).isSome then es.map (·.1)else es.map (·.1)++[k]
 | []=>rfl
 | x :: r=>by
  unfold jbs;rw[jh0]
  by_cases h:k=x.1
  ·rw[if_pos h,if_pos h];simp[h]
  ·rw[if_neg h,if_neg h,bV,jpA k v n r]
   cases (jaZ r k).isSome <;> simp
theorem joX(k:vN):∀ es:List EntS,(jaZ es k).isSome=false->k ∉ es.map (·.1)
 | [],_=>by simp
 | x :: r,h=>by
  rw[jh0]at h
  by_cases hk:k=x.1
  ·rw[if_pos hk]at h;cases h
  ·rw[if_neg hk]at h
   have:=joX k r h
   simp only[bV,bM,not_or]
   exact⟨hk,this⟩
theorem MapR.put{es:List EntS}{ck:Nat}{m:vL}(h:MapR es ck m)(p:Pair):MapR (jbs es p.k (Pair.V p) ck) (if (jaZ es p.k).isSome then ck else ck+1) (putM m p):=by
 have hb:=jpz p.k (Pair.V p) ck es;have H:=jpA p.k (Pair.V p) ck es
 refine⟨put_same p ck es m h.same,?_,?_,?_⟩
 ·rw[hb]
  split
  ·exact h.born
  ·rw[fD]
   refine⟨h.born,by simp,fun a z b hb e=>?_⟩
   obtain⟨x,A,K⟩:=bJ.1 z
   have:=h.lt x A
   simp at hb;omega
 ·intro x A
  have o:x.2.2∈(jbs es p.k (Pair.V p) ck).map (·.2.2):=bJ.2 ⟨x,A,rfl⟩;rw[hb]at o;split at o
  ·rename_i hs
   rw[if_pos hs]
   obtain⟨y,E,e⟩:=bJ.1 o
   rw[<-e];exact h.lt y E
  ·rename_i hs
   rw[if_neg hs];rcases bT.1 o with o | o
   ·obtain⟨y,E,e⟩:=bJ.1 o
    have:=h.lt y E;omega
   ·simp at o;omega
 ·rw[H]
  split
  ·exact h.keys
  ·rename_i hs
   have J:=joX p.k es (by simpa using hs);rw[fD]
   exact⟨h.keys,by simp,fun a z b hb e=>by simp at hb;subst hb;subst e;exact J z⟩
theorem jsa(k:vN):∀ es:List EntS,(jd3 es k).Sublist es
 | []=>List.Sublist.refl _
 | x :: r=>by
  unfold jd3;split
  ·exact List.sublist_cons_self _ _
  ·exact (jsa k r).cons_cons _
theorem MapR.del{es:List EntS}{ck:Nat}{m:vL}(h:MapR es ck m)(k:vB):MapR (jd3 es k.data.toList) ck (delM m k):=by
 have e:=jsa k.data.toList es
 exact⟨joG k es m h.same,h.born.sublist (e.map _),fun x o=>h.lt x (e.subset o),h.keys.sublist (e.map _)⟩
theorem joW(k:vN):∀ (es:List EntS) (m:vL),es.map eKV=m.map pKV->jaZ es k=(m.find? (fun p=>decide (k=p.k))).map Pair.V
 | [],[],_=>rfl
 | [],_ :: _,h=>by cases h
 | _ :: _,[],h=>by cases h
 | x :: r,q :: s,h=>by
  rw[bV,bV]at h;injection h with h1 h2;have e:x.1=q.k:=congrArg Prod.fst h1;have o:x.2.1=Pair.V q:=congrArg Prod.snd h1;rw[jh0,fX,e]
  by_cases hp:k=q.k
  ·rw[if_pos hp];simp[hp,o]
  ·rw[if_neg hp,joW k r s h2];simp[hp]
theorem MapR.get{es:List EntS}{ck:Nat}{m:vL}(h:MapR es ck m){k:vN}(hk:k∈m.map Pair.k):jaZ es k=some (Pair.V (⟨k.toArray⟩,valM m k)):=by
 rw[joW k es m h.same]
 obtain⟨p,o,e⟩:=bJ.1 hk
 cases hf:m.find? (fun p=>decide (k=p.k))with
 | none=>exact absurd e.symm (by have:=List.find?_eq_none.1 hf p o;simpa using this)
 | some q =>
  have z:k=q.k:=by simpa using List.find?_some hf
  unfold valM;rw[hf]
  have:(⟨k.toArray⟩:vB)=q.1:=by rw[z]
  simp only[gO,Option.getD_some];rw[this]
structure Chg where
 key:vB
 value:vB
 gone:Bool
def Chg.bad(c:Chg):Bool := !jcj c.key ||(c.gone && decide (c.value.size≠0)) ||(!c.gone && !jbS c.value)
def doM(m:vL)(c:Chg):vL:=if c.gone then delM m c.key else putM m (c.key,c.value)
def jcT(l:vL)(cs:List Chg):vL:=cs.foldl doM (l.foldl putM [])
def jaW(l:vL)(cs:List Chg):Int:=
 if jaw l≠0 then jaw l else if cs.any Chg.bad=true then 1 else if (jcT l cs).length > 40 then 12 else 0
theorem Tryz.infoEnt:(Tryz.prog.info? 47).map (fun i=>(i.zero,i.size,i.bytes))=some (some (.agg #[.string ⟨#[]⟩,.string ⟨#[]⟩]),2,32):=vY
theorem Tryz.uEnts:Tryz.prog.underlying 22=some (.slice 47):=vY
theorem Tryz.sEnts:jd0 Tryz.prog 22 47 2 32:=jd0.mk' Tryz.uEnts Tryz.infoEnt rfl vI
abbrev ERow(w0 w:vW)(v:vV)(n:Nat)(xs:vL):Prop:=ORow 47 2 w0 w v n (jb8 xs)
theorem ERow.rd{w0 w:vW}{v:vV}{n:Nat}{xs:vL}(h:ERow w0 w v n xs):RdP w v xs:=by
 have z:xs.length=n:=by have:=h.len;rw[jdH]at this;omega
 obtain⟨_,⟨rfl,O⟩ |⟨g,e,A,rfl,Q,E,H,X,Z⟩⟩:=h.own
 ·exact .inl ⟨none,0,rfl,bD vO⟩
 ·subst z
  refine .inr ⟨g,0,e,rfl,(dK.1 E).1,H,fun j x o=>?_⟩;have hj:=(bP.1 o).1
  obtain⟨J,K⟩:=jdG xs j x o
  exact⟨by rw[cG,h.own.cellAt (j * 2) vO,J],by rw[cG,h.own.cellAt (j * 2+1) vO,K]⟩
