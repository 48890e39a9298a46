/- Lemmas; each is under no condition but those that it states. -/
import Derived.Test.YtcpnjmcipainpaaGreatDoorPr22
import Derived.Test.YtcpnjmcipainpaaGreatDoorPr24
namespace Go.Proofs.YtcpnjmcipainpaaGreatDoor
set_option linter.unusedSimpArgs false
set_option linter.unusedVariables false
set_option maxRecDepth 100000
set_option maxHeartbeats 16000000
open Go Go.RowKit
section
attribute [local go_sem] Oper.semAt_some
theorem js9(s:List EntS):(s.map keyB).map Value.string=(s.map (·.1)).map encStr:=by
 rw[List.map_map,List.map_map];rfl
theorem jpR(w:World)(bx bm ck:Nat)(es:List EntS)(hk:KyS bx bm ck es w)(hnd:(es.map (·.2.2)).Nodup)(hlt:∀ x∈es,x.2.2 < ck)(hlen:es.length<=1000000) :
  vQ 161 #[.func (.func 162) #[] #[.pointer (some ⟨bx,0,none⟩)]] w fun e w'=>∃ u s,e=.returned u/\InvS es s/\jn6 es s/\SRow w w' u s.length (s.map keyB):=by
 have HT:=Hd (jsj w bx bm ck es hk hnd hlt hlen);clear hk hnd hlt hlen;go_enter Tryz.func161,Tryz.ntmps161;go_wp2_with fail
 refine HT.o.mono ?_;rintro e w1 ⟨u,s,rfl,h1,h2,h3⟩
 obtain⟨a,c,rfl⟩:=h3.sl
 have H:=Hd (And.intro h1 (And.intro h2 h3));clear h1 h2 h3 HT;go_wp2_with fail
 go_ret
 exact⟨_,s,rfl,H.o⟩
theorem jtW(w:World)(bx bm ck:Nat)(es:List EntS)(hk:KyS bx bm ck es w)(hnd:(es.map (·.2.2)).Nodup)(hkn:(es.map (·.1)).Nodup)(hlt:∀ x∈es,x.2.2 < ck)(hlen:es.length<=1000000) :
  vQ 111 #[.func (.func 162) #[] #[.pointer (some ⟨bx,0,none⟩)]] w fun e w'=>∃ u,e=.returned u/\SRow w w' u es.length (baL (jfL (es.map (·.1)))):=by
 have HT:=Hd (jpR w bx bm ck es hk hnd hlt hlen);have HP:=Hd (fun s (h1:InvS es s) (h2:jn6 es s)=>h1.perm h2 hnd hkn);have HL:=Hd hlen;clear hk hnd hlt hlen hkn;go_enter Tryz.func111,Tryz.ntmps111;go_wp2_with fail
 refine HT.o.mono ?_;rintro e w1 ⟨u,s,rfl,h1,h2,h3⟩
 obtain⟨a,c,rfl⟩:=h3.sl
 have hp:=HP.o s h1 h2;have hsl:s.length=es.length:=by simpa using hp.length_eq
 have h3':ORow 9 1 w w1 (.slice a s.length c) s.length ((s.map (·.1)).map encStr):=by
  have h4:=h3;unfold SRow at h4;rw[js9]at h4;exact h4
 have HS:=Hd (jxY h3' (by have:=HL.o;omega));rw[jo5 hp]at HS;rw[hsl]at HS ⊢;clear h1 h2 h3 h3' HT HP hp hsl;go_wp2_with fail
 refine HS.o.mono ?_;rintro e w2 ⟨rfl,h4⟩;have H:=Hd h4;clear h4 HS;go_wp2_with fail
 go_ret
 refine⟨_,rfl,?_⟩
 unfold SRow;rw[juY];exact H.o
theorem jqH(w:World)(bm:Nat):vQ 112 #[.map (some bm)] w fun e w'=>e=.returned (.func (.func 162) #[] #[.pointer (some ⟨w.heap.size,0,none⟩)])/\Blk w' w.heap.size (.cells #[.map (some bm)] 171)/\Ext w w':=by
 go_enter Tryz.func112,Tryz.ntmps112;go_wp2_with fail
 go_ret
 exact⟨rfl,Blk.new w _,(ExtR w).alloc _⟩
end
def putM:List Pair->Pair->List Pair
 | [],p=>[p]
 | q :: r,p=>if p.k=q.k then p :: r else q :: putM r p
def delM:List Pair->vB->List Pair
 | [],_=>[]
 | q :: r,k=>if k.data.toList=q.k then r else q :: delM r k
def valM(m:List Pair)(k:List UInt8):vB:=((m.find? (fun p=>decide (k=p.k))).map (·.2)).getD ⟨#[]⟩
def jcO(m:List Pair):List Pair:=(jfL (m.map Pair.k)).map fun k=>(⟨k.toArray⟩,valM m k)
def eKV(x:EntS):List UInt8 × Value:=(x.1,x.2.1)
def pKV(p:Pair):List UInt8 × Value:=(p.k,Pair.V p)
structure MapR(es:List EntS)(ck:Nat)(m:List Pair):Prop where
 same:es.map eKV=m.map pKV
 born:(es.map (·.2.2)).Nodup
 lt:∀ x∈es,x.2.2 < ck
 keys:(es.map (·.1)).Nodup
theorem MapR.nil(ck:Nat):MapR [] ck []:=⟨rfl,by simp,by simp,by simp⟩
theorem MapR.keysEq{es:List EntS}{ck:Nat}{m:List Pair}(h:MapR es ck m):es.map (·.1)=m.map Pair.k:=by
 have:=congrArg (List.map Prod.fst) h.same
 rw[List.map_map,List.map_map]at this;exact this
theorem MapR.len{es:List EntS}{ck:Nat}{m:List Pair}(h:MapR es ck m):es.length=m.length:=by
 have:=congrArg List.length h.same;simpa using this
theorem put_same(p:Pair)(n:Nat):∀ (es:List EntS) (m:List Pair),es.map eKV=m.map pKV->(jbn es p.k (Pair.V p) n).map eKV=(putM m p).map pKV
 | [],[],_=>rfl
 | [],_ :: _,h=>by cases h
 | _ :: _,[],h=>by cases h
 | x :: r,q :: s,h=>by
  rw[List.map_cons,List.map_cons]at h;injection h with h1 h2;have hk:x.1=q.k:=congrArg Prod.fst h1;unfold jbn putM;rw[<-hk]
  by_cases hp:p.k=x.1
  ·rw[if_pos hp,if_pos hp,List.map_cons,List.map_cons,h2];rfl
  ·rw[if_neg hp,if_neg hp,List.map_cons,List.map_cons,put_same p n r s h2,h1]
theorem jm5(k:vB):∀ (es:List EntS) (m:List Pair),es.map eKV=m.map pKV->(jdF es k.data.toList).map eKV=(delM m k).map pKV
 | [],[],_=>rfl
 | [],_ :: _,h=>by cases h
 | _ :: _,[],h=>by cases h
 | x :: r,q :: s,h=>by
  rw[List.map_cons,List.map_cons]at h;injection h with h1 h2;have hk:x.1=q.k:=congrArg Prod.fst h1;unfold jdF delM;rw[<-hk]
  by_cases hp:k.data.toList=x.1
  ·rw[if_pos hp,if_pos hp,h2]
  ·rw[if_neg hp,if_neg hp,List.map_cons,List.map_cons,jm5 k r s h2,h1]
theorem jhb(x:EntS)(r:List EntS)(k:List UInt8):jaX (x :: r) k=if k=x.1 then some x.2.1 else jaX r k:=by
 by_cases h:k=x.1 <;> simp[jaX,h]
theorem jnE(k:List UInt8)(v:Value)(n:Nat):∀ es:List EntS,(jbn es k v n).map (·.2.2)=if (jaX es k).isSome then es.map (·.2.2)else es.map (·.2.2)++[n]
 | []=>rfl
 | x :: r=>by
  unfold jbn;rw[jhb]
  by_cases h:k=x.1
  ·rw[if_pos h,if_pos h];simp
  ·rw[if_neg h,if_neg h,List.map_cons,jnE k v n r]
   cases (jaX r k).isSome <;> simp
theorem jnF(k:List UInt8)(v:Value)(n:Nat):∀ es:List EntS,(jbn es k v n).map (·.1)=if (jaX es k).isSome then es.map (·.1)else es.map (·.1)++[k]
 | []=>rfl
 | x :: r=>by
  unfold jbn;rw[jhb]
  by_cases h:k=x.1
  ·rw[if_pos h,if_pos h];simp[h]
  ·rw[if_neg h,if_neg h,List.map_cons,jnF k v n r]
   cases (jaX r k).isSome <;> simp
theorem jni(k:List UInt8):∀ es:List EntS,(jaX es k).isSome=false->k ∉ es.map (·.1)
 | [],_=>by simp
 | x :: r,h=>by
  rw[jhb]at h
  by_cases hk:k=x.1
  ·rw[if_pos hk]at h;cases h
  ·rw[if_neg hk]at h
   have:=jni k r h
   simp only[List.map_cons,List.mem_cons,not_or]
   exact⟨hk,this⟩
theorem MapR.put{es:List EntS}{ck:Nat}{m:List Pair}(h:MapR es ck m)(p:Pair):MapR (jbn es p.k (Pair.V p) ck) (if (jaX es p.k).isSome then ck else ck+1) (putM m p):=by
 have hb:=jnE p.k (Pair.V p) ck es;have hk:=jnF p.k (Pair.V p) ck es
 refine⟨put_same p ck es m h.same,?_,?_,?_⟩
 ·rw[hb]
  split
  ·exact h.born
  ·rw[List.nodup_append]
   refine⟨h.born,by simp,fun a ha b hb e=>?_⟩
   obtain⟨x,hx,e1⟩:=List.mem_map.1 ha
   have:=h.lt x hx
   simp at hb;omega
 ·intro x hx
  have hm:x.2.2∈(jbn es p.k (Pair.V p) ck).map (·.2.2):=List.mem_map.2 ⟨x,hx,rfl⟩;rw[hb]at hm;split at hm
  ·rename_i hs
   rw[if_pos hs]
   obtain⟨y,hy,e⟩:=List.mem_map.1 hm
   rw[<-e];exact h.lt y hy
  ·rename_i hs
   rw[if_neg hs];rcases List.mem_append.1 hm with hm | hm
   ·obtain⟨y,hy,e⟩:=List.mem_map.1 hm
    have:=h.lt y hy;omega
   ·simp at hm;omega
 ·rw[hk]
  split
  ·exact h.keys
  ·rename_i hs
   have hn:=jni p.k es (by simpa using hs);rw[List.nodup_append]
   exact⟨h.keys,by simp,fun a ha b hb e=>by simp at hb;subst hb;subst e;exact hn ha⟩
theorem jp5(k:List UInt8):∀ es:List EntS,(jdF es k).Sublist es
 | []=>List.Sublist.refl _
 | x :: r=>by
  unfold jdF;split
  ·exact List.sublist_cons_self _ _
  ·exact (jp5 k r).cons_cons _
theorem MapR.del{es:List EntS}{ck:Nat}{m:List Pair}(h:MapR es ck m)(k:vB):MapR (jdF es k.data.toList) ck (delM m k):=by
 have hs:=jp5 k.data.toList es
 exact⟨jm5 k es m h.same,h.born.sublist (hs.map _),fun x hx=>h.lt x (hs.subset hx),h.keys.sublist (hs.map _)⟩
theorem jnh(k:List UInt8):∀ (es:List EntS) (m:List Pair),es.map eKV=m.map pKV->jaX es k=(m.find? (fun p=>decide (k=p.k))).map Pair.V
 | [],[],_=>rfl
 | [],_ :: _,h=>by cases h
 | _ :: _,[],h=>by cases h
 | x :: r,q :: s,h=>by
  rw[List.map_cons,List.map_cons]at h;injection h with h1 h2;have hk:x.1=q.k:=congrArg Prod.fst h1;have hv:x.2.1=Pair.V q:=congrArg Prod.snd h1;rw[jhb,List.find?_cons,hk]
  by_cases hp:k=q.k
  ·rw[if_pos hp];simp[hp,hv]
  ·rw[if_neg hp,jnh k r s h2];simp[hp]
theorem MapR.get{es:List EntS}{ck:Nat}{m:List Pair}(h:MapR es ck m){k:List UInt8}(hk:k∈m.map Pair.k):jaX es k=some (Pair.V (⟨k.toArray⟩,valM m k)):=by
 rw[jnh k es m h.same]
 obtain⟨p,hp,e⟩:=List.mem_map.1 hk
 cases hf:m.find? (fun p=>decide (k=p.k))with
 | none=>exact absurd e.symm (by have:=List.find?_eq_none.1 hf p hp;simpa using this)
 | some q =>
  have hq:k=q.k:=by simpa using List.find?_some hf
  unfold valM;rw[hf]
  have:(⟨k.toArray⟩:vB)=q.1:=by rw[hq]
  simp only[Option.map_some,Option.getD_some];rw[this]
structure Chg where
 key:vB
 value:vB
 gone:Bool
def Chg.bad(c:Chg):Bool := !jdI c.key ||(c.gone && decide (c.value.size≠0)) ||(!c.gone && !jdc c.value)
def doM(m:List Pair)(c:Chg):List Pair:=if c.gone then delM m c.key else putM m (c.key,c.value)
def jdW(l:List Pair)(cs:List Chg):List Pair:=cs.foldl doM (l.foldl putM [])
def jbs(l:List Pair)(cs:List Chg):Int:=
 if jaG l≠0 then jaG l else if cs.any Chg.bad=true then 1 else if (jdW l cs).length > 40 then 12 else 0
theorem Tryz.infoEnt:(Tryz.prog.info? 95).map (fun i=>(i.zero,i.size,i.bytes))=some (some (.agg #[.string ⟨#[]⟩,.string ⟨#[]⟩]),2,32):=by kernel_rfl
theorem Tryz.uEnts:Tryz.prog.underlying 22=some (.slice 95):=by kernel_rfl
theorem Tryz.sEnts:jeF Tryz.prog 22 95 2 32:=jeF.mk' Tryz.uEnts Tryz.infoEnt rfl vI
abbrev ERow(w0 w:World)(v:Value)(n:Nat)(xs:List Pair):Prop:=ORow 95 2 w0 w v n (jdX xs)
theorem ERow.rd{w0 w:World}{v:Value}{n:Nat}{xs:List Pair}(h:ERow w0 w v n xs):RdP w v xs:=by
 have hl:xs.length=n:=by have:=h.len;rw[jgr]at this;omega
 obtain⟨_,⟨rfl,h2⟩ |⟨g,cap,cur,rfl,h3,h4,h5,h6,h7⟩⟩:=h.own
 ·exact .inl ⟨none,0,rfl,List.eq_nil_of_length_eq_zero vO⟩
 ·subst hl
  refine .inr ⟨g,0,cap,rfl,(Array.getElem?_eq_some_iff.1 h4).1,h5,fun j x hx=>?_⟩;have hj:=(List.getElem?_eq_some_iff.1 hx).1
  obtain⟨e1,e2⟩:=je8 xs j x hx
  exact⟨by rw[Nat.zero_add,h.own.cellAt (j * 2) vO,e1],by rw[Nat.zero_add,h.own.cellAt (j * 2+1) vO,e2]⟩
end Go.Proofs.YtcpnjmcipainpaaGreatDoor
