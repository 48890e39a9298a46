/- Parts of the proof, one behind the other: CanonV, CanonW. Each is under no condition but those that it states. -/
import Derived.Test.YtcpnjmcipainpaaGreatDoorPb29
import Derived.Test.YtcpnjmcipainpaaGreatDoorPb31
import Derived.Test.YtcpnjmcipainpaaGreatDoorPb24
namespace Go.Proofs.YtcpnjmcipainpaaGreatDoor
set_option linter.unusedSimpArgs false
set_option linter.unusedVariables false
set_option maxRecDepth 100000
set_option maxHeartbeats 16000000
section
open Go Go.RowKit
attribute [local go_sem] Oper.semAt_some
theorem jlq(s:List EntS):(s.map keyB).map Value.string=(s.map (·.1)).map encStr:=by
 rw[List.map_map,List.map_map];rfl
theorem jjx(w:World)(bx bm ck:Nat)(es:List EntS)(hk:KyS bx bm ck es w)(hnd:(es.map (·.2.2)).Nodup)(hlt:∀ x∈es,x.2.2 < ck)(hlen:es.length≤1000000) :
  Calls Tryz.prog 161 #[.func (.func 162) #[] #[.pointer (some ⟨bx,0,none⟩)]] w fun e w'=>∃ u s,e=.returned u∧InvS es s∧jiy es s∧SRow w w' u s.length (s.map keyB):=by
 have HT:=Hd (jkV w bx bm ck es hk hnd hlt hlen);clear hk hnd hlt hlen;go_enter Tryz.func161,Tryz.ntmps161;go_wp2_with fail
 refine HT.o.mono ?_;rintro e w1 ⟨u,s,rfl,h1,h2,h3⟩
 obtain⟨a,c,rfl⟩:=h3.sl
 have H:=Hd (And.intro h1 (And.intro h2 h3));clear h1 h2 h3 HT;go_wp2_with fail
 go_ret
 exact⟨_,s,rfl,H.o⟩
theorem jlR(w:World)(bx bm ck:Nat)(es:List EntS)(hk:KyS bx bm ck es w)(hnd:(es.map (·.2.2)).Nodup)(hkn:(es.map (·.1)).Nodup)(hlt:∀ x∈es,x.2.2 < ck)(hlen:es.length≤1000000) :
  Calls Tryz.prog 111 #[.func (.func 162) #[] #[.pointer (some ⟨bx,0,none⟩)]] w fun e w'=>∃ u,e=.returned u∧SRow w w' u es.length (baL (jfm (es.map (·.1)))):=by
 have HT:=Hd (jjx w bx bm ck es hk hnd hlt hlen);have HP:=Hd (fun s (h1:InvS es s) (h2:jiy es s)=>h1.perm h2 hnd hkn);have HL:=Hd hlen;clear hk hnd hlt hlen hkn;go_enter Tryz.func111,Tryz.ntmps111;go_wp2_with fail
 refine HT.o.mono ?_;rintro e w1 ⟨u,s,rfl,h1,h2,h3⟩
 obtain⟨a,c,rfl⟩:=h3.sl
 have hp:=HP.o s h1 h2;have hsl:s.length=es.length:=by simpa using hp.length_eq
 have h3':ORow 9 1 w w1 (.slice a s.length c) s.length ((s.map (·.1)).map encStr):=by
  have h4:=h3;unfold SRow at h4;rw[jlq]at h4;exact h4
 have HS:=Hd (jor h3' (by have:=HL.o;omega));rw[ji4 hp]at HS;rw[hsl]at HS ⊢;clear h1 h2 h3 h3' HT HP hp hsl;go_wp2_with fail
 refine HS.o.mono ?_;rintro e w2 ⟨rfl,h4⟩;have H:=Hd h4;clear h4 HS;go_wp2_with fail
 go_ret
 refine⟨_,rfl,?_⟩
 unfold SRow;rw[jmn];exact H.o
theorem jj1(w:World)(bm:Nat):Calls Tryz.prog 112 #[.map (some bm)] w fun e w'=>e=.returned (.func (.func 162) #[] #[.pointer (some ⟨w.heap.size,0,none⟩)])∧Blk w' w.heap.size (.cells #[.map (some bm)] 171)∧Ext w w':=by
 go_enter Tryz.func112,Tryz.ntmps112;go_wp2_with fail
 go_ret
 exact⟨rfl,Blk.new w _,(ExtR w).alloc _⟩
end
section
open Go Go.RowKit
def putM:List Pair→Pair→List Pair
 | [],p=>[p]
 | q :: r,p=>if p.k=q.k then p :: r else q :: putM r p
def delM:List Pair→ByteArray→List Pair
 | [],_=>[]
 | q :: r,k=>if k.data.toList=q.k then r else q :: delM r k
def valM(m:List Pair)(k:List UInt8):ByteArray:=((m.find? (fun p=>decide (k=p.k))).map (·.2)).getD ⟨#[]⟩
def jcS(m:List Pair):List Pair:=(jfm (m.map Pair.k)).map fun k=>(⟨k.toArray⟩,valM m k)
def eKV(x:EntS):List UInt8 × Value:=(x.1,x.2.1)
def pKV(p:Pair):List UInt8 × Value:=(p.k,Pair.V p)
structure MapR(es:List EntS)(ck:Nat)(m:List Pair):Prop where
 same:es.map eKV=m.map pKV
 born:(es.map (·.2.2)).Nodup
 lt:∀ x∈es,x.2.2 < ck
 keys:(es.map (·.1)).Nodup
theorem MapR.nil(ck:Nat):MapR [] ck []:=⟨rfl,by simp,by simp,by simp⟩
theorem MapR.keysEq{es:List EntS}{ck:Nat}{m:List Pair}(h:MapR es ck m):es.map (·.1)=m.map Pair.k:=by
 have:=congrArg (List.map Prod.fst) h.same
 rw[List.map_map,List.map_map]at this;exact this
theorem MapR.len{es:List EntS}{ck:Nat}{m:List Pair}(h:MapR es ck m):es.length=m.length:=by
 have:=congrArg List.length h.same;simpa using this
theorem put_same(p:Pair)(n:Nat):∀ (es:List EntS) (m:List Pair),es.map eKV=m.map pKV→(jbu es p.k (Pair.V p) n).map eKV=(putM m p).map pKV
 | [],[],_=>rfl
 | [],_ :: _,h=>by cases h
 | _ :: _,[],h=>by cases h
 | x :: r,q :: s,h=>by
  rw[List.map_cons,List.map_cons]at h;injection h with h1 h2;have hk:x.1=q.k:=congrArg Prod.fst h1;unfold jbu putM;rw[←hk]
  by_cases hp:p.k=x.1
  ·rw[if_pos hp,if_pos hp,List.map_cons,List.map_cons,h2];rfl
  ·rw[if_neg hp,if_neg hp,List.map_cons,List.map_cons,put_same p n r s h2,h1]
theorem jh2(k:ByteArray):∀ (es:List EntS) (m:List Pair),es.map eKV=m.map pKV→(jcn es k.data.toList).map eKV=(delM m k).map pKV
 | [],[],_=>rfl
 | [],_ :: _,h=>by cases h
 | _ :: _,[],h=>by cases h
 | x :: r,q :: s,h=>by
  rw[List.map_cons,List.map_cons]at h;injection h with h1 h2;have hk:x.1=q.k:=congrArg Prod.fst h1;unfold jcn delM;rw[←hk]
  by_cases hp:k.data.toList=x.1
  ·rw[if_pos hp,if_pos hp,h2]
  ·rw[if_neg hp,if_neg hp,List.map_cons,List.map_cons,jh2 k r s h2,h1]
theorem jew(x:EntS)(r:List EntS)(k:List UInt8):ja3 (x :: r) k=if k=x.1 then some x.2.1 else ja3 r k:=by
 by_cases h:k=x.1 <;> simp[ja3,h]
theorem jij(k:List UInt8)(v:Value)(n:Nat):∀ es:List EntS,(jbu es k v n).map (·.2.2)=if (ja3 es k).isSome then es.map (·.2.2)else es.map (·.2.2)++[n]
 | []=>rfl
 | x :: r=>by
  unfold jbu;rw[jew]
  by_cases h:k=x.1
  ·rw[if_pos h,if_pos h];simp
  ·rw[if_neg h,if_neg h,List.map_cons,jij k v n r]
   cases (ja3 r k).isSome <;> simp
theorem jik(k:List UInt8)(v:Value)(n:Nat):∀ es:List EntS,(jbu es k v n).map (·.1)=if (ja3 es k).isSome then es.map (·.1)else es.map (·.1)++[k]
 | []=>rfl
 | x :: r=>by
  unfold jbu;rw[jew]
  by_cases h:k=x.1
  ·rw[if_pos h,if_pos h];simp[h]
  ·rw[if_neg h,if_neg h,List.map_cons,jik k v n r]
   cases (ja3 r k).isSome <;> simp
theorem jh8(k:List UInt8):∀ es:List EntS,(ja3 es k).isSome=false→k ∉ es.map (·.1)
 | [],_=>by simp
 | x :: r,h=>by
  rw[jew]at h
  by_cases hk:k=x.1
  ·rw[if_pos hk]at h;cases h
  ·rw[if_neg hk]at h
   have:=jh8 k r h
   simp only[List.map_cons,List.mem_cons,not_or]
   exact⟨hk,this⟩
theorem MapR.put{es:List EntS}{ck:Nat}{m:List Pair}(h:MapR es ck m)(p:Pair):MapR (jbu es p.k (Pair.V p) ck) (if (ja3 es p.k).isSome then ck else ck+1) (putM m p):=by
 have hb:=jij p.k (Pair.V p) ck es;have hk:=jik p.k (Pair.V p) ck es
 refine⟨put_same p ck es m h.same,?_,?_,?_⟩
 ·rw[hb]
  split
  ·exact h.born
  ·rw[List.nodup_append]
   refine⟨h.born,by simp,fun a ha b hb e=>?_⟩
   obtain⟨x,hx,e1⟩:=List.mem_map.1 ha
   have:=h.lt x hx
   simp at hb;omega
 ·intro x hx
  have hm:x.2.2∈(jbu es p.k (Pair.V p) ck).map (·.2.2):=List.mem_map.2 ⟨x,hx,rfl⟩;rw[hb]at hm;split at hm
  ·rename_i hs
   rw[if_pos hs]
   obtain⟨y,hy,e⟩:=List.mem_map.1 hm
   rw[←e];exact h.lt y hy
  ·rename_i hs
   rw[if_neg hs];rcases List.mem_append.1 hm with hm | hm
   ·obtain⟨y,hy,e⟩:=List.mem_map.1 hm
    have:=h.lt y hy;omega
   ·simp at hm;omega
 ·rw[hk]
  split
  ·exact h.keys
  ·rename_i hs
   have hn:=jh8 p.k es (by simpa using hs);rw[List.nodup_append]
   exact⟨h.keys,by simp,fun a ha b hb e=>by simp at hb;subst hb;subst e;exact hn ha⟩
theorem jjK(k:List UInt8):∀ es:List EntS,(jcn es k).Sublist es
 | []=>List.Sublist.refl _
 | x :: r=>by
  unfold jcn;split
  ·exact List.sublist_cons_self _ _
  ·exact (jjK k r).cons_cons _
theorem MapR.del{es:List EntS}{ck:Nat}{m:List Pair}(h:MapR es ck m)(k:ByteArray):MapR (jcn es k.data.toList) ck (delM m k):=by
 have hs:=jjK k.data.toList es
 exact⟨jh2 k es m h.same,h.born.sublist (hs.map _),fun x hx=>h.lt x (hs.subset hx),h.keys.sublist (hs.map _)⟩
theorem jh7(k:List UInt8):∀ (es:List EntS) (m:List Pair),es.map eKV=m.map pKV→ja3 es k=(m.find? (fun p=>decide (k=p.k))).map Pair.V
 | [],[],_=>rfl
 | [],_ :: _,h=>by cases h
 | _ :: _,[],h=>by cases h
 | x :: r,q :: s,h=>by
  rw[List.map_cons,List.map_cons]at h;injection h with h1 h2;have hk:x.1=q.k:=congrArg Prod.fst h1;have hv:x.2.1=Pair.V q:=congrArg Prod.snd h1;rw[jew,List.find?_cons,hk]
  by_cases hp:k=q.k
  ·rw[if_pos hp];simp[hp,hv]
  ·rw[if_neg hp,jh7 k r s h2];simp[hp]
theorem MapR.get{es:List EntS}{ck:Nat}{m:List Pair}(h:MapR es ck m){k:List UInt8}(hk:k∈m.map Pair.k):ja3 es k=some (Pair.V (⟨k.toArray⟩,valM m k)):=by
 rw[jh7 k es m h.same]
 obtain⟨p,hp,e⟩:=List.mem_map.1 hk
 cases hf:m.find? (fun p=>decide (k=p.k))with
 | none=>exact absurd e.symm (by have:=List.find?_eq_none.1 hf p hp;simpa using this)
 | some q =>
  have hq:k=q.k:=by simpa using List.find?_some hf
  unfold valM;rw[hf]
  have:(⟨k.toArray⟩:ByteArray)=q.1:=by rw[hq]
  simp only[Option.map_some,Option.getD_some];rw[this]
structure Chg where
 key:ByteArray
 value:ByteArray
 gone:Bool
def Chg.bad(c:Chg):Bool := !jbN c.key ||(c.gone && decide (c.value.size≠0)) ||(!c.gone && !jbs c.value)
def doM(m:List Pair)(c:Chg):List Pair:=if c.gone then delM m c.key else putM m (c.key,c.value)
def jgt(l:List Pair)(cs:List Chg):List Pair:=cs.foldl doM (l.foldl putM [])
def jcL(l:List Pair)(cs:List Chg):Int:=
 if jaD l≠0 then jaD l else if cs.any Chg.bad=true then 1 else if (jgt l cs).length > 40 then 12 else 0
end
end Go.Proofs.YtcpnjmcipainpaaGreatDoor
