/- Parts of the proof, one behind the other: CanonV, FewB, SmallA, CanonW, EntRow, CanonX. Each is under no condition but those that it states. -/
import Derived.Test.YtpaacnhboilkkaaGreatDoorPh24
import Derived.Test.YtpaacnhboilkkaaGreatDoorPh28
import Derived.Test.YtpaacnhboilkkaaGreatDoorPh23
import Derived.Test.YtpaacnhboilkkaaGreatDoorPh22
namespace Go.Proofs.YtpaacnhboilkkaaGreatDoor
set_option linter.unusedSimpArgs false
set_option linter.unusedVariables false
set_option maxRecDepth 100000
set_option maxHeartbeats 16000000
section
open Go Go.RowKit
attribute [local go_sem] Oper.semAt_some
theorem jsy(s:List EntS):(s.map keyB).map Value.string=(s.map (·.1)).map encStr:=by
 rw[List.map_map,List.map_map];rfl
theorem jpt(w:World)(bx bm ck:Nat)(es:List EntS)(hk:KyS bx bm ck es w)(hnd:(es.map (·.2.2)).Nodup)(hlt:∀ x∈es,x.2.2 < ck)(hlen:es.length≤1000000) :
  Calls Tryz.prog 131 #[.func (.func 132) #[] #[.pointer (some ⟨bx,0,none⟩)]] w fun e w'=>∃ u s,e=.returned u∧InvS es s∧jnx es s∧SRow w w' u s.length (s.map keyB):=by
 have HT:=Hd (jrG w bx bm ck es hk hnd hlt hlen);clear hk hnd hlt hlen;go_enter Tryz.func131,Tryz.ntmps131;go_wp2_with fail
 refine HT.o.mono ?_;rintro e w1 ⟨u,s,rfl,h1,h2,h3⟩
 obtain⟨a,c,rfl⟩:=h3.sl
 have H:=Hd (And.intro h1 (And.intro h2 h3));clear h1 h2 h3 HT;go_wp2_with fail
 go_ret
 exact⟨_,s,rfl,H.o⟩
theorem jtg(w:World)(bx bm ck:Nat)(es:List EntS)(hk:KyS bx bm ck es w)(hnd:(es.map (·.2.2)).Nodup)(hkn:(es.map (·.1)).Nodup)(hlt:∀ x∈es,x.2.2 < ck)(hlen:es.length≤1000000) :
  Calls Tryz.prog 86 #[.func (.func 132) #[] #[.pointer (some ⟨bx,0,none⟩)]] w fun e w'=>∃ u,e=.returned u∧SRow w w' u es.length (baL (jfT (es.map (·.1)))):=by
 have HT:=Hd (jpt w bx bm ck es hk hnd hlt hlen);have HP:=Hd (fun s (h1:InvS es s) (h2:jnx es s)=>h1.perm h2 hnd hkn);have HL:=Hd hlen;clear hk hnd hlt hlen hkn;go_enter Tryz.func86,Tryz.ntmps86;go_wp2_with fail
 refine HT.o.mono ?_;rintro e w1 ⟨u,s,rfl,h1,h2,h3⟩
 obtain⟨a,c,rfl⟩:=h3.sl
 have hp:=HP.o s h1 h2;have hsl:s.length=es.length:=by simpa using hp.length_eq
 have h3':ORow 9 1 w w1 (.slice a s.length c) s.length ((s.map (·.1)).map encStr):=by
  have h4:=h3;unfold SRow at h4;rw[jsy]at h4;exact h4
 have HS:=Hd (jw3 h3' (by have:=HL.o;omega));rw[jou hp]at HS;rw[hsl]at HS ⊢;clear h1 h2 h3 h3' HT HP hp hsl;go_wp2_with fail
 refine HS.o.mono ?_;rintro e w2 ⟨rfl,h4⟩;have H:=Hd h4;clear h4 HS;go_wp2_with fail
 go_ret
 refine⟨_,rfl,?_⟩
 unfold SRow;rw[jue];exact H.o
theorem jqr(w:World)(bm:Nat):Calls Tryz.prog 87 #[.map (some bm)] w fun e w'=>e=.returned (.func (.func 132) #[] #[.pointer (some ⟨w.heap.size,0,none⟩)])∧Blk w' w.heap.size (.cells #[.map (some bm)] 132)∧Ext w w':=by
 go_enter Tryz.func87,Tryz.ntmps87;go_wp2_with fail
 go_ret
 exact⟨rfl,Blk.new w _,(ExtR w).alloc _⟩
end
section
open Go Go.RowKit
def je5(p:Pair):Bool:=decide (p.1.size≤20) && decide (p.2.size≤100)
def fewB(l:List Pair):Bool:=l.all je5 && decide (l.length≤45)
def jxc(w:World)(l:List Pair)(i:Value)(wr:World):Prop:=∃ k:Nat,k≤l.length∧k≤46∧i=.int .i64 k∧Ext w wr∧(l.take k).all je5=true
theorem jrC{l:List Pair}{k:Nat}{p:Pair}(h:l[k]?=some p):(l.take (k+1)).all je5=((l.take k).all je5 && je5 p):=by
 rw[List.take_add_one,h,List.all_append];simp
theorem joW{l:List Pair}{k:Nat}{p:Pair}(h:l[k]?=some p)(hb:je5 p=false):fewB l=false:=by
 unfold fewB
 have:l.all je5=false:=by
  rw[Bool.eq_false_iff];intro h2
  have:=List.all_eq_true.1 h2 p (List.mem_of_getElem? h)
  rw[hb]at this;cases this
 rw[this];rfl
theorem jws(w:World)(v:Value)(l:List Pair)(hv:RdP w v l)(hn:l.length≤9223372036854775807)(hs:∀ p∈l,p.1.size≤9223372036854775807∧p.2.size≤9223372036854775807) :
  Calls Tryz.prog 25 #[v] w fun e w'=>e=.returned (.bool (fewB l))∧Ext w w':=by
 have HV:=Hd hv;have HS:=Hd hs
 obtain⟨a,c,hsl⟩:=hv.sl
 subst hsl;clear hv hs
 obtain⟨R,hR⟩:∃ R,R=fewB l:=⟨_,rfl⟩
 rw[←hR];have HR:=Hd hR;clear hR;go_enter Tryz.func25,Tryz.ntmps25;go_wp2_with fail
 go_loopw [3] (fun i wr=>jxc w l i wr) (fun i _=>l.length - (intOf i).toNat)
 case atStart=>exact⟨0,by omega,by omega,rfl,ExtR w,rfl⟩
 case round =>
  obtain⟨k,hk,hk6,rfl,hE,hall⟩:=hrel
  have HE:=Hd hE;have HALL:=Hd hall;clear hE hall
  by_cases hlt:k < l.length
  ·have b1:(k:Int) < (l.length:Int):=by omega
   by_cases h45:k≤45
   ·have b2:(k:Int)≤45:=by omega
    obtain⟨p,hp⟩:∃ p,l[k]?=some p:=⟨_,List.getElem?_eq_getElem hlt⟩
    rcases HV.o with⟨_,_,_,h0⟩ |⟨b,o,c1,hh,hb,hc,hcell⟩
    ·rw[h0]at hlt;cases hlt
    cases hh
    obtain⟨q1,q2⟩:=hcell k p hp
    have q1:=jaa q1 HE.o;have q2:=jaa q2 HE.o;have hsp:=HS.o p (List.mem_of_getElem? hp);have HP:=Hd hp
    obtain⟨x,y⟩:=p
    simp only at q1 q2 hsp;clear hcell hb hc hp
    by_cases hx:20 < x.size
    ·have b3:(20:Int) < (x.size:Int):=by omega
     have HF:=Hd (show R=false by rw[HR.o];exact joW HP.o (by unfold je5;simp;omega));clear hx;go_wp2_with fail
     go_ret
     exact⟨by rw[HF.o];rfl,HE.o⟩
    ·have b3:¬(20:Int) < (x.size:Int):=by omega
     by_cases hy:100 < y.size
     ·have b4:(100:Int) < (y.size:Int):=by omega
      have HF:=Hd (show R=false by rw[HR.o];exact joW HP.o (by unfold je5;simp;omega));clear hx hy;go_wp2_with fail
      go_ret
      exact⟨by rw[HF.o];rfl,HE.o⟩
     ·have b4:¬(100:Int) < (y.size:Int):=by omega
      have HG:=Hd (show (l.take (k+1)).all je5=true by rw[jrC HP.o,HALL.o];unfold je5;simp;omega);clear hx hy;go_wp2_with fail
      go_roundw
      case rel=>exact⟨k+1,by omega,by omega,by go_num,HE.o,HG.o⟩
      case measure=>simp[intOf];omega
   ·have b2:¬(k:Int)≤45:=by omega
    have b3:¬(l.length:Int)≤45:=by omega
    have HF:=Hd (show R=false by rw[HR.o];unfold fewB;simp;omega);clear h45;go_wp2_with fail
    go_ret
    exact⟨by rw[HF.o];rfl,HE.o⟩
  ·have hkl:k=l.length:=by omega
   have b1:¬(k:Int) < (l.length:Int):=by omega
   have hall:=HALL.o;rw[hkl,List.take_length]at hall
   by_cases h45:l.length≤45
   ·have b2:(l.length:Int)≤45:=by omega
    have HF:=Hd (show R=true by rw[HR.o];unfold fewB;rw[hall];simp;omega);clear hkl hall h45;go_wp2_with fail
    go_ret
    exact⟨by rw[HF.o];rfl,HE.o⟩
   ·have b2:¬(l.length:Int)≤45:=by omega
    have HF:=Hd (show R=false by rw[HR.o];unfold fewB;simp;omega);clear hkl hall h45;go_wp2_with fail
    go_ret
    exact⟨by rw[HF.o];rfl,HE.o⟩
def joK(l:List Pair):Prop:=∀ p∈l,p.1.size≤9223372036854775807∧p.2.size≤9223372036854775807
theorem jbE(a b:ByteArray):jbs a b=true↔Lt a.data.toList b.data.toList:=by
 unfold jbs;rw[ByteArray.toList_eq,ByteArray.toList_eq]
abbrev Pair.k(p:Pair):List UInt8:=p.1.data.toList
def look(m:List Pair)(k:List UInt8):Option ByteArray:=(m.find? (fun p=>decide (k=p.k))).map (·.2)
theorem jd9(q:Pair)(r:List Pair)(k:List UInt8):look (q :: r) k=if k=q.k then some q.2 else look r k:=by
 unfold look
 by_cases h:k=q.k <;> simp[List.find?_cons,h]
def putM:List Pair→Pair→List Pair
 | [],p=>[p]
 | q :: r,p=>if p.k=q.k then p :: r else q :: putM r p
def delM:List Pair→ByteArray→List Pair
 | [],_=>[]
 | q :: r,k=>if k.data.toList=q.k then r else q :: delM r k
def valM(m:List Pair)(k:List UInt8):ByteArray:=((m.find? (fun p=>decide (k=p.k))).map (·.2)).getD ⟨#[]⟩
def jds(m:List Pair):List Pair:=(jfT (m.map Pair.k)).map fun k=>(⟨k.toArray⟩,valM m k)
def eKV(x:EntS):List UInt8 × Value:=(x.1,x.2.1)
def pKV(p:Pair):List UInt8 × Value:=(p.k,Pair.V p)
structure MapR(es:List EntS)(ck:Nat)(m:List Pair):Prop where
 same:es.map eKV=m.map pKV
 born:(es.map (·.2.2)).Nodup
 lt:∀ x∈es,x.2.2 < ck
 keys:(es.map (·.1)).Nodup
theorem MapR.nil(ck:Nat):MapR [] ck []:=⟨rfl,by simp,by simp,by simp⟩
theorem MapR.keysEq{es:List EntS}{ck:Nat}{m:List Pair}(h:MapR es ck m):es.map (·.1)=m.map Pair.k:=by
 have:=congrArg (List.map Prod.fst) h.same
 rw[List.map_map,List.map_map]at this;exact this
theorem MapR.len{es:List EntS}{ck:Nat}{m:List Pair}(h:MapR es ck m):es.length=m.length:=by
 have:=congrArg List.length h.same;simpa using this
theorem put_same(p:Pair)(n:Nat):∀ (es:List EntS) (m:List Pair),es.map eKV=m.map pKV→(jbz es p.k (Pair.V p) n).map eKV=(putM m p).map pKV
 | [],[],_=>rfl
 | [],_ :: _,h=>by cases h
 | _ :: _,[],h=>by cases h
 | x :: r,q :: s,h=>by
  rw[List.map_cons,List.map_cons]at h;injection h with h1 h2;have hk:x.1=q.k:=congrArg Prod.fst h1;unfold jbz putM;rw[←hk]
  by_cases hp:p.k=x.1
  ·rw[if_pos hp,if_pos hp,List.map_cons,List.map_cons,h2];rfl
  ·rw[if_neg hp,if_neg hp,List.map_cons,List.map_cons,put_same p n r s h2,h1]
theorem jmu(k:ByteArray):∀ (es:List EntS) (m:List Pair),es.map eKV=m.map pKV→(jcM es k.data.toList).map eKV=(delM m k).map pKV
 | [],[],_=>rfl
 | [],_ :: _,h=>by cases h
 | _ :: _,[],h=>by cases h
 | x :: r,q :: s,h=>by
  rw[List.map_cons,List.map_cons]at h;injection h with h1 h2;have hk:x.1=q.k:=congrArg Prod.fst h1;unfold jcM delM;rw[←hk]
  by_cases hp:k.data.toList=x.1
  ·rw[if_pos hp,if_pos hp,h2]
  ·rw[if_neg hp,if_neg hp,List.map_cons,List.map_cons,jmu k r s h2,h1]
theorem jg6(x:EntS)(r:List EntS)(k:List UInt8):jaZ (x :: r) k=if k=x.1 then some x.2.1 else jaZ r k:=by
 by_cases h:k=x.1 <;> simp[jaZ,h]
theorem jm7(k:List UInt8)(v:Value)(n:Nat):∀ es:List EntS,(jbz es k v n).map (·.2.2)=if (jaZ es k).isSome then es.map (·.2.2)else es.map (·.2.2)++[n]
 | []=>rfl
 | x :: r=>by
  unfold jbz;rw[jg6]
  by_cases h:k=x.1
  ·rw[if_pos h,if_pos h];simp
  ·rw[if_neg h,if_neg h,List.map_cons,jm7 k v n r]
   cases (jaZ r k).isSome <;> simp
theorem jm8(k:List UInt8)(v:Value)(n:Nat):∀ es:List EntS,(jbz es k v n).map (·.1)=if (jaZ es k).isSome then es.map (·.1)else es.map (·.1)++[k]
 | []=>rfl
 | x :: r=>by
  unfold jbz;rw[jg6]
  by_cases h:k=x.1
  ·rw[if_pos h,if_pos h];simp[h]
  ·rw[if_neg h,if_neg h,List.map_cons,jm8 k v n r]
   cases (jaZ r k).isSome <;> simp
theorem jmI(k:List UInt8):∀ es:List EntS,(jaZ es k).isSome=false→k ∉ es.map (·.1)
 | [],_=>by simp
 | x :: r,h=>by
  rw[jg6]at h
  by_cases hk:k=x.1
  ·rw[if_pos hk]at h;cases h
  ·rw[if_neg hk]at h
   have:=jmI k r h
   simp only[List.map_cons,List.mem_cons,not_or]
   exact⟨hk,this⟩
theorem MapR.put{es:List EntS}{ck:Nat}{m:List Pair}(h:MapR es ck m)(p:Pair):MapR (jbz es p.k (Pair.V p) ck) (if (jaZ es p.k).isSome then ck else ck+1) (putM m p):=by
 have hb:=jm7 p.k (Pair.V p) ck es;have hk:=jm8 p.k (Pair.V p) ck es
 refine⟨put_same p ck es m h.same,?_,?_,?_⟩
 ·rw[hb]
  split
  ·exact h.born
  ·rw[List.nodup_append]
   refine⟨h.born,by simp,fun a ha b hb e=>?_⟩
   obtain⟨x,hx,e1⟩:=List.mem_map.1 ha
   have:=h.lt x hx
   simp at hb;omega
 ·intro x hx
  have hm:x.2.2∈(jbz es p.k (Pair.V p) ck).map (·.2.2):=List.mem_map.2 ⟨x,hx,rfl⟩;rw[hb]at hm;split at hm
  ·rename_i hs
   rw[if_pos hs]
   obtain⟨y,hy,e⟩:=List.mem_map.1 hm
   rw[←e];exact h.lt y hy
  ·rename_i hs
   rw[if_neg hs];rcases List.mem_append.1 hm with hm | hm
   ·obtain⟨y,hy,e⟩:=List.mem_map.1 hm
    have:=h.lt y hy;omega
   ·simp at hm;omega
 ·rw[hk]
  split
  ·exact h.keys
  ·rename_i hs
   have hn:=jmI p.k es (by simpa using hs);rw[List.nodup_append]
   exact⟨h.keys,by simp,fun a ha b hb e=>by simp at hb;subst hb;subst e;exact hn ha⟩
theorem jpF(k:List UInt8):∀ es:List EntS,(jcM es k).Sublist es
 | []=>List.Sublist.refl _
 | x :: r=>by
  unfold jcM;split
  ·exact List.sublist_cons_self _ _
  ·exact (jpF k r).cons_cons _
theorem MapR.del{es:List EntS}{ck:Nat}{m:List Pair}(h:MapR es ck m)(k:ByteArray):MapR (jcM es k.data.toList) ck (delM m k):=by
 have hs:=jpF k.data.toList es
 exact⟨jmu k es m h.same,h.born.sublist (hs.map _),fun x hx=>h.lt x (hs.subset hx),h.keys.sublist (hs.map _)⟩
theorem jmH(k:List UInt8):∀ (es:List EntS) (m:List Pair),es.map eKV=m.map pKV→jaZ es k=(m.find? (fun p=>decide (k=p.k))).map Pair.V
 | [],[],_=>rfl
 | [],_ :: _,h=>by cases h
 | _ :: _,[],h=>by cases h
 | x :: r,q :: s,h=>by
  rw[List.map_cons,List.map_cons]at h;injection h with h1 h2;have hk:x.1=q.k:=congrArg Prod.fst h1;have hv:x.2.1=Pair.V q:=congrArg Prod.snd h1;rw[jg6,List.find?_cons,hk]
  by_cases hp:k=q.k
  ·rw[if_pos hp];simp[hp,hv]
  ·rw[if_neg hp,jmH k r s h2];simp[hp]
theorem MapR.get{es:List EntS}{ck:Nat}{m:List Pair}(h:MapR es ck m){k:List UInt8}(hk:k∈m.map Pair.k):jaZ es k=some (Pair.V (⟨k.toArray⟩,valM m k)):=by
 rw[jmH k es m h.same]
 obtain⟨p,hp,e⟩:=List.mem_map.1 hk
 cases hf:m.find? (fun p=>decide (k=p.k))with
 | none=>exact absurd e.symm (by have:=List.find?_eq_none.1 hf p hp;simpa using this)
 | some q =>
  have hq:k=q.k:=by simpa using List.find?_some hf
  unfold valM;rw[hf]
  have:(⟨k.toArray⟩:ByteArray)=q.1:=by rw[hq]
  simp only[Option.map_some,Option.getD_some];rw[this]
structure Chg where
 key:ByteArray
 value:ByteArray
 gone:Bool
def Chg.bad(c:Chg):Bool := !jdV c.key ||(c.gone && decide (c.value.size≠0)) ||(!c.gone && !jdt c.value)
def doM(m:List Pair)(c:Chg):List Pair:=if c.gone then delM m c.key else putM m (c.key,c.value)
def jfx(l:List Pair)(cs:List Chg):List Pair:=cs.foldl doM (l.foldl putM [])
def jbX(l:List Pair)(cs:List Chg):Int:=
 if jaS l≠0 then jaS l else if cs.any Chg.bad=true then 1 else if (jfx l cs).length > 40 then 12 else 0
theorem Tryz.infoEnt:(Tryz.prog.info? 72).map (fun i=>(i.zero,i.size,i.bytes))=some (some (.agg #[.string ⟨#[]⟩,.string ⟨#[]⟩]),2,32):=by kernel_rfl
theorem Tryz.uEnts:Tryz.prog.underlying 22=some (.slice 72):=by kernel_rfl
theorem Tryz.sEnts:jeH Tryz.prog 22 72 2 32:=jeH.mk' Tryz.uEnts Tryz.infoEnt rfl (by decide)
abbrev ERow(w0 w:World)(v:Value)(n:Nat)(xs:List Pair):Prop:=ORow 72 2 w0 w v n (jdJ xs)
theorem ERow.rd{w0 w:World}{v:Value}{n:Nat}{xs:List Pair}(h:ERow w0 w v n xs):RdP w v xs:=by
 have hl:xs.length=n:=by have:=h.len;rw[jgv]at this;omega
 obtain⟨_,⟨rfl,h2⟩ |⟨g,cap,cur,rfl,h3,h4,h5,h6,h7⟩⟩:=h.own
 ·exact .inl ⟨none,0,rfl,List.eq_nil_of_length_eq_zero (by omega)⟩
 ·subst hl
  refine .inr ⟨g,0,cap,rfl,(Array.getElem?_eq_some_iff.1 h4).1,h5,fun j x hx=>?_⟩;have hj:=(List.getElem?_eq_some_iff.1 hx).1
  obtain⟨e1,e2⟩:=jfb xs j x hx
  exact⟨by rw[Nat.zero_add,h.own.cellAt (j * 2) (by omega),e1],by rw[Nat.zero_add,h.own.cellAt (j * 2+1) (by omega),e2]⟩
def RdC(w:World)(v:Value)(xs:List Chg):Prop:=
 (∃ a c,v=.slice a 0 c∧xs=[])∨∃ b o c,v=.slice (some ⟨b,o,none⟩) xs.length c∧b < w.heap.size∧xs.length≤c∧∀ (j:Nat) x,xs[j]?=some x→w.cell? ⟨b,o+j * 3,none⟩=some (.string x.key)∧w.cell? ⟨b,o+j * 3+1,none⟩=some (.string x.value)∧w.cell? ⟨b,o+j * 3+2,none⟩=some (.bool x.gone)
theorem RdC.ext{w w':World}{v:Value}{xs:List Chg}(h:RdC w v xs)(k:Ext w w'):RdC w' v xs:=by
 rcases h with h |⟨b,o,c,h1,h2,h3,h4⟩
 ·exact .inl h
 ·exact .inr ⟨b,o,c,h1,Nat.lt_of_lt_of_le h2 k.size,h3,fun j x hx=>⟨jaa (h4 j x hx).1 k,jaa (h4 j x hx).2.1 k,jaa (h4 j x hx).2.2 k⟩⟩
theorem RdC.sl{w:World}{v:Value}{xs:List Chg}(h:RdC w v xs):∃ a c,v=.slice a xs.length c:=by
 rcases h with⟨a,c,h1,h2⟩ |⟨b,o,c,h1,_⟩
 ·exact⟨a,c,by rw[h1,h2];rfl⟩
 ·exact⟨_,c,h1⟩
theorem Tryz.makeMapSE(W:World):(Instr.makeMap 132 none).run Tryz.prog W=.ok (.map (some W.heap.size)) (W.alloc (.map #[] 0)):=by kernel_rfl
theorem Tryz.zeroE(w:World):(zeroValue 72).run Tryz.prog w=.ok (.agg #[.string ⟨#[]⟩,.string ⟨#[]⟩]) w:=by kernel_rfl
def jeJ(w:World)(l:List Pair)(cs:List Chg)(e:Ending)(w':World):Prop:=
 if jbX l cs=0 then ∃ r,e=.returned (.tuple #[r,.int .i64 0])∧ERow w w' r (jds (jfx l cs)).length (jds (jfx l cs))else e=.returned (.tuple #[.slice none 0 0,.int .i64 (jbX l cs)])∧Ext w w'
theorem jeJ.bad{w w':World}{l:List Pair}{cs:List Chg}{x:Int}(h:jbX l cs=x)(h0:x≠0)(he:Ext w w'):jeJ w l cs (.returned (.tuple #[.slice none 0 0,.int .i64 x])) w':=by
 unfold jeJ;rw[h,if_neg h0];exact⟨rfl,he⟩
def jvw(w:World)(cs:List Chg)(i:Value)(wr:World):Prop:=∃ k:Nat,k≤cs.length∧i=.int .i64 k∧Ext w wr∧(cs.take k).any Chg.bad=false
def jvx(w:World)(bm:Nat)(l:List Pair)(i:Value)(wr:World):Prop:=∃ k:Nat,k≤l.length∧i=.int .i64 k∧Ext w wr∧∃ es ck,Blk wr bm (.map (Tryz.ES.arr es) ck)∧MapR es ck ((l.take k).foldl putM [])
def jvy(w:World)(bm:Nat)(l:List Pair)(cs:List Chg)(i:Value)(wr:World):Prop:=∃ k:Nat,k≤cs.length∧i=.int .i64 k∧Ext w wr∧∃ es ck,Blk wr bm (.map (Tryz.ES.arr es) ck)∧MapR es ck ((cs.take k).foldl doM (l.foldl putM []))
def jvz(w5:World)(M:List Pair)(v i:Value)(wr:World):Prop:=∃ k:Nat,k≤M.length∧i=.int .i64 k∧ERow w5 wr v k ((jds M).take k)
theorem jrF{cs:List Chg}{k:Nat}{c:Chg}(h:cs[k]?=some c):(cs.take (k+1)).any Chg.bad=((cs.take k).any Chg.bad || c.bad):=by
 rw[List.take_add_one,h,List.any_append];simp
theorem jtx{cs:List Chg}{k:Nat}{c:Chg}(h:cs[k]?=some c)(hb:c.bad=true):cs.any Chg.bad=true:=List.any_eq_true.2 ⟨c,List.mem_of_getElem? h,hb⟩
theorem jt9(w:World)(v u:Value)(l:List Pair)(cs:List Chg)(hv:RdP w v l)(hu:RdC w u cs)(hn:l.length≤9223372036854775807)(hnc:cs.length≤9223372036854775807)(hs:∀ p∈l,p.1.size≤9223372036854775807∧p.2.size≤9223372036854775807)(hsc:∀ c∈cs,c.key.size≤9223372036854775807∧c.value.size≤9223372036854775807) :
  Calls Tryz.prog 37 #[v,u] w (jeJ w l cs):=by
 have HCK:=Hd (jgw w v l hv hn hs);have HV:=Hd hv;have HU:=Hd hu;have HSC:=Hd hsc
 obtain⟨a,c,hsl⟩:=hv.sl
 subst hsl
 obtain⟨a',c',hsl'⟩:=hu.sl
 subst hsl';clear hv hu hs hsc
 by_cases hck:jaS l=0
 case neg =>
  obtain⟨x,hx⟩:∃ x,x=jaS l:=⟨_,rfl⟩
  have HB:=Hd (show jbX l cs=x by unfold jbX;rw[if_pos hck,hx]);rw[←hx]at hck HCK;have hne:(x == 0)=false:=by simpa using hck
  have HX:=Hd hck;clear hck hx HV HU HSC;go_enter Tryz.func37,Tryz.ntmps37;go_wp2_with fail
  refine HCK.o.mono ?_;rintro e w1 ⟨rfl,hE⟩;have HE:=Hd hE;clear hE HCK;go_wp2_with fail
  go_ret2;exact jeJ.bad HB.o HX.o HE.o
 rw[hck]at HCK;have HL40:=Hd (jaM hck).len;have HCK0:=Hd hck;clear hck;go_enter Tryz.func37,Tryz.ntmps37;go_wp2_with fail
 refine HCK.o.mono ?_;rintro e w1 ⟨rfl,hE⟩;have HE1:=Hd hE;clear hE HCK;go_wp2_with fail
 go_loopw [24] (fun i wr=>jvw w cs i wr) (fun i _=>cs.length - (intOf i).toNat)
 case atStart=>exact⟨0,by omega,rfl,HE1.o,rfl⟩
 case round =>
  obtain⟨k,hk,rfl,hE,hall⟩:=hrel
  have HE:=Hd hE;have HALL:=Hd hall;clear hE hall
  by_cases hlt:k < cs.length
  ·rcases HU.o with⟨_,_,_,h0⟩ |⟨b,o,c1,hh,hb,hc,hcell⟩
   ·rw[h0]at hlt;cases hlt
   cases hh
   obtain⟨p,hp⟩:∃ p,cs[k]?=some p:=⟨_,List.getElem?_eq_getElem hlt⟩
   obtain⟨q1,q2,q3⟩:=hcell k p hp
   have q1:=jaa q1 HE.o;have q2:=jaa q2 HE.o;have q3:=jaa q3 HE.o;have hsp:=HSC.o p (List.mem_of_getElem? hp);have b1:(k:Int) < (cs.length:Int):=by omega
   have HP:=Hd hp
   obtain⟨ky,vl,gn⟩:=p
   simp only at q1 q2 q3 hsp;clear hcell hp hb hc;have HBAD:=Hd (fun(h:Chg.bad ⟨ky,vl,gn⟩=true)=>(show jbX l cs=1 by
    unfold jbX;rw[if_neg (by rw[HCK0.o];simp),if_pos (jtx HP.o h)]))
   have HGO:=Hd (fun(h:Chg.bad ⟨ky,vl,gn⟩=false)=>(show (cs.take (k+1)).any Chg.bad=false by rw[jrF HP.o,HALL.o,h];rfl));have HEA:=Hd (HE.o.alloc (.cells #[.string ky,.string vl,.bool gn] 66));clear HP HALL;go_wp2_with fail
   refine (jgH _ ky hsp.1).mono ?_;rintro e w3 ⟨rfl,rfl⟩;clear q1 q2 q3;cases hky:jdV ky with
   | false =>
    have HB:=Hd (HBAD.o (by unfold Chg.bad;simp[hky]));clear hky;go_wp2_with fail
    go_ret2;exact jeJ.bad HB.o (by decide) HEA.o
   | true =>
    cases gn with
    | true =>
     by_cases hz:vl.size=0
     ·have:=jbF hz
      subst this;have HG:=Hd (HGO.o (by unfold Chg.bad;simp[hky];rfl));clear hky hz;go_wp2_with fail
      go_roundw
      case rel=>exact⟨k+1,by omega,by go_num,HEA.o,HG.o⟩
      case measure=>simp[intOf];omega
     ·have hne:=jbn (s:=vl) (by omega)
      have HB:=Hd (HBAD.o (by unfold Chg.bad;simp[hky,hz]));clear hky hz;go_wp2_with fail
      go_ret2;exact jeJ.bad HB.o (by decide) HEA.o
    | false =>
     go_wp2_with fail
     refine (jgl _ vl hsp.2).mono ?_;rintro e w3 ⟨rfl,rfl⟩;cases hvl:jdt vl with
     | true =>
      have HG:=Hd (HGO.o (by unfold Chg.bad;simp[hky,hvl]));clear hky hvl;go_wp2_with fail
      go_roundw
      case rel=>exact⟨k+1,by omega,by go_num,HEA.o,HG.o⟩
      case measure=>simp[intOf];omega
     | false =>
      have HB:=Hd (HBAD.o (by unfold Chg.bad;simp[hky,hvl]));clear hky hvl;go_wp2_with fail
      go_ret2;exact jeJ.bad HB.o (by decide) HEA.o
  ·have hkn:k=cs.length:=by omega
   have HB:=Hd (show cs.any Chg.bad=false by have h:=HALL.o;rwa [hkn,List.take_length]at h);clear hkn HALL;have hmm:=Tryz.makeMapSE wr;go_wp2_with fail
   obtain⟨bm,hbm⟩:∃ bm,bm=wr.heap.size:=⟨_,rfl⟩
   have HBM:=Hd (show Blk (wr.alloc (.map #[] 0)) bm (.map #[] 0) by rw[hbm];exact Blk.new wr _);have hbl:w.heap.size≤bm:=by rw[hbm];exact HE.o.size
   have HE2:=Hd (HE.o.alloc (.map #[] 0));rw[←hbm];clear hmm hbm;go_loopw [56] (fun i w2=>jvx w bm l i w2) (fun i _=>l.length - (intOf i).toNat)
   case atStart=>exact⟨0,by omega,rfl,HE2.o,[],0,HBM.o,MapR.nil 0⟩
   case round =>
    clear HE HE2 HBM HE1
    obtain⟨j,hj,rfl,hE,es,ck,hM,hR⟩:=hrel
    have HE:=Hd hE;have HR:=Hd hR
    by_cases hlt2:j < l.length
    ·rcases HV.o with⟨_,_,_,h0⟩ |⟨b,o,c1,hh,hb,hc,hcell⟩
     ·rw[h0]at hlt2;cases hlt2
     cases hh
     obtain⟨p,hp⟩:∃ p,l[j]?=some p:=⟨_,List.getElem?_eq_getElem hlt2⟩
     obtain⟨q1,q2⟩:=hcell j p hp
     have q1:=jaa q1 HE.o;have q2:=jaa q2 HE.o;have b1:(j:Int) < (l.length:Int):=by omega
     have HP:=Hd hp
     obtain⟨x,y⟩:=p
     simp only at q1 q2;have hM2:=hM.alloc (.cells #[.string x,.string y] 72)
     obtain⟨es2,hes2⟩:∃ es2,es2=jbz es x.data.toList (Pair.V (x,y)) ck:=⟨_,rfl⟩
     obtain⟨ck2,hck2⟩:∃ ck2,ck2=(if (jaZ es x.data.toList).isSome then ck else ck+1):=⟨_,rfl⟩
     have hmu:(Instr.mapUpdate 132 (.map (some bm)) (.string x) (.agg #[.string x,.string y])).run Tryz.prog (wr.alloc (.cells #[.string x,.string y] 72))=.ok () ((wr.alloc (.cells #[.string x,.string y] 72)).putObj bm (.map (Tryz.ES.arr es2) ck2)):=by
      have:=jcu Tryz.ES Tryz.uMapSE hM2 x.data.toList (Pair.V (x,y))
      rw[←hes2, ←hck2]at this;exact this
     have HR2:=Hd (show MapR es2 ck2 ((l.take (j+1)).foldl putM []) by
      rw[List.take_add_one,HP.o,List.foldl_append,hes2,hck2];exact HR.o.put (x,y))
     have HB2:=Hd (hM2.put_same (.map (Tryz.ES.arr es2) ck2));have HE3:=Hd ((HE.o.alloc (.cells #[.string x,.string y] 72)).putObj (.inr hbl) (.map (Tryz.ES.arr es2) ck2));clear hcell hp hb hc hM hR hM2 hes2 hck2 hE HR HE;go_wp2_with fail
     go_roundw
     case rel=>exact⟨j+1,by omega,by go_num,HE3.o,es2,ck2,HB2.o,HR2.o⟩
     case measure=>simp[intOf];omega
    ·have hjn:j=l.length:=by omega
     have HR2:=Hd (show MapR es ck (l.foldl putM []) by have h:=HR.o;rwa [hjn,List.take_length]at h);have HM2:=Hd hM;have HE0:=Hd hE;clear hjn hM hR hE HR HE;go_wp2_with fail
     go_loopw [67] (fun i w2=>jvy w bm l cs i w2) (fun i _=>cs.length - (intOf i).toNat)
     case atStart=>exact⟨0,by omega,rfl,HE0.o,es,ck,HM2.o,HR2.o⟩
     case round =>
      clear HE0 HM2 HR2
      obtain⟨q,hq,rfl,hE,es,ck,hM,hR⟩:=hrel
      have HE:=Hd hE;have HR:=Hd hR
      by_cases hlt3:q < cs.length
      ·rcases HU.o with⟨_,_,_,h0⟩ |⟨b,o,c1,hh,hb,hc,hcell⟩
       ·rw[h0]at hlt3;cases hlt3
       cases hh
       obtain⟨p,hp⟩:∃ p,cs[q]?=some p:=⟨_,List.getElem?_eq_getElem hlt3⟩
       obtain⟨q1,q2,q3⟩:=hcell q p hp
       have q1:=jaa q1 HE.o;have q2:=jaa q2 HE.o;have q3:=jaa q3 HE.o;have b1:(q:Int) < (cs.length:Int):=by omega
       have HP:=Hd hp
       obtain⟨x,y,gn⟩:=p
       simp only at q1 q2 q3;have hM2:=hM.alloc (.cells #[.string x,.string y,.bool gn] 66);have hst:(cs.take (q+1)).foldl doM (l.foldl putM [])=doM ((cs.take q).foldl doM (l.foldl putM [])) ⟨x,y,gn⟩:=by
        rw[List.take_add_one,HP.o,List.foldl_append];rfl
       have HST:=Hd hst;cases gn with
       | true =>
        obtain⟨es2,hes2⟩:∃ es2,es2=jcM es x.data.toList:=⟨_,rfl⟩
        have hdl:(Builtin.delete_ #[132,9] 0 #[.map (some bm),.string x]).run Tryz.prog (wr.alloc (.cells #[.string x,.string y,.bool true] 66))=.ok (.tuple #[]) ((wr.alloc (.cells #[.string x,.string y,.bool true] 66)).putObj bm (.map (Tryz.ES.arr es2) ck)):=by
         have:=jiK Tryz.ES Tryz.uMapSE hM2 x.data.toList 9 0
         rw[←hes2]at this;exact this
        have HR2:=Hd (show MapR es2 ck ((cs.take (q+1)).foldl doM (l.foldl putM [])) by
         rw[HST.o,hes2];exact HR.o.del x)
        have HB2:=Hd (hM2.put_same (.map (Tryz.ES.arr es2) ck));have HE3:=Hd ((HE.o.alloc (.cells #[.string x,.string y,.bool true] 66)).putObj (.inr hbl) (.map (Tryz.ES.arr es2) ck));clear hcell hp hb hc hM hR hM2 hes2 hE HR HE hst HST;go_wp2_with fail
        go_roundw
        case rel=>exact⟨q+1,by omega,by go_num,HE3.o,es2,ck,HB2.o,HR2.o⟩
        case measure=>simp[intOf];omega
       | false =>
        obtain⟨es2,hes2⟩:∃ es2,es2=jbz es x.data.toList (Pair.V (x,y)) ck:=⟨_,rfl⟩
        obtain⟨ck2,hck2⟩:∃ ck2,ck2=(if (jaZ es x.data.toList).isSome then ck else ck+1):=⟨_,rfl⟩
        have hmu:(Instr.mapUpdate 132 (.map (some bm)) (.string x) (.agg #[.string x,.string y])).run Tryz.prog (wr.alloc (.cells #[.string x,.string y,.bool false] 66))=.ok () ((wr.alloc (.cells #[.string x,.string y,.bool false] 66)).putObj bm (.map (Tryz.ES.arr es2) ck2)):=by
         have:=jcu Tryz.ES Tryz.uMapSE hM2 x.data.toList (Pair.V (x,y))
         rw[←hes2, ←hck2]at this;exact this
        have HR2:=Hd (show MapR es2 ck2 ((cs.take (q+1)).foldl doM (l.foldl putM [])) by
         rw[HST.o,hes2,hck2];exact HR.o.put (x,y))
        have HB2:=Hd (hM2.put_same (.map (Tryz.ES.arr es2) ck2));have HE3:=Hd ((HE.o.alloc (.cells #[.string x,.string y,.bool false] 66)).putObj (.inr hbl) (.map (Tryz.ES.arr es2) ck2));clear hcell hp hb hc hM hR hM2 hes2 hck2 hE HR HE hst HST;go_wp2_with fail
        go_roundw
        case rel=>exact⟨q+1,by omega,by go_num,HE3.o,es2,ck2,HB2.o,HR2.o⟩
        case measure=>simp[intOf];omega
      ·have hqn:q=cs.length:=by omega
       obtain⟨M,hMM⟩:∃ M,M=jfx l cs:=⟨_,rfl⟩
       have HRM:=Hd (show MapR es ck M by have h:=HR.o;rw[hqn,List.take_length]at h;rw[hMM];exact h);have HMM:=Hd hMM;have hln:=jhZ Tryz.ES Tryz.uMapSE hM;rw[HRM.o.len]at hln;have HMB:=Hd hM;have HEF:=Hd hE;clear hqn hM hR hE HR HE hMM
       by_cases h40:40 < M.length
       ·have b40:(40:Int) < (M.length:Int):=by omega
        have HAP:=Hd (show jbX l cs=12 by unfold jbX;rw[if_neg (by rw[HCK0.o];simp),HB.o, ←HMM.o];simp[h40]);clear h40;go_wp2_with fail
        go_ret2;exact jeJ.bad HAP.o (by decide) HEF.o
       ·have b40:¬(40:Int) < (M.length:Int):=by omega
        have HAP:=Hd (show jbX l cs=0 by unfold jbX;rw[if_neg (by rw[HCK0.o];simp),HB.o, ←HMM.o];simp[h40]);have hm40:M.length≤40:=by omega
        clear h40;go_wp2_with fail
        refine (jqr wr bm).mono ?_;rintro e w4 ⟨rfl,hbx,hE4⟩;have HBX:=Hd hbx;have HMB4:=Hd (HMB.o.keeps hE4 (fun h=>h));have HE4:=Hd (HEF.o.trans hE4);clear hbx hE4 hln;go_wp2_with fail
        refine (jtg w4 wr.heap.size bm ck es ⟨HBX.o,HMB4.o⟩ HRM.o.born HRM.o.keys HRM.o.lt (by have:=HRM.o.len;omega)).mono ?_;rintro e w5 ⟨u,rfl,hS⟩;rw[HRM.o.keysEq,HRM.o.len]at hS
        obtain⟨KS,hKS⟩:∃ KS,KS=jfT (M.map Pair.k):=⟨_,rfl⟩
        rw[←hKS]at hS;have hKl:KS.length=M.length:=by rw[hKS,jgi,List.length_map]
        have HK:=Hd hKS;have HKL:=Hd hKl
        obtain⟨a6,c6,rfl⟩:=hS.sl
        have HRD:=Hd hS.rd;have HE5:=Hd (HE4.o.trans hS.ext);have HMB5:=Hd (HMB4.o.keeps hS.ext (fun h=>h));have HSM:=Hd (show (jds M).length=M.length by unfold jds;rw[List.length_map,jgi,List.length_map]);clear hS hKS hKl HMB4 HE4 HBX HEF HMB;go_wp2_with fail
        go_loopw [14,92] (fun v i wr=>jvz w5 M v i wr) (fun _ i _=>M.length - (intOf i).toNat)
        case atStart=>exact⟨0,by omega,rfl,ORow.nil _ _ (ExtR w5)⟩
        case round =>
         obtain⟨t,ht,rfl,hR⟩:=hrel
         obtain⟨a7,c7,rfl⟩:=hR.sl
         have HR:=Hd hR;clear hR
         by_cases hlt4:t < M.length
         ·obtain⟨kk,hkk⟩:∃ kk,KS[t]?=some kk:=⟨_,List.getElem?_eq_getElem (by rw[HKL.o];exact hlt4)⟩
          obtain⟨x,hx⟩:∃ x:ByteArray,x=⟨kk.toArray⟩:=⟨_,rfl⟩
          obtain⟨y,hy⟩:∃ y,y=valM M kk:=⟨_,rfl⟩
          obtain⟨_,_,hh,hcell⟩:=HRD.o.slice
          obtain⟨b,o,hao,hc0⟩:=hcell t x (by unfold baL;rw[List.getElem?_map,hkk,hx];rfl)
          obtain⟨e1,e2,e3⟩:=Value.slice.inj hh
          subst e1;subst e3;subst hao;clear hh e2;have q1:=jaa hc0 HR.o.ext;have hmem:kk∈M.map Pair.k:=by
           have h1:=List.mem_of_getElem? hkk;rw[HK.o]at h1;exact (List.mergeSort_perm _ _).mem_iff.1 h1
          have hlk:(Instr.lookup 132 (.map (some bm)) (.string x) false).run Tryz.prog wr=.ok (.agg #[.string x,.string y]) wr:=by
           have:=jcN Tryz.ES Tryz.uMapSE (HMB5.o.keeps HR.o.ext (fun h=>h)) (Tryz.zeroE wr) kk false
           rw[HRM.o.get hmem, ←hx, ←hy]at this;rw[hx];rw[hx]at this;exact this
          have hst:(jds M).take (t+1)=(jds M).take t++[(x,y)]:=by
           rw[List.take_add_one]
           have:(jds M)[t]?=some (x,y):=by
            unfold jds;rw[←HK.o,List.getElem?_map,hkk,hx,hy];rfl
           rw[this];rfl
          have HST:=Hd hst;have b1:(t:Int) < (M.length:Int):=by omega
          clear hcell hc0 hmem hst hkk hx hy;go_wp2_with (at_builtin;refine jbv Tryz.sEnts (HR.o.mono ((ExtR wr).alloc _)) (.tmp 96) (.tmp 100) rfl rfl rfl (ja9 (Blk.new wr _)) (news:=[.string x,.string y]) (by intro u hu;simp at hu;rcases hu with rfl | rfl <;> rfl) rfl rfl ?c1 ?c2 (fun v' w' r1 r2 r3=>?_))
          case c1=>unfold maxLen;omega
          case c2=>omega
          have r1':ERow w5 w' v' (t+1) ((jds M).take (t+1)):=by unfold ERow;rw[HST.o,jbN];exact r1
          obtain⟨a8,c8,rfl⟩:=r1'.sl
          have HR5:=Hd r1';clear r1 r2 r3 r1' HR;go_wp2_with fail
          go_roundw
          case rel=>exact⟨t+1,by omega,by go_num,HR5.o⟩
          case measure=>simp[intOf];omega
         ·have htm:t=M.length:=by omega
          have HRF:=Hd (show ERow w wr (.slice a7 t c7) (jds M).length (jds M) by
           have h:=HR.o;rw[show (jds M).take t=jds M from by rw[htm, ←HSM.o,List.take_length]]at h;have h2:ERow w5 wr (.slice a7 t c7) (jds M).length (jds M):=by rw[HSM.o, ←htm];exact h
           exact⟨by rw[HSM.o, ←htm];exact⟨_,_,rfl⟩,h2.own,HE5.o.trans h2.ext,fun b hb=>Nat.le_trans HE5.o.size (h2.new b hb)⟩)
          clear htm HR;go_wp2_with fail
          go_ret2;unfold jeJ;rw[if_pos HAP.o, ←HMM.o]
          exact⟨_,rfl,HRF.o⟩
end
end Go.Proofs.YtpaacnhboilkkaaGreatDoor
