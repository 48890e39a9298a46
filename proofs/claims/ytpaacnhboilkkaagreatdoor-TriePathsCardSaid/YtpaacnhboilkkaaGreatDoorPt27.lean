/- Parts of the proof, one behind the other: CanonW, EntRow, CanonX. Each is under no condition but those that it states. -/
import Derived.Test.YtpaacnhboilkkaaGreatDoorPt26
import Derived.Test.YtpaacnhboilkkaaGreatDoorPt19
import Derived.Test.YtpaacnhboilkkaaGreatDoorPt18
namespace Go.Proofs.YtpaacnhboilkkaaGreatDoor
set_option linter.unusedSimpArgs false
set_option linter.unusedVariables false
set_option maxRecDepth 100000
set_option maxHeartbeats 16000000
section
open Go Go.RowKit
def putM:List Pair→Pair→List Pair
 | [],p=>[p]
 | q :: r,p=>if p.k=q.k then p :: r else q :: putM r p
def delM:List Pair→ByteArray→List Pair
 | [],_=>[]
 | q :: r,k=>if k.data.toList=q.k then r else q :: delM r k
def valM(m:List Pair)(k:List UInt8):ByteArray:=((m.find? (fun p=>decide (k=p.k))).map (·.2)).getD ⟨#[]⟩
def sortM(m:List Pair):List Pair:=(sortS (m.map Pair.k)).map fun k=>(⟨k.toArray⟩,valM m k)
def eKV(x:EntS):List UInt8 × Value:=(x.1,x.2.1)
def pKV(p:Pair):List UInt8 × Value:=(p.k,Pair.V p)
structure MapR(es:List EntS)(ck:Nat)(m:List Pair):Prop where
 same:es.map eKV=m.map pKV
 born:(es.map (·.2.2)).Nodup
 lt:∀ x∈es,x.2.2 < ck
 keys:(es.map (·.1)).Nodup
theorem MapR.nil(ck:Nat):MapR [] ck []:=⟨rfl,by simp,by simp,by simp⟩
theorem MapR.keysEq{es:List EntS}{ck:Nat}{m:List Pair}(h:MapR es ck m):es.map (·.1)=m.map Pair.k:=by
 have:=congrArg (List.map Prod.fst) h.same
 rw[List.map_map,List.map_map]at this;exact this
theorem MapR.len{es:List EntS}{ck:Nat}{m:List Pair}(h:MapR es ck m):es.length=m.length:=by
 have:=congrArg List.length h.same;simpa using this
theorem put_same(p:Pair)(n:Nat):∀ (es:List EntS) (m:List Pair),es.map eKV=m.map pKV→(entPut es p.k (Pair.V p) n).map eKV=(putM m p).map pKV
 | [],[],_=>rfl
 | [],_ :: _,h=>by cases h
 | _ :: _,[],h=>by cases h
 | x :: r,q :: s,h=>by
  rw[List.map_cons,List.map_cons]at h
  injection h with h1 h2
  have hk:x.1=q.k:=congrArg Prod.fst h1
  unfold entPut putM
  rw[←hk]
  by_cases hp:p.k=x.1
  ·rw[if_pos hp,if_pos hp,List.map_cons,List.map_cons,h2];rfl
  ·rw[if_neg hp,if_neg hp,List.map_cons,List.map_cons,put_same p n r s h2,h1]
theorem del_same(k:ByteArray):∀ (es:List EntS) (m:List Pair),es.map eKV=m.map pKV→(entDel es k.data.toList).map eKV=(delM m k).map pKV
 | [],[],_=>rfl
 | [],_ :: _,h=>by cases h
 | _ :: _,[],h=>by cases h
 | x :: r,q :: s,h=>by
  rw[List.map_cons,List.map_cons]at h
  injection h with h1 h2
  have hk:x.1=q.k:=congrArg Prod.fst h1
  unfold entDel delM
  rw[←hk]
  by_cases hp:k.data.toList=x.1
  ·rw[if_pos hp,if_pos hp,h2]
  ·rw[if_neg hp,if_neg hp,List.map_cons,List.map_cons,del_same k r s h2,h1]
theorem get_cons(x:EntS)(r:List EntS)(k:List UInt8):entGet (x :: r) k=if k=x.1 then some x.2.1 else entGet r k:=by
 by_cases h:k=x.1 <;> simp[entGet,h]
theorem put_born(k:List UInt8)(v:Value)(n:Nat):∀ es:List EntS,(entPut es k v n).map (·.2.2)=if (entGet es k).isSome then es.map (·.2.2)else es.map (·.2.2)++[n]
 | []=>rfl
 | x :: r=>by
  unfold entPut
  rw[get_cons]
  by_cases h:k=x.1
  ·rw[if_pos h,if_pos h];simp
  ·rw[if_neg h,if_neg h,List.map_cons,put_born k v n r]
   cases (entGet r k).isSome <;> simp
theorem put_keys(k:List UInt8)(v:Value)(n:Nat):∀ es:List EntS,(entPut es k v n).map (·.1)=if (entGet es k).isSome then es.map (·.1)else es.map (·.1)++[k]
 | []=>rfl
 | x :: r=>by
  unfold entPut
  rw[get_cons]
  by_cases h:k=x.1
  ·rw[if_pos h,if_pos h];simp[h]
  ·rw[if_neg h,if_neg h,List.map_cons,put_keys k v n r]
   cases (entGet r k).isSome <;> simp
theorem get_none(k:List UInt8):∀ es:List EntS,(entGet es k).isSome=false→k ∉ es.map (·.1)
 | [],_=>by simp
 | x :: r,h=>by
  rw[get_cons]at h
  by_cases hk:k=x.1
  ·rw[if_pos hk]at h;cases h
  ·rw[if_neg hk]at h
   have:=get_none k r h
   simp only[List.map_cons,List.mem_cons,not_or]
   exact⟨hk,this⟩
theorem MapR.put{es:List EntS}{ck:Nat}{m:List Pair}(h:MapR es ck m)(p:Pair):MapR (entPut es p.k (Pair.V p) ck) (if (entGet es p.k).isSome then ck else ck+1) (putM m p):=by
 have hb:=put_born p.k (Pair.V p) ck es
 have hk:=put_keys p.k (Pair.V p) ck es
 refine⟨put_same p ck es m h.same,?_,?_,?_⟩
 ·rw[hb]
  split
  ·exact h.born
  ·rw[List.nodup_append]
   refine⟨h.born,by simp,fun a ha b hb e=>?_⟩
   obtain⟨x,hx,e1⟩:=List.mem_map.1 ha
   have:=h.lt x hx
   simp at hb;omega
 ·intro x hx
  have hm:x.2.2∈(entPut es p.k (Pair.V p) ck).map (·.2.2):=List.mem_map.2 ⟨x,hx,rfl⟩
  rw[hb]at hm
  split at hm
  ·rename_i hs
   rw[if_pos hs]
   obtain⟨y,hy,e⟩:=List.mem_map.1 hm
   rw[←e];exact h.lt y hy
  ·rename_i hs
   rw[if_neg hs]
   rcases List.mem_append.1 hm with hm | hm
   ·obtain⟨y,hy,e⟩:=List.mem_map.1 hm
    have:=h.lt y hy;omega
   ·simp at hm;omega
 ·rw[hk]
  split
  ·exact h.keys
  ·rename_i hs
   have hn:=get_none p.k es (by simpa using hs)
   rw[List.nodup_append]
   exact⟨h.keys,by simp,fun a ha b hb e=>by simp at hb;subst hb;subst e;exact hn ha⟩
theorem del_sub(k:List UInt8):∀ es:List EntS,(entDel es k).Sublist es
 | []=>List.Sublist.refl _
 | x :: r=>by
  unfold entDel
  split
  ·exact List.sublist_cons_self _ _
  ·exact (del_sub k r).cons_cons _
theorem MapR.del{es:List EntS}{ck:Nat}{m:List Pair}(h:MapR es ck m)(k:ByteArray):MapR (entDel es k.data.toList) ck (delM m k):=by
 have hs:=del_sub k.data.toList es
 exact⟨del_same k es m h.same,h.born.sublist (hs.map _),fun x hx=>h.lt x (hs.subset hx),h.keys.sublist (hs.map _)⟩
theorem get_find(k:List UInt8):∀ (es:List EntS) (m:List Pair),es.map eKV=m.map pKV→entGet es k=(m.find? (fun p=>decide (k=p.k))).map Pair.V
 | [],[],_=>rfl
 | [],_ :: _,h=>by cases h
 | _ :: _,[],h=>by cases h
 | x :: r,q :: s,h=>by
  rw[List.map_cons,List.map_cons]at h
  injection h with h1 h2
  have hk:x.1=q.k:=congrArg Prod.fst h1
  have hv:x.2.1=Pair.V q:=congrArg Prod.snd h1
  rw[get_cons,List.find?_cons,hk]
  by_cases hp:k=q.k
  ·rw[if_pos hp];simp[hp,hv]
  ·rw[if_neg hp,get_find k r s h2];simp[hp]
theorem MapR.get{es:List EntS}{ck:Nat}{m:List Pair}(h:MapR es ck m){k:List UInt8}(hk:k∈m.map Pair.k):entGet es k=some (Pair.V (⟨k.toArray⟩,valM m k)):=by
 rw[get_find k es m h.same]
 obtain⟨p,hp,e⟩:=List.mem_map.1 hk
 cases hf:m.find? (fun p=>decide (k=p.k))with
 | none=>exact absurd e.symm (by have:=List.find?_eq_none.1 hf p hp;simpa using this)
 | some q =>
  have hq:k=q.k:=by simpa using List.find?_some hf
  unfold valM
  rw[hf]
  have:(⟨k.toArray⟩:ByteArray)=q.1:=by rw[hq]
  simp only[Option.map_some,Option.getD_some]
  rw[this]
structure Chg where
 key:ByteArray
 value:ByteArray
 gone:Bool
def Chg.bad(c:Chg):Bool := !keyedB c.key ||(c.gone && decide (c.value.size≠0)) ||(!c.gone && !valuedB c.value)
def doM(m:List Pair)(c:Chg):List Pair:=if c.gone then delM m c.key else putM m (c.key,c.value)
def applyM(l:List Pair)(cs:List Chg):List Pair:=cs.foldl doM (l.foldl putM [])
def applyE(l:List Pair)(cs:List Chg):Int:=
 if checkN l≠0 then checkN l else if cs.any Chg.bad=true then 1 else if (applyM l cs).length > 40 then 12 else 0
theorem Tryz.infoEnt:(Tryz.prog.info? 72).map (fun i=>(i.zero,i.size,i.bytes))=some (some (.agg #[.string ⟨#[]⟩,.string ⟨#[]⟩]),2,32):=by kernel_rfl
theorem Tryz.uEnts:Tryz.prog.underlying 22=some (.slice 72):=by kernel_rfl
theorem Tryz.sEnts:SInfo Tryz.prog 22 72 2 32:=SInfo.mk' Tryz.uEnts Tryz.infoEnt rfl (by decide)
abbrev ERow(w0 w:World)(v:Value)(n:Nat)(xs:List Pair):Prop:=ORow 72 2 w0 w v n (cellsP xs)
theorem ERow.rd{w0 w:World}{v:Value}{n:Nat}{xs:List Pair}(h:ERow w0 w v n xs):RdP w v xs:=by
 have hl:xs.length=n:=by have:=h.len;rw[cellsP_len]at this;omega
 obtain⟨_,⟨rfl,h2⟩ |⟨g,cap,cur,rfl,h3,h4,h5,h6,h7⟩⟩:=h.own
 ·exact .inl ⟨none,0,rfl,List.eq_nil_of_length_eq_zero (by omega)⟩
 ·subst hl
  refine .inr ⟨g,0,cap,rfl,(Array.getElem?_eq_some_iff.1 h4).1,h5,fun j x hx=>?_⟩
  have hj:=(List.getElem?_eq_some_iff.1 hx).1
  obtain⟨e1,e2⟩:=cellsP_get xs j x hx
  exact⟨by rw[Nat.zero_add,h.own.cellAt (j * 2) (by omega),e1],by rw[Nat.zero_add,h.own.cellAt (j * 2+1) (by omega),e2]⟩
def RdC(w:World)(v:Value)(xs:List Chg):Prop:=
 (∃ a c,v=.slice a 0 c∧xs=[])∨∃ b o c,v=.slice (some ⟨b,o,none⟩) xs.length c∧b < w.heap.size∧xs.length≤c∧∀ (j:Nat) x,xs[j]?=some x→w.cell? ⟨b,o+j * 3,none⟩=some (.string x.key)∧w.cell? ⟨b,o+j * 3+1,none⟩=some (.string x.value)∧w.cell? ⟨b,o+j * 3+2,none⟩=some (.bool x.gone)
theorem RdC.ext{w w':World}{v:Value}{xs:List Chg}(h:RdC w v xs)(k:Ext w w'):RdC w' v xs:=by
 rcases h with h |⟨b,o,c,h1,h2,h3,h4⟩
 ·exact .inl h
 ·exact .inr ⟨b,o,c,h1,Nat.lt_of_lt_of_le h2 k.size,h3,fun j x hx=>⟨cell_ext (h4 j x hx).1 k,cell_ext (h4 j x hx).2.1 k,cell_ext (h4 j x hx).2.2 k⟩⟩
theorem RdC.sl{w:World}{v:Value}{xs:List Chg}(h:RdC w v xs):∃ a c,v=.slice a xs.length c:=by
 rcases h with⟨a,c,h1,h2⟩ |⟨b,o,c,h1,_⟩
 ·exact⟨a,c,by rw[h1,h2];rfl⟩
 ·exact⟨_,c,h1⟩
theorem Tryz.makeMapSE(W:World):(Instr.makeMap 132 none).run Tryz.prog W=.ok (.map (some W.heap.size)) (W.alloc (.map #[] 0)):=by kernel_rfl
theorem Tryz.zeroE(w:World):(zeroValue 72).run Tryz.prog w=.ok (.agg #[.string ⟨#[]⟩,.string ⟨#[]⟩]) w:=by kernel_rfl
def ApplyP(w:World)(l:List Pair)(cs:List Chg)(e:Ending)(w':World):Prop:=
 if applyE l cs=0 then ∃ r,e=.returned (.tuple #[r,.int .i64 0])∧ERow w w' r (sortM (applyM l cs)).length (sortM (applyM l cs))else e=.returned (.tuple #[.slice none 0 0,.int .i64 (applyE l cs)])∧Ext w w'
theorem ApplyP.bad{w w':World}{l:List Pair}{cs:List Chg}{x:Int}(h:applyE l cs=x)(h0:x≠0)(he:Ext w w'):ApplyP w l cs (.returned (.tuple #[.slice none 0 0,.int .i64 x])) w':=by
 unfold ApplyP;rw[h,if_neg h0];exact⟨rfl,he⟩
def ApRel1(w:World)(cs:List Chg)(i:Value)(wr:World):Prop:=∃ k:Nat,k≤cs.length∧i=.int .i64 k∧Ext w wr∧(cs.take k).any Chg.bad=false
def ApRel2(w:World)(bm:Nat)(l:List Pair)(i:Value)(wr:World):Prop:=∃ k:Nat,k≤l.length∧i=.int .i64 k∧Ext w wr∧∃ es ck,Blk wr bm (.map (Tryz.ES.arr es) ck)∧MapR es ck ((l.take k).foldl putM [])
def ApRel3(w:World)(bm:Nat)(l:List Pair)(cs:List Chg)(i:Value)(wr:World):Prop:=∃ k:Nat,k≤cs.length∧i=.int .i64 k∧Ext w wr∧∃ es ck,Blk wr bm (.map (Tryz.ES.arr es) ck)∧MapR es ck ((cs.take k).foldl doM (l.foldl putM []))
def ApRel4(w5:World)(M:List Pair)(v i:Value)(wr:World):Prop:=∃ k:Nat,k≤M.length∧i=.int .i64 k∧ERow w5 wr v k ((sortM M).take k)
theorem any_take{cs:List Chg}{k:Nat}{c:Chg}(h:cs[k]?=some c):(cs.take (k+1)).any Chg.bad=((cs.take k).any Chg.bad || c.bad):=by
 rw[List.take_add_one,h,List.any_append];simp
theorem any_at{cs:List Chg}{k:Nat}{c:Chg}(h:cs[k]?=some c)(hb:c.bad=true):cs.any Chg.bad=true:=List.any_eq_true.2 ⟨c,List.mem_of_getElem? h,hb⟩
theorem apply_c(w:World)(v u:Value)(l:List Pair)(cs:List Chg)(hv:RdP w v l)(hu:RdC w u cs)(hn:l.length≤9223372036854775807)(hnc:cs.length≤9223372036854775807)(hs:∀ p∈l,p.1.size≤9223372036854775807∧p.2.size≤9223372036854775807)(hsc:∀ c∈cs,c.key.size≤9223372036854775807∧c.value.size≤9223372036854775807) :
  Calls Tryz.prog 37 #[v,u] w (ApplyP w l cs):=by
 have HCK:=Hd (check_c w v l hv hn hs)
 have HV:=Hd hv
 have HU:=Hd hu
 have HSC:=Hd hsc
 obtain⟨a,c,hsl⟩:=hv.sl
 subst hsl
 obtain⟨a',c',hsl'⟩:=hu.sl
 subst hsl'
 clear hv hu hs hsc
 by_cases hck:checkN l=0
 case neg =>
  obtain⟨x,hx⟩:∃ x,x=checkN l:=⟨_,rfl⟩
  have HB:=Hd (show applyE l cs=x by unfold applyE;rw[if_pos hck,hx])
  rw[←hx]at hck HCK
  have hne:(x == 0)=false:=by simpa using hck
  have HX:=Hd hck
  clear hck hx HV HU HSC
  go_enter Tryz.func37,Tryz.ntmps37
  go_wp2_with fail
  refine HCK.out.mono ?_
  rintro e w1 ⟨rfl,hE⟩
  have HE:=Hd hE
  clear hE HCK
  go_wp2_with fail
  go_ret2
  exact ApplyP.bad HB.out HX.out HE.out
 rw[hck]at HCK
 have HL40:=Hd (check_ok hck).len
 have HCK0:=Hd hck
 clear hck
 go_enter Tryz.func37,Tryz.ntmps37
 go_wp2_with fail
 refine HCK.out.mono ?_
 rintro e w1 ⟨rfl,hE⟩
 have HE1:=Hd hE
 clear hE HCK
 go_wp2_with fail
 go_loopw [24] (fun i wr=>ApRel1 w cs i wr) (fun i _=>cs.length - (intOf i).toNat)
 case atStart=>exact⟨0,by omega,rfl,HE1.out,rfl⟩
 case round =>
  obtain⟨k,hk,rfl,hE,hall⟩:=hrel
  have HE:=Hd hE
  have HALL:=Hd hall
  clear hE hall
  by_cases hlt:k < cs.length
  ·rcases HU.out with⟨_,_,_,h0⟩ |⟨b,o,c1,hh,hb,hc,hcell⟩
   ·rw[h0]at hlt;cases hlt
   cases hh
   obtain⟨p,hp⟩:∃ p,cs[k]?=some p:=⟨_,List.getElem?_eq_getElem hlt⟩
   obtain⟨q1,q2,q3⟩:=hcell k p hp
   have q1:=cell_ext q1 HE.out
   have q2:=cell_ext q2 HE.out
   have q3:=cell_ext q3 HE.out
   have hsp:=HSC.out p (List.mem_of_getElem? hp)
   have b1:(k:Int) < (cs.length:Int):=by omega
   have HP:=Hd hp
   obtain⟨ky,vl,gn⟩:=p
   simp only at q1 q2 q3 hsp
   clear hcell hp hb hc
   have HBAD:=Hd (fun(h:Chg.bad ⟨ky,vl,gn⟩=true)=>(show applyE l cs=1 by
    unfold applyE;rw[if_neg (by rw[HCK0.out];simp),if_pos (any_at HP.out h)]))
   have HGO:=Hd (fun(h:Chg.bad ⟨ky,vl,gn⟩=false)=>(show (cs.take (k+1)).any Chg.bad=false by rw[any_take HP.out,HALL.out,h];rfl))
   have HEA:=Hd (HE.out.alloc (.cells #[.string ky,.string vl,.bool gn] 66))
   clear HP HALL
   go_wp2_with fail
   refine (keyed_c _ ky hsp.1).mono ?_
   rintro e w3 ⟨rfl,rfl⟩
   clear q1 q2 q3
   cases hky:keyedB ky with
   | false =>
    have HB:=Hd (HBAD.out (by unfold Chg.bad;simp[hky]))
    clear hky
    go_wp2_with fail
    go_ret2
    exact ApplyP.bad HB.out (by decide) HEA.out
   | true =>
    cases gn with
    | true =>
     by_cases hz:vl.size=0
     ·have:=ba_empty hz
      subst this
      have HG:=Hd (HGO.out (by unfold Chg.bad;simp[hky];rfl))
      clear hky hz
      go_wp2_with fail
      go_roundw
      case rel=>exact⟨k+1,by omega,by go_num,HEA.out,HG.out⟩
      case measure=>simp[intOf];omega
     ·have hne:=ne_empty (s:=vl) (by omega)
      have HB:=Hd (HBAD.out (by unfold Chg.bad;simp[hky,hz]))
      clear hky hz
      go_wp2_with fail
      go_ret2
      exact ApplyP.bad HB.out (by decide) HEA.out
    | false =>
     go_wp2_with fail
     refine (valued_c _ vl hsp.2).mono ?_
     rintro e w3 ⟨rfl,rfl⟩
     cases hvl:valuedB vl with
     | true =>
      have HG:=Hd (HGO.out (by unfold Chg.bad;simp[hky,hvl]))
      clear hky hvl
      go_wp2_with fail
      go_roundw
      case rel=>exact⟨k+1,by omega,by go_num,HEA.out,HG.out⟩
      case measure=>simp[intOf];omega
     | false =>
      have HB:=Hd (HBAD.out (by unfold Chg.bad;simp[hky,hvl]))
      clear hky hvl
      go_wp2_with fail
      go_ret2
      exact ApplyP.bad HB.out (by decide) HEA.out
  ·have hkn:k=cs.length:=by omega
   have HB:=Hd (show cs.any Chg.bad=false by have h:=HALL.out;rwa [hkn,List.take_length]at h)
   clear hkn HALL
   have hmm:=Tryz.makeMapSE wr
   go_wp2_with fail
   obtain⟨bm,hbm⟩:∃ bm,bm=wr.heap.size:=⟨_,rfl⟩
   have HBM:=Hd (show Blk (wr.alloc (.map #[] 0)) bm (.map #[] 0) by rw[hbm];exact Blk.new wr _)
   have hbl:w.heap.size≤bm:=by rw[hbm];exact HE.out.size
   have HE2:=Hd (HE.out.alloc (.map #[] 0))
   rw[←hbm]
   clear hmm hbm
   go_loopw [56] (fun i w2=>ApRel2 w bm l i w2) (fun i _=>l.length - (intOf i).toNat)
   case atStart=>exact⟨0,by omega,rfl,HE2.out,[],0,HBM.out,MapR.nil 0⟩
   case round =>
    clear HE HE2 HBM HE1
    obtain⟨j,hj,rfl,hE,es,ck,hM,hR⟩:=hrel
    have HE:=Hd hE
    have HR:=Hd hR
    by_cases hlt2:j < l.length
    ·rcases HV.out with⟨_,_,_,h0⟩ |⟨b,o,c1,hh,hb,hc,hcell⟩
     ·rw[h0]at hlt2;cases hlt2
     cases hh
     obtain⟨p,hp⟩:∃ p,l[j]?=some p:=⟨_,List.getElem?_eq_getElem hlt2⟩
     obtain⟨q1,q2⟩:=hcell j p hp
     have q1:=cell_ext q1 HE.out
     have q2:=cell_ext q2 HE.out
     have b1:(j:Int) < (l.length:Int):=by omega
     have HP:=Hd hp
     obtain⟨x,y⟩:=p
     simp only at q1 q2
     have hM2:=hM.alloc (.cells #[.string x,.string y] 72)
     obtain⟨es2,hes2⟩:∃ es2,es2=entPut es x.data.toList (Pair.V (x,y)) ck:=⟨_,rfl⟩
     obtain⟨ck2,hck2⟩:∃ ck2,ck2=(if (entGet es x.data.toList).isSome then ck else ck+1):=⟨_,rfl⟩
     have hmu:(Instr.mapUpdate 132 (.map (some bm)) (.string x) (.agg #[.string x,.string y])).run Tryz.prog (wr.alloc (.cells #[.string x,.string y] 72))=.ok () ((wr.alloc (.cells #[.string x,.string y] 72)).putObj bm (.map (Tryz.ES.arr es2) ck2)):=by
      have:=run_mapUpdate Tryz.ES Tryz.uMapSE hM2 x.data.toList (Pair.V (x,y))
      rw[←hes2, ←hck2]at this;exact this
     have HR2:=Hd (show MapR es2 ck2 ((l.take (j+1)).foldl putM []) by
      rw[List.take_add_one,HP.out,List.foldl_append,hes2,hck2];exact HR.out.put (x,y))
     have HB2:=Hd (hM2.put_same (.map (Tryz.ES.arr es2) ck2))
     have HE3:=Hd ((HE.out.alloc (.cells #[.string x,.string y] 72)).putObj (.inr hbl) (.map (Tryz.ES.arr es2) ck2))
     clear hcell hp hb hc hM hR hM2 hes2 hck2 hE HR HE
     go_wp2_with fail
     go_roundw
     case rel=>exact⟨j+1,by omega,by go_num,HE3.out,es2,ck2,HB2.out,HR2.out⟩
     case measure=>simp[intOf];omega
    ·have hjn:j=l.length:=by omega
     have HR2:=Hd (show MapR es ck (l.foldl putM []) by have h:=HR.out;rwa [hjn,List.take_length]at h)
     have HM2:=Hd hM
     have HE0:=Hd hE
     clear hjn hM hR hE HR HE
     go_wp2_with fail
     go_loopw [67] (fun i w2=>ApRel3 w bm l cs i w2) (fun i _=>cs.length - (intOf i).toNat)
     case atStart=>exact⟨0,by omega,rfl,HE0.out,es,ck,HM2.out,HR2.out⟩
     case round =>
      clear HE0 HM2 HR2
      obtain⟨q,hq,rfl,hE,es,ck,hM,hR⟩:=hrel
      have HE:=Hd hE
      have HR:=Hd hR
      by_cases hlt3:q < cs.length
      ·rcases HU.out with⟨_,_,_,h0⟩ |⟨b,o,c1,hh,hb,hc,hcell⟩
       ·rw[h0]at hlt3;cases hlt3
       cases hh
       obtain⟨p,hp⟩:∃ p,cs[q]?=some p:=⟨_,List.getElem?_eq_getElem hlt3⟩
       obtain⟨q1,q2,q3⟩:=hcell q p hp
       have q1:=cell_ext q1 HE.out
       have q2:=cell_ext q2 HE.out
       have q3:=cell_ext q3 HE.out
       have b1:(q:Int) < (cs.length:Int):=by omega
       have HP:=Hd hp
       obtain⟨x,y,gn⟩:=p
       simp only at q1 q2 q3
       have hM2:=hM.alloc (.cells #[.string x,.string y,.bool gn] 66)
       have hst:(cs.take (q+1)).foldl doM (l.foldl putM [])=doM ((cs.take q).foldl doM (l.foldl putM [])) ⟨x,y,gn⟩:=by
        rw[List.take_add_one,HP.out,List.foldl_append];rfl
       have HST:=Hd hst
       cases gn with
       | true =>
        obtain⟨es2,hes2⟩:∃ es2,es2=entDel es x.data.toList:=⟨_,rfl⟩
        have hdl:(Builtin.delete_ #[132,9] 0 #[.map (some bm),.string x]).run Tryz.prog (wr.alloc (.cells #[.string x,.string y,.bool true] 66))=.ok (.tuple #[]) ((wr.alloc (.cells #[.string x,.string y,.bool true] 66)).putObj bm (.map (Tryz.ES.arr es2) ck)):=by
         have:=run_delete Tryz.ES Tryz.uMapSE hM2 x.data.toList 9 0
         rw[←hes2]at this;exact this
        have HR2:=Hd (show MapR es2 ck ((cs.take (q+1)).foldl doM (l.foldl putM [])) by
         rw[HST.out,hes2];exact HR.out.del x)
        have HB2:=Hd (hM2.put_same (.map (Tryz.ES.arr es2) ck))
        have HE3:=Hd ((HE.out.alloc (.cells #[.string x,.string y,.bool true] 66)).putObj (.inr hbl) (.map (Tryz.ES.arr es2) ck))
        clear hcell hp hb hc hM hR hM2 hes2 hE HR HE hst HST
        go_wp2_with fail
        go_roundw
        case rel=>exact⟨q+1,by omega,by go_num,HE3.out,es2,ck,HB2.out,HR2.out⟩
        case measure=>simp[intOf];omega
       | false =>
        obtain⟨es2,hes2⟩:∃ es2,es2=entPut es x.data.toList (Pair.V (x,y)) ck:=⟨_,rfl⟩
        obtain⟨ck2,hck2⟩:∃ ck2,ck2=(if (entGet es x.data.toList).isSome then ck else ck+1):=⟨_,rfl⟩
        have hmu:(Instr.mapUpdate 132 (.map (some bm)) (.string x) (.agg #[.string x,.string y])).run Tryz.prog (wr.alloc (.cells #[.string x,.string y,.bool false] 66))=.ok () ((wr.alloc (.cells #[.string x,.string y,.bool false] 66)).putObj bm (.map (Tryz.ES.arr es2) ck2)):=by
         have:=run_mapUpdate Tryz.ES Tryz.uMapSE hM2 x.data.toList (Pair.V (x,y))
         rw[←hes2, ←hck2]at this;exact this
        have HR2:=Hd (show MapR es2 ck2 ((cs.take (q+1)).foldl doM (l.foldl putM [])) by
         rw[HST.out,hes2,hck2];exact HR.out.put (x,y))
        have HB2:=Hd (hM2.put_same (.map (Tryz.ES.arr es2) ck2))
        have HE3:=Hd ((HE.out.alloc (.cells #[.string x,.string y,.bool false] 66)).putObj (.inr hbl) (.map (Tryz.ES.arr es2) ck2))
        clear hcell hp hb hc hM hR hM2 hes2 hck2 hE HR HE hst HST
        go_wp2_with fail
        go_roundw
        case rel=>exact⟨q+1,by omega,by go_num,HE3.out,es2,ck2,HB2.out,HR2.out⟩
        case measure=>simp[intOf];omega
      ·have hqn:q=cs.length:=by omega
       obtain⟨M,hMM⟩:∃ M,M=applyM l cs:=⟨_,rfl⟩
       have HRM:=Hd (show MapR es ck M by have h:=HR.out;rw[hqn,List.take_length]at h;rw[hMM];exact h)
       have HMM:=Hd hMM
       have hln:=run_len_map Tryz.ES Tryz.uMapSE hM
       rw[HRM.out.len]at hln
       have HMB:=Hd hM
       have HEF:=Hd hE
       clear hqn hM hR hE HR HE hMM
       by_cases h40:40 < M.length
       ·have b40:(40:Int) < (M.length:Int):=by omega
        have HAP:=Hd (show applyE l cs=12 by unfold applyE;rw[if_neg (by rw[HCK0.out];simp),HB.out, ←HMM.out];simp[h40])
        clear h40
        go_wp2_with fail
        go_ret2
        exact ApplyP.bad HAP.out (by decide) HEF.out
       ·have b40:¬(40:Int) < (M.length:Int):=by omega
        have HAP:=Hd (show applyE l cs=0 by unfold applyE;rw[if_neg (by rw[HCK0.out];simp),HB.out, ←HMM.out];simp[h40])
        have hm40:M.length≤40:=by omega
        clear h40
        go_wp2_with fail
        refine (mapkeys_c wr bm).mono ?_
        rintro e w4 ⟨rfl,hbx,hE4⟩
        have HBX:=Hd hbx
        have HMB4:=Hd (HMB.out.keeps hE4 (fun h=>h))
        have HE4:=Hd (HEF.out.trans hE4)
        clear hbx hE4 hln
        go_wp2_with fail
        refine (sorted_c w4 wr.heap.size bm ck es ⟨HBX.out,HMB4.out⟩ HRM.out.born HRM.out.keys HRM.out.lt (by have:=HRM.out.len;omega)).mono ?_
        rintro e w5 ⟨u,rfl,hS⟩
        rw[HRM.out.keysEq,HRM.out.len]at hS
        obtain⟨KS,hKS⟩:∃ KS,KS=sortS (M.map Pair.k):=⟨_,rfl⟩
        rw[←hKS]at hS
        have hKl:KS.length=M.length:=by rw[hKS,sortS_len,List.length_map]
        have HK:=Hd hKS
        have HKL:=Hd hKl
        obtain⟨a6,c6,rfl⟩:=hS.sl
        have HRD:=Hd hS.rd
        have HE5:=Hd (HE4.out.trans hS.ext)
        have HMB5:=Hd (HMB4.out.keeps hS.ext (fun h=>h))
        have HSM:=Hd (show (sortM M).length=M.length by unfold sortM;rw[List.length_map,sortS_len,List.length_map])
        clear hS hKS hKl HMB4 HE4 HBX HEF HMB
        go_wp2_with fail
        go_loopw [14,92] (fun v i wr=>ApRel4 w5 M v i wr) (fun _ i _=>M.length - (intOf i).toNat)
        case atStart=>exact⟨0,by omega,rfl,ORow.nil _ _ (ExtR w5)⟩
        case round =>
         obtain⟨t,ht,rfl,hR⟩:=hrel
         obtain⟨a7,c7,rfl⟩:=hR.sl
         have HR:=Hd hR
         clear hR
         by_cases hlt4:t < M.length
         ·obtain⟨kk,hkk⟩:∃ kk,KS[t]?=some kk:=⟨_,List.getElem?_eq_getElem (by rw[HKL.out];exact hlt4)⟩
          obtain⟨x,hx⟩:∃ x:ByteArray,x=⟨kk.toArray⟩:=⟨_,rfl⟩
          obtain⟨y,hy⟩:∃ y,y=valM M kk:=⟨_,rfl⟩
          obtain⟨_,_,hh,hcell⟩:=HRD.out.slice
          obtain⟨b,o,hao,hc0⟩:=hcell t x (by unfold baL;rw[List.getElem?_map,hkk,hx];rfl)
          obtain⟨e1,e2,e3⟩:=Value.slice.inj hh
          subst e1
          subst e3
          subst hao
          clear hh e2
          have q1:=cell_ext hc0 HR.out.ext
          have hmem:kk∈M.map Pair.k:=by
           have h1:=List.mem_of_getElem? hkk
           rw[HK.out]at h1
           exact (List.mergeSort_perm _ _).mem_iff.1 h1
          have hlk:(Instr.lookup 132 (.map (some bm)) (.string x) false).run Tryz.prog wr=.ok (.agg #[.string x,.string y]) wr:=by
           have:=run_lookup Tryz.ES Tryz.uMapSE (HMB5.out.keeps HR.out.ext (fun h=>h)) (Tryz.zeroE wr) kk false
           rw[HRM.out.get hmem, ←hx, ←hy]at this
           rw[hx];rw[hx]at this;exact this
          have hst:(sortM M).take (t+1)=(sortM M).take t++[(x,y)]:=by
           rw[List.take_add_one]
           have:(sortM M)[t]?=some (x,y):=by
            unfold sortM;rw[←HK.out,List.getElem?_map,hkk,hx,hy];rfl
           rw[this];rfl
          have HST:=Hd hst
          have b1:(t:Int) < (M.length:Int):=by omega
          clear hcell hc0 hmem hst hkk hx hy
          go_wp2_with (at_builtin;refine wpList_app Tryz.sEnts (HR.out.mono ((ExtR wr).alloc _)) (.tmp 96) (.tmp 100) rfl rfl rfl (news_blk (Blk.new wr _)) (news:=[.string x,.string y]) (by intro u hu;simp at hu;rcases hu with rfl | rfl <;> rfl) rfl rfl ?c1 ?c2 (fun v' w' r1 r2 r3=>?_))
          case c1=>unfold maxLen;omega
          case c2=>omega
          have r1':ERow w5 w' v' (t+1) ((sortM M).take (t+1)):=by unfold ERow;rw[HST.out,cellsP_append];exact r1
          obtain⟨a8,c8,rfl⟩:=r1'.sl
          have HR5:=Hd r1'
          clear r1 r2 r3 r1' HR
          go_wp2_with fail
          go_roundw
          case rel=>exact⟨t+1,by omega,by go_num,HR5.out⟩
          case measure=>simp[intOf];omega
         ·have htm:t=M.length:=by omega
          have HRF:=Hd (show ERow w wr (.slice a7 t c7) (sortM M).length (sortM M) by
           have h:=HR.out
           rw[show (sortM M).take t=sortM M from by rw[htm, ←HSM.out,List.take_length]]at h
           have h2:ERow w5 wr (.slice a7 t c7) (sortM M).length (sortM M):=by rw[HSM.out, ←htm];exact h
           exact⟨by rw[HSM.out, ←htm];exact⟨_,_,rfl⟩,h2.own,HE5.out.trans h2.ext,fun b hb=>Nat.le_trans HE5.out.size (h2.new b hb)⟩)
          clear htm HR
          go_wp2_with fail
          go_ret2
          unfold ApplyP
          rw[if_pos HAP.out, ←HMM.out]
          exact⟨_,rfl,HRF.out⟩
end
end Go.Proofs.YtpaacnhboilkkaaGreatDoor
