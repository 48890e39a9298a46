/- Parts of the proof, one behind the other: StoreA. Each is under no condition but those that it states. -/
import Derived.Test.YtcpnjmcipainpaaGreatDoorPa21
import Derived.Test.YtcpnjmcipainpaaGreatDoorPa18
namespace Go.Proofs.YtcpnjmcipainpaaGreatDoor
set_option linter.unusedSimpArgs false
set_option linter.unusedVariables false
set_option maxRecDepth 100000
set_option maxHeartbeats 16000000
section
open Go Go.RowKit
abbrev Key:=List UInt8
abbrev EntK:=Ent Key
def kvE(x:EntK):Key × Value:=(x.1,x.2.1)
def getV(m:List (Key × Value))(k:Key):Option Value:=(m.find? fun x=>decide (k=x.1)).map (·.2)
def putV:List (Key × Value)→Key→Value→List (Key × Value)
 | [],k,v=>[(k,v)]
 | x :: r,k,v=>if k=x.1 then (k,v) :: r else x :: putV r k v
structure MapV(es:List EntK)(ck:Nat)(m:List (Key × Value)):Prop where
 same:es.map kvE=m
 born:(es.map (·.2.2)).Nodup
 lt:∀ x∈es,x.2.2 < ck
 keys:(m.map (·.1)).Nodup
theorem MapV.nil(ck:Nat):MapV [] ck []:=⟨rfl,by simp,by simp,by simp⟩
theorem MapV.len{es:List EntK}{ck:Nat}{m:List (Key × Value)}(h:MapV es ck m):es.length=m.length:=by rw[←h.same];simp
theorem joD(k:Key):∀ es:List EntK,jaZ es k=getV (es.map kvE) k
 | []=>rfl
 | x :: r=>by
  have ih:=joD k r;unfold getV jaZ at *;rw[List.map_cons,List.find?_cons,List.find?_cons]
  by_cases h:k=x.1
  ·simp[h,kvE]
  ·simp[h,kvE]at ih ⊢;exact ih
theorem MapV.get{es:List EntK}{ck:Nat}{m:List (Key × Value)}(h:MapV es ck m)(k:Key):jaZ es k=getV m k:=by rw[joD,h.same]
theorem jme(k:Key)(v:Value)(n:Nat):∀ es:List EntK,(jbC es k v n).map kvE=putV (es.map kvE) k v
 | []=>rfl
 | x :: r=>by
  unfold jbC;rw[List.map_cons,putV]
  by_cases h:k=x.1
  ·rw[if_pos h,if_pos (show k=(kvE x).1 from h),List.map_cons];rfl
  ·rw[if_neg h,if_neg (show ¬ k=(kvE x).1 from h),List.map_cons,jme k v n r]
theorem jhG(x:EntK)(r:List EntK)(k:Key):jaZ (x :: r) k=if k=x.1 then some x.2.1 else jaZ r k:=by
 by_cases h:k=x.1 <;> simp[jaZ,h]
theorem jhY(k:Key)(v:Value)(n:Nat):∀ es:List EntK,(jbC es k v n).map (·.2.2)=if (jaZ es k).isSome then es.map (·.2.2)else es.map (·.2.2)++[n]
 | []=>rfl
 | x :: r=>by
  unfold jbC;rw[jhG]
  by_cases h:k=x.1
  ·rw[if_pos h,if_pos h];simp
  ·rw[if_neg h,if_neg h,List.map_cons,jhY k v n r]
   cases (jaZ r k).isSome <;> simp
theorem jhZ(k:Key)(v:Value):∀ m:List (Key × Value),(putV m k v).map (·.1)=if k∈m.map (·.1)then m.map (·.1)else m.map (·.1)++[k]
 | []=>rfl
 | x :: r=>by
  rw[putV]
  by_cases h:k=x.1
  ·rw[if_pos h,if_pos (by simp[h])];simp[h]
  ·rw[if_neg h,List.map_cons,jhZ k v r]
   by_cases h2:k∈r.map (·.1)
   ·rw[if_pos h2,if_pos (by rw[List.map_cons];exact List.mem_cons_of_mem _ h2)];rfl
   ·rw[if_neg h2,if_neg (by rw[List.map_cons,List.mem_cons];exact fun e=>e.elim h h2)];rfl
theorem MapV.put{es:List EntK}{ck:Nat}{m:List (Key × Value)}(h:MapV es ck m)(k:Key)(v:Value):MapV (jbC es k v ck) (if (jaZ es k).isSome then ck else ck+1) (putV m k v):=by
 have hb:=jhY k v ck es
 refine⟨by rw[jme,h.same],?_,?_,?_⟩
 ·rw[hb]
  split
  ·exact h.born
  ·rw[List.nodup_append]
   refine⟨h.born,by simp,fun a ha b hb e=>?_⟩
   obtain⟨x,hx,e1⟩:=List.mem_map.1 ha
   have:=h.lt x hx
   simp at hb;omega
 ·intro x hx
  have hm:x.2.2∈(jbC es k v ck).map (·.2.2):=List.mem_map.2 ⟨x,hx,rfl⟩;rw[hb]at hm;split at hm
  ·rename_i hs
   rw[if_pos hs]
   obtain⟨y,hy,e⟩:=List.mem_map.1 hm
   rw[←e];exact h.lt y hy
  ·rename_i hs
   rw[if_neg hs];rcases List.mem_append.1 hm with hm | hm
   ·obtain⟨y,hy,e⟩:=List.mem_map.1 hm
    have:=h.lt y hy;omega
   ·simp at hm;omega
 ·rw[jhZ]
  split
  ·exact h.keys
  ·rename_i hn
   rw[List.nodup_append]
   exact⟨h.keys,by simp,fun a ha b hb e=>by simp at hb;subst hb;subst e;exact hn ha⟩
structure It where
 text:ByteArray
 refs:List ByteArray
 used:Int
 held:Int
abbrev Nd5:=Key × Nat × It
theorem Tryz.uMapIt:Tryz.prog.underlying 115=some (.map 9 121):=by kernel_rfl
theorem Tryz.zeroIt(w:World):(zeroValue 121).run Tryz.prog w=.ok (.pointer none) w:=by kernel_rfl
structure jdg(W:World)(b:Nat)(it:It):Prop where
 cells:∃ rv,Blk W b (.cells #[.string it.text,rv,.int .i64 it.used,.int .i64 it.held] 125)∧W.ownsRow 0 9 1 rv it.refs.length (it.refs.map Value.string)
def jfR(W:World)(F:BSet):Prop:=∀ b cur fz,F b→¬ Blk W b (.cells cur 9 fz)
theorem jfR.none(W:World):jfR W (fun _=>False):=fun _ _ _ h=>h.elim
theorem jei{W W':World}{F:BSet}{v:Value}{n:Nat}{xs:List Value}(h:W.ownsRow 0 9 1 v n xs)(k:jae F W W')(hF:jfR W F):W'.ownsRow 0 9 1 v n xs:=by
 refine jaG h k fun b hb hf=>?_
 obtain⟨_,⟨h1,_⟩ |⟨g,cap,cur,h1,_,h3,_⟩⟩:=h
 ·rw[h1]at hb;cases hb
 ·rw[h1]at hb
  have e:some g=some b:=hb;obtain rfl:=Option.some.inj e;exact hF g cur (0,0) hf h3
theorem jdg.keeps{W W':World}{F:BSet}{b:Nat}{it:It}(h:jdg W b it)(k:jae F W W')(hb:¬ F b)(hF:jfR W F):jdg W' b it:=by
 obtain⟨rv,h1,h2⟩:=h.cells
 exact⟨rv,h1.keeps k hb,jei h2 k hF⟩
theorem jdg.lt{W:World}{b:Nat}{it:It}(h:jdg W b it):b < W.heap.size:=by obtain⟨rv,h1,_⟩:=h.cells;exact h1.lt
def kvN(x:Nd5):Key × Value:=(x.1,.pointer (some ⟨x.2.1,0,none⟩))
structure jcm(W:World)(bm:Nat)(L:List Nd5):Prop where
 mp:∃ es ck,Blk W bm (.map (Tryz.ES.arr es) ck)∧MapV es ck (L.map kvN)
 blks:(L.map (·.2.1)).Nodup
 items:∀ x∈L,jdg W x.2.1 x.2.2
theorem jcm.keeps{W W':World}{F:BSet}{bm:Nat}{L:List Nd5}(h:jcm W bm L)(k:jae F W W')(hm:¬ F bm)(hL:∀ x∈L,¬ F x.2.1)(hF:jfR W F):jcm W' bm L:=by
 obtain⟨es,ck,h1,h2⟩:=h.mp
 exact⟨⟨es,ck,h1.keeps k hm,h2⟩,h.blks,fun x hx=>(h.items x hx).keeps k (hL x hx) hF⟩
theorem jcm.ext{W W':World}{bm:Nat}{L:List Nd5}(h:jcm W bm L)(k:Ext W W'):jcm W' bm L:=h.keeps k (fun h=>h) (fun _ _ h=>h) (jfR.none W)
def atL(L:List Nd5)(k:Key):Option Nd5:=L.find? fun x=>decide (k=x.1)
theorem jlG(k:Key):∀ L:List Nd5,getV (L.map kvN) k=(atL L k).map fun x=>.pointer (some ⟨x.2.1,0,none⟩)
 | []=>rfl
 | x :: r=>by
  have ih:=jlG k r;unfold getV atL at *;rw[List.map_cons,List.find?_cons,List.find?_cons]
  by_cases h:k=x.1
  ·simp[h,kvN]
  ·simp[h,kvN]at ih ⊢;exact ih
theorem jaR{L:List Nd5}{k:Key}{x:Nd5}(h:atL L k=some x):x∈L∧x.1=k:=by
 unfold atL at h;have h2:=List.find?_some h
 exact⟨List.mem_of_find?_eq_some h,(of_decide_eq_true h2).symm⟩
def ptrO(o:Option Nd5):Value:=match o with | some x=>.pointer (some ⟨x.2.1,0,none⟩) | none=>.pointer none
theorem jcm.look{W:World}{bm:Nat}{L:List Nd5}(h:jcm W bm L)(k:ByteArray)(ok:Bool) :
  (Instr.lookup 115 (.map (some bm)) (.string k) ok).run Tryz.prog W=.ok (if ok then .tuple #[ptrO (atL L k.data.toList),.bool (atL L k.data.toList).isSome]else ptrO (atL L k.data.toList)) W:=by
 obtain⟨es,ck,h1,h2⟩:=h.mp
 have:=jc1 Tryz.ES Tryz.uMapIt h1 (Tryz.zeroIt W) k.data.toList ok
 rw[h2.get,jlG]at this;cases ha:atL L k.data.toList with
 | none=>rw[ha]at this;exact this
 | some x=>rw[ha]at this;exact this
structure jat(W:World)(s bm:Nat)(room:Int)(L:List Nd5):Prop where
 st:Blk W s (.cells #[.int .i64 room,.map (some bm)] 123)
 mp:jcm W bm L
theorem jat.ext{W W':World}{s bm:Nat}{room:Int}{L:List Nd5}(h:jat W s bm room L)(k:Ext W W'):jat W' s bm room L:=⟨h.st.keeps k (fun h=>h),h.mp.ext k⟩
theorem jgq(w:World)(s bm:Nat)(room:Int)(L:List Nd5)(k:ByteArray)(h:jat w s bm room L):Calls Tryz.prog 29 #[.pointer (some ⟨s,0,none⟩),.string k] w fun e w'=>e=.returned (optV ((atL L k.data.toList).map (·.2.2.text)))∧Ext w w':=by
 have q1:=h.st.cell (i:=1) (v:=.map (some bm)) (by rfl);have hlk:=h.mp.look k true;have HI:=Hd h.mp.items;simp only[if_true]at hlk;clear h;cases ha:atL L k.data.toList with
 | none =>
  rw[ha]at hlk;unfold ptrO at hlk;simp only[Option.isSome]at hlk;clear ha;go_enter Tryz.func29,Tryz.ntmps29;go_wp2_with fail
  go_ret2
  exact⟨rfl,ExtR w⟩
 | some x =>
  rw[ha]at hlk
  obtain⟨rv,hB,_⟩:=(HI.o x (jaR ha).1).cells
  have q2:=hB.cell (i:=0) (v:=.string x.2.2.text) (by rfl);unfold ptrO at hlk;simp only[Option.isSome]at hlk;clear ha hB;go_enter Tryz.func29,Tryz.ntmps29;go_wp2_with fail
  go_ret2
  exact⟨rfl,ExtR w⟩
def jqu(o:Option Nd5):Int:=match o with | some x=>x.2.2.held | none=>0
end
end Go.Proofs.YtcpnjmcipainpaaGreatDoor
