/- Parts of the proof, one behind the other: OpenA, StoreA, StoreB, StoreC, StoreD. Each is under no condition but those that it states. -/
import Derived.Test.YtpaacnhboilkkaaGreatDoorPh29
import Derived.Test.YtpaacnhboilkkaaGreatDoorPh30
import Derived.Test.YtpaacnhboilkkaaGreatDoorPh26
import Derived.Test.YtpaacnhboilkkaaGreatDoorPh28
import Derived.WalkKit
import Derived.ProofKit
import Derived.OpenShut
import Derived.Lib.SmallJoins
import Derived.JoinedCond
import Derived.Deep.Slices
import Derived.Carry
namespace Go.Proofs.YtpaacnhboilkkaaGreatDoor
set_option linter.unusedSimpArgs false
set_option linter.unusedVariables false
set_option maxRecDepth 100000
set_option maxHeartbeats 16000000
section
open Go Go.ChangeShapes Go.WideShapes Go.ChangeAt Go.RowKit Go.Deep
theorem Tryz.cellsChg:Tryz.prog.cellsOf 66=3:=by kernel_rfl
section
variable {H:Type} {enc:TypeId × Value→H} {w:World} {base:Nat} {spare:Nat→Bool} {held:Bool}
theorem jsO{n:Nat}{a:Addr}{cs:List Value}{x:DataW H × List MemPlace}(hc:w.cells? base a 3=some cs)(h:DataW.trod enc Tryz.prog w base spare held n 66 cs=some x) :
  ∃ p:Chg,w.cell? (a.add 0)=some (.string p.key)∧w.cell? (a.add 1)=some (.string p.value)∧w.cell? (a.add 2)=some (.bool p.gone)∧p.key.size≤9223372036854775807∧p.value.size≤9223372036854775807:=by
 obtain⟨_,hl,hg⟩:=World.cells?_some hc
 obtain⟨xs,m,_,_,_,hxl,hf⟩:=DataW.trod_struct Tryz.underlying66 h
 match cs,hl with
 | [c0,c1,c2],_ =>
  have f0:DataW.trod enc Tryz.prog w base spare held m 9 (([c0,c1,c2].drop 0).take (Tryz.prog.cellsOf 9))=xs[0]?:=hf 0 _ rfl;have f1:DataW.trod enc Tryz.prog w base spare held m 9 (([c0,c1,c2].drop 1).take (Tryz.prog.cellsOf 9))=xs[1]?:=hf 1 _ rfl;have f2:DataW.trod enc Tryz.prog w base spare held m 4 (([c0,c1,c2].drop 2).take (Tryz.prog.cellsOf 4))=xs[2]?:=hf 2 _ rfl;rw[Tryz.cellsStr]at f0 f1;rw[Tryz.cellsBool]at f2;dsimp only[List.drop,List.take]at f0 f1 f2;have hx:∀ i,i < 3→∃ y,xs[i]?=some y:=fun i hi=>⟨_,List.getElem?_eq_getElem (by rw[hxl];exact hi)⟩
  obtain⟨y0,e0⟩:=hx 0 (by omega)
  obtain⟨y1,e1⟩:=hx 1 (by omega)
  obtain⟨y2,e2⟩:=hx 2 (by omega)
  rw[e0]at f0;rw[e1]at f1;rw[e2]at f2
  obtain⟨r,q0,_,w0⟩:=DataW.trod_string Tryz.underlying9 f0
  obtain⟨s,q1,_,w1⟩:=DataW.trod_string Tryz.underlying9 f1
  obtain⟨b,q2,_⟩:=DataW.trod_bool Tryz.underlying4 f2
  simp only[List.cons.injEq,and_true]at q0 q1 q2;subst q0 q1 q2
  exact⟨⟨r,s,b⟩,hg 0 (by omega),hg 1 (by omega),hg 2 (by omega),Nat.le_trans w0 jda,Nat.le_trans w1 jda⟩
theorem jkL{v:Value}{d:DataW H}{p:List MemPlace}(hv:∃ a n c,v=.slice a n c)(h:DataW.Trod enc Tryz.prog w 0 spare held 41 v d p) :
  ∃ l:List Chg,RdC w v l∧l.length≤9223372036854775807∧∀ p∈l,p.key.size≤9223372036854775807∧p.value.size≤9223372036854775807:=by
 obtain⟨a0,n0,c0,rfl⟩:=hv
 obtain⟨fuel,hf⟩:=h
 rcases open_slice Tryz.underlying41 hf with⟨hcs,_⟩ |⟨a,len,cap,m,n,D,Pl,hcs,_,hl,hm,hmm,_,hi⟩
 ·simp only[Value.cells]at hcs
  have hcs':Value.slice a0 n0 c0=.slice none 0 0:=by simpa using hcs
  rw[hcs']
  exact⟨[],.inl ⟨none,0,rfl,rfl⟩,by simp,by simp⟩
 ·have hcs':Value.slice a0 n0 c0=.slice (some a) len cap:=by simpa [Value.cells]using hcs
  rw[hcs'];have hlm:len≤m:=by rw[hmm];split <;> omega
  obtain⟨l,hll,hlp⟩:=jqk len (⟨⟨#[]⟩,⟨#[]⟩,false⟩:Chg) (fun i p=>w.cell? ((a.add (i * 3)).add 0)=some (.string p.key)∧w.cell? ((a.add (i * 3)).add 1)=some (.string p.value)∧w.cell? ((a.add (i * 3)).add 2)=some (.bool p.gone)∧p.key.size≤9223372036854775807∧p.value.size≤9223372036854775807) (fun i hi'=>by
   obtain⟨cs',h1,h2⟩:=hi i (by omega)
   rw[Tryz.cellsChg]at h1;exact jsO h1 h2)
  have hsz:∀ p∈l,p.key.size≤9223372036854775807∧p.value.size≤9223372036854775807:=fun p hp=>by
   obtain⟨i,hi⟩:=List.getElem?_of_mem hp
   exact (hlp i p hi).2.2.2
  have hlen:l.length≤9223372036854775807:=by have:=jda;omega
  refine⟨l,?_,hlen,hsz⟩
  by_cases h0:len=0
  ·subst h0
   exact .inl ⟨some a,cap,rfl,List.eq_nil_of_length_eq_zero hll⟩
  ·obtain⟨p0,hp0⟩:∃ p,l[0]?=some p:=⟨_,List.getElem?_eq_getElem (by omega)⟩
   have hspot:a.spot=none:=by simpa [Addr.add]using World.cell?_spot (hlp 0 p0 hp0).1
   obtain⟨b,o,sp⟩:=a
   dsimp only at hspot;subst hspot;refine .inr ⟨b,o,cap,by rw[hll],World.block_lt_of_cell? w _ (hlp 0 p0 hp0).1,by omega,fun j x hx=>?_⟩
   obtain⟨q1,q2,q3,_⟩:=hlp j x hx
   rw[Go.Deep.add_add,Go.WideShapes.add_plain]at q1 q2 q3
   exact⟨q1,q2,q3⟩
end
end
section
open Go Go.RowKit
abbrev Key:=List UInt8
abbrev EntK:=Ent Key
def kvE(x:EntK):Key × Value:=(x.1,x.2.1)
def getV(m:List (Key × Value))(k:Key):Option Value:=(m.find? fun x=>decide (k=x.1)).map (·.2)
def putV:List (Key × Value)→Key→Value→List (Key × Value)
 | [],k,v=>[(k,v)]
 | x :: r,k,v=>if k=x.1 then (k,v) :: r else x :: putV r k v
def delV:List (Key × Value)→Key→List (Key × Value)
 | [],_=>[]
 | x :: r,k=>if k=x.1 then r else x :: delV r k
structure MapV(es:List EntK)(ck:Nat)(m:List (Key × Value)):Prop where
 same:es.map kvE=m
 born:(es.map (·.2.2)).Nodup
 lt:∀ x∈es,x.2.2 < ck
 keys:(m.map (·.1)).Nodup
theorem MapV.nil(ck:Nat):MapV [] ck []:=⟨rfl,by simp,by simp,by simp⟩
theorem MapV.len{es:List EntK}{ck:Nat}{m:List (Key × Value)}(h:MapV es ck m):es.length=m.length:=by rw[←h.same];simp
theorem jtF(k:Key):∀ es:List EntK,jaZ es k=getV (es.map kvE) k
 | []=>rfl
 | x :: r=>by
  have ih:=jtF k r;unfold getV jaZ at *;rw[List.map_cons,List.find?_cons,List.find?_cons]
  by_cases h:k=x.1
  ·simp[h,kvE]
  ·simp[h,kvE]at ih ⊢;exact ih
theorem MapV.get{es:List EntK}{ck:Nat}{m:List (Key × Value)}(h:MapV es ck m)(k:Key):jaZ es k=getV m k:=by rw[jtF,h.same]
theorem jqR(k:Key)(v:Value)(n:Nat):∀ es:List EntK,(jbz es k v n).map kvE=putV (es.map kvE) k v
 | []=>rfl
 | x :: r=>by
  unfold jbz;rw[List.map_cons,putV]
  by_cases h:k=x.1
  ·rw[if_pos h,if_pos (show k=(kvE x).1 from h),List.map_cons];rfl
  ·rw[if_neg h,if_neg (show ¬ k=(kvE x).1 from h),List.map_cons,jqR k v n r]
theorem jtB(k:Key):∀ es:List EntK,(jcM es k).map kvE=delV (es.map kvE) k
 | []=>rfl
 | x :: r=>by
  unfold jcM;rw[List.map_cons,delV]
  by_cases h:k=x.1
  ·rw[if_pos h,if_pos (show k=(kvE x).1 from h)]
  ·rw[if_neg h,if_neg (show ¬ k=(kvE x).1 from h),List.map_cons,jtB k r]
theorem jkp(x:EntK)(r:List EntK)(k:Key):jaZ (x :: r) k=if k=x.1 then some x.2.1 else jaZ r k:=by
 by_cases h:k=x.1 <;> simp[jaZ,h]
theorem jkU(k:Key)(v:Value)(n:Nat):∀ es:List EntK,(jbz es k v n).map (·.2.2)=if (jaZ es k).isSome then es.map (·.2.2)else es.map (·.2.2)++[n]
 | []=>rfl
 | x :: r=>by
  unfold jbz;rw[jkp]
  by_cases h:k=x.1
  ·rw[if_pos h,if_pos h];simp
  ·rw[if_neg h,if_neg h,List.map_cons,jkU k v n r]
   cases (jaZ r k).isSome <;> simp
theorem jkW(k:Key)(v:Value):∀ m:List (Key × Value),(putV m k v).map (·.1)=if k∈m.map (·.1)then m.map (·.1)else m.map (·.1)++[k]
 | []=>rfl
 | x :: r=>by
  rw[putV]
  by_cases h:k=x.1
  ·rw[if_pos h,if_pos (by simp[h])];simp[h]
  ·rw[if_neg h,List.map_cons,jkW k v r]
   by_cases h2:k∈r.map (·.1)
   ·rw[if_pos h2,if_pos (by rw[List.map_cons];exact List.mem_cons_of_mem _ h2)];rfl
   ·rw[if_neg h2,if_neg (by rw[List.map_cons,List.mem_cons];exact fun e=>e.elim h h2)];rfl
theorem MapV.put{es:List EntK}{ck:Nat}{m:List (Key × Value)}(h:MapV es ck m)(k:Key)(v:Value):MapV (jbz es k v ck) (if (jaZ es k).isSome then ck else ck+1) (putV m k v):=by
 have hb:=jkU k v ck es
 refine⟨by rw[jqR,h.same],?_,?_,?_⟩
 ·rw[hb]
  split
  ·exact h.born
  ·rw[List.nodup_append]
   refine⟨h.born,by simp,fun a ha b hb e=>?_⟩
   obtain⟨x,hx,e1⟩:=List.mem_map.1 ha
   have:=h.lt x hx
   simp at hb;omega
 ·intro x hx
  have hm:x.2.2∈(jbz es k v ck).map (·.2.2):=List.mem_map.2 ⟨x,hx,rfl⟩;rw[hb]at hm;split at hm
  ·rename_i hs
   rw[if_pos hs]
   obtain⟨y,hy,e⟩:=List.mem_map.1 hm
   rw[←e];exact h.lt y hy
  ·rename_i hs
   rw[if_neg hs];rcases List.mem_append.1 hm with hm | hm
   ·obtain⟨y,hy,e⟩:=List.mem_map.1 hm
    have:=h.lt y hy;omega
   ·simp at hm;omega
 ·rw[jkW]
  split
  ·exact h.keys
  ·rename_i hn
   rw[List.nodup_append]
   exact⟨h.keys,by simp,fun a ha b hb e=>by simp at hb;subst hb;subst e;exact hn ha⟩
theorem jmq(k:Key):∀ es:List EntK,(jcM es k).Sublist es
 | []=>List.Sublist.refl _
 | x :: r=>by
  unfold jcM;split
  ·exact List.sublist_cons_self _ _
  ·exact (jmq k r).cons_cons _
theorem jms(k:Key):∀ m:List (Key × Value),(delV m k).Sublist m
 | []=>List.Sublist.refl _
 | x :: r=>by
  unfold delV;split
  ·exact List.sublist_cons_self _ _
  ·exact (jms k r).cons_cons _
theorem MapV.del{es:List EntK}{ck:Nat}{m:List (Key × Value)}(h:MapV es ck m)(k:Key):MapV (jcM es k) ck (delV m k):=by
 have hs:=jmq k es
 exact⟨by rw[jtB,h.same],h.born.sublist (hs.map _),fun x hx=>h.lt x (hs.subset hx),h.keys.sublist ((jms k m).map _)⟩
structure It where
 text:ByteArray
 refs:List ByteArray
 used:Int
 held:Int
abbrev Nd5:=Key × Nat × It
theorem Tryz.uMapIt:Tryz.prog.underlying 109=some (.map 9 114):=by kernel_rfl
theorem Tryz.zeroIt(w:World):(zeroValue 114).run Tryz.prog w=.ok (.pointer none) w:=by kernel_rfl
structure jeD(W:World)(b:Nat)(it:It):Prop where
 cells:∃ rv,Blk W b (.cells #[.string it.text,rv,.int .i64 it.used,.int .i64 it.held] 118)∧W.ownsRow 0 9 1 rv it.refs.length (it.refs.map Value.string)
def jgW(W:World)(F:BSet):Prop:=∀ b cur fz,F b→¬ Blk W b (.cells cur 9 fz)
theorem jgW.none(W:World):jgW W (fun _=>False):=fun _ _ _ h=>h.elim
theorem jcY{W W':World}{F:BSet}{v:Value}{n:Nat}{xs:List Value}(h:W.ownsRow 0 9 1 v n xs)(k:jac F W W')(hF:jgW W F):W'.ownsRow 0 9 1 v n xs:=by
 refine jaG h k fun b hb hf=>?_
 obtain⟨_,⟨h1,_⟩ |⟨g,cap,cur,h1,_,h3,_⟩⟩:=h
 ·rw[h1]at hb;cases hb
 ·rw[h1]at hb
  have e:some g=some b:=hb;obtain rfl:=Option.some.inj e;exact hF g cur (0,0) hf h3
theorem jeD.keeps{W W':World}{F:BSet}{b:Nat}{it:It}(h:jeD W b it)(k:jac F W W')(hb:¬ F b)(hF:jgW W F):jeD W' b it:=by
 obtain⟨rv,h1,h2⟩:=h.cells
 exact⟨rv,h1.keeps k hb,jcY h2 k hF⟩
theorem jeD.lt{W:World}{b:Nat}{it:It}(h:jeD W b it):b < W.heap.size:=by obtain⟨rv,h1,_⟩:=h.cells;exact h1.lt
def kvN(x:Nd5):Key × Value:=(x.1,.pointer (some ⟨x.2.1,0,none⟩))
structure jcQ(W:World)(bm:Nat)(L:List Nd5):Prop where
 mp:∃ es ck,Blk W bm (.map (Tryz.ES.arr es) ck)∧MapV es ck (L.map kvN)
 blks:(L.map (·.2.1)).Nodup
 items:∀ x∈L,jeD W x.2.1 x.2.2
theorem jcQ.keeps{W W':World}{F:BSet}{bm:Nat}{L:List Nd5}(h:jcQ W bm L)(k:jac F W W')(hm:¬ F bm)(hL:∀ x∈L,¬ F x.2.1)(hF:jgW W F):jcQ W' bm L:=by
 obtain⟨es,ck,h1,h2⟩:=h.mp
 exact⟨⟨es,ck,h1.keeps k hm,h2⟩,h.blks,fun x hx=>(h.items x hx).keeps k (hL x hx) hF⟩
theorem jcQ.ext{W W':World}{bm:Nat}{L:List Nd5}(h:jcQ W bm L)(k:Ext W W'):jcQ W' bm L:=h.keeps k (fun h=>h) (fun _ _ h=>h) (jgW.none W)
def atL(L:List Nd5)(k:Key):Option Nd5:=L.find? fun x=>decide (k=x.1)
theorem jpT(k:Key):∀ L:List Nd5,getV (L.map kvN) k=(atL L k).map fun x=>.pointer (some ⟨x.2.1,0,none⟩)
 | []=>rfl
 | x :: r=>by
  have ih:=jpT k r;unfold getV atL at *;rw[List.map_cons,List.find?_cons,List.find?_cons]
  by_cases h:k=x.1
  ·simp[h,kvN]
  ·simp[h,kvN]at ih ⊢;exact ih
theorem jaD{L:List Nd5}{k:Key}{x:Nd5}(h:atL L k=some x):x∈L∧x.1=k:=by
 unfold atL at h;have h2:=List.find?_some h
 exact⟨List.mem_of_find?_eq_some h,(of_decide_eq_true h2).symm⟩
def ptrO(o:Option Nd5):Value:=match o with | some x=>.pointer (some ⟨x.2.1,0,none⟩) | none=>.pointer none
theorem jcQ.look{W:World}{bm:Nat}{L:List Nd5}(h:jcQ W bm L)(k:ByteArray)(ok:Bool) :
  (Instr.lookup 109 (.map (some bm)) (.string k) ok).run Tryz.prog W=.ok (if ok then .tuple #[ptrO (atL L k.data.toList),.bool (atL L k.data.toList).isSome]else ptrO (atL L k.data.toList)) W:=by
 obtain⟨es,ck,h1,h2⟩:=h.mp
 have:=jcN Tryz.ES Tryz.uMapIt h1 (Tryz.zeroIt W) k.data.toList ok
 rw[h2.get,jpT]at this;cases ha:atL L k.data.toList with
 | none=>rw[ha]at this;exact this
 | some x=>rw[ha]at this;exact this
structure jas(W:World)(s bm:Nat)(room:Int)(L:List Nd5):Prop where
 st:Blk W s (.cells #[.int .i64 room,.map (some bm)] 116)
 mp:jcQ W bm L
theorem jas.ext{W W':World}{s bm:Nat}{room:Int}{L:List Nd5}(h:jas W s bm room L)(k:Ext W W'):jas W' s bm room L:=⟨h.st.keeps k (fun h=>h),h.mp.ext k⟩
theorem jh2(w:World)(s bm:Nat)(room:Int)(L:List Nd5)(k:ByteArray)(h:jas w s bm room L):Calls Tryz.prog 29 #[.pointer (some ⟨s,0,none⟩),.string k] w fun e w'=>e=.returned (optV ((atL L k.data.toList).map (·.2.2.text)))∧Ext w w':=by
 have q1:=h.st.cell (i:=1) (v:=.map (some bm)) (by rfl);have hlk:=h.mp.look k true;have HI:=Hd h.mp.items;simp only[if_true]at hlk;clear h;cases ha:atL L k.data.toList with
 | none =>
  rw[ha]at hlk;unfold ptrO at hlk;simp only[Option.isSome]at hlk;clear ha;go_enter Tryz.func29,Tryz.ntmps29;go_wp2_with fail
  go_ret2
  exact⟨rfl,ExtR w⟩
 | some x =>
  rw[ha]at hlk
  obtain⟨rv,hB,_⟩:=(HI.o x (jaD ha).1).cells
  have q2:=hB.cell (i:=0) (v:=.string x.2.2.text) (by rfl);unfold ptrO at hlk;simp only[Option.isSome]at hlk;clear ha hB;go_enter Tryz.func29,Tryz.ntmps29;go_wp2_with fail
  go_ret2
  exact⟨rfl,ExtR w⟩
def jku(o:Option Nd5):Int:=match o with | some x=>x.2.2.held | none=>0
def jmp(o:Option Nd5):Int:=match o with | some x=>x.2.2.used+x.2.2.held | none=>0
end
section
open Go Go.RowKit
attribute [local go_sem] Oper.semAt_some
theorem MapV.lenL{es:List EntK}{ck:Nat}{L:List Nd5}(h:MapV es ck (L.map kvN)):es.length=L.length:=by rw[h.len];simp
theorem jvp(w:World)(s bm:Nat)(room:Int)(L:List Nd5)(h:jas w s bm room L)(h0:0≤room)(h1:room≤9223372036854775807)(hl:L.length≤1000000):Calls Tryz.prog 74 #[.pointer (some ⟨s,0,none⟩)] w fun e w'=>e=.returned (.int .i64 (room - L.length))∧Ext w w':=by
 have Q1:=Hd (h.st.cell (i:=1) (v:=.map (some bm)) (by rfl));have Q0:=Hd (h.st.cell (i:=0) (v:=.int .i64 room) (by rfl))
 obtain⟨es,ck,hm,hmv⟩:=h.mp.mp
 have HM:=Hd hm
 obtain⟨n,hn⟩:∃ n,n=L.length:=⟨_,rfl⟩
 have hel:es.length=n:=by rw[hmv.lenL,hn]
 have HEL:=Hd hel;rw[←hn]at hl ⊢;clear h hm hmv hel hn;go_enter Tryz.func74,Tryz.ntmps74;go_wp2_with fail
 refine jan [0,1,2,3,4,5,6,7,8,9,10] Ext ExtR ExtT (by kernel_rfl) (by kernel_rfl) (by kernel_rfl) ?_
 (refine jag _ rfl (by kernel_rfl) rfl rfl (fun K hK=>?_);go_big_quiet_op;refine hK _ ?_;clear hK K)
 refine jce _ (.pointer (some ⟨s,0,none⟩)) rfl (by kernel_rfl) rfl (fun w1 _=>by kernel_rfl) ?_;simp only[Act.put,sA,sB,sC]
 (refine jag _ rfl (by kernel_rfl) rfl rfl (fun K hK=>?_);go_big_quiet_op;refine hK _ ?_;clear hK K)
 refine jal ⟨s,0,none⟩ _ rfl (by kernel_rfl) rfl rfl (fun w1 h1=>jab Tryz.underlying3 rfl (jaa Q0.o ((jak _).trans h1))) ?_;simp only[Act.put,sA,sB,sC]
 (refine jag _ rfl (by kernel_rfl) rfl rfl (fun K hK=>?_);go_big_quiet_op;refine hK _ ?_;clear hK K)
 refine jce _ (.pointer (some ⟨s,0,none⟩)) rfl (by kernel_rfl) rfl (fun w1 _=>by kernel_rfl) ?_;simp only[Act.put,sA,sB,sC]
 (refine jag _ rfl (by kernel_rfl) rfl rfl (fun K hK=>?_);go_big_quiet_op;refine hK _ ?_;clear hK K)
 refine jal ⟨s,1,none⟩ _ rfl (by kernel_rfl) rfl rfl (fun w1 h1=>jab Tryz.underlying109 rfl (jaa Q1.o ((jak _).trans h1))) ?_;simp only[Act.put,sA,sB,sC];refine jce _ (.int .i64 es.length) rfl (by kernel_rfl) rfl (fun w1 h1=>by
  have hx:=jhZ Tryz.ES Tryz.uMapIt (HM.o.keeps ((jak _).trans h1) (fun h=>h)) 3;simp[execOp,Act.eval,resolve,invoke,builtin,hx,Sem.run_bind,Result.andThen,Sem.run_pure]) ?_
 simp only[Act.put,sA,sB,sC];rw[HEL.o];iterate 2 (refine jag _ rfl (by kernel_rfl) rfl rfl (fun K hK=>?_);go_big_quiet_op;refine hK _ ?_;clear hK K)
 refine jaW (by kernel_rfl) (fun w3 he=>?_);have HE:=Hd ((jak _).trans he);clear he;go_wp2_with fail
 go_ret
 exact⟨rfl,HE.o⟩
theorem Tryz.makeMapIt(W:World):(Instr.makeMap 109 none).run Tryz.prog W=.ok (.map (some W.heap.size)) (W.alloc (.map #[] 0)):=by kernel_rfl
theorem jtL(w:World)(room:Int):Calls Tryz.prog 41 #[.int .i64 room] w fun e w'=>∃ s bm,e=.returned (.pointer (some ⟨s,0,none⟩))∧Ext w w'∧jas w' s bm (max room 0) []∧w.heap.size≤bm∧w.heap.size≤s∧s≠bm:=by
 have hmm:=Tryz.makeMapIt;go_enter Tryz.func41,Tryz.ntmps41;go_wp2_with fail
 go_ret
 refine⟨_,_,rfl,((ExtR w).alloc _).alloc _,⟨?_,⟨[],0,?_,MapV.nil 0⟩,by simp,fun x hx=>by cases hx⟩,Nat.le_refl _,Nat.le_succ _,by omega⟩
 ·exact (by simpa using Blk.new (w.alloc (.map #[] 0)) (.cells #[.int .i64 (max room 0),.map (some w.heap.size)] 116))
 ·exact (Blk.new w (.map #[] 0)).alloc _
def slN(v:Value):Nat:=match v with | .slice _ n _=>n | _=>0
end
section
open Go Go.RowKit
noncomputable def itOf(t:ByteArray):It:=⟨t,jaV (nodeOf t),0,0⟩
noncomputable def ky(t:ByteArray):Key:=(shaB t).data.toList
noncomputable def addG(m:List (Key × It))(t:ByteArray):List (Key × It):=if m.any (fun x=>decide (ky t=x.1))then m else m++[(ky t,itOf t)]
noncomputable def readG(L:List ByteArray):List (Key × It):=L.foldl addG []
def kvI(x:Nd5):Key × It:=(x.1,x.2.2)
theorem jg1{L:List Nd5}{k:Key}:atL L k=none↔∀ x∈L,k≠x.1:=by
 unfold atL;rw[List.find?_eq_none];simp
theorem jua{L:List Nd5}{k:Key}:(L.map kvI).any (fun x=>decide (k=x.1))=(atL L k).isSome:=by
 rw[List.any_map];unfold atL;rw[List.isSome_find?];rfl
theorem jhy(k:Key)(v:Value)(n:Nat):∀ es:List EntK,jaZ es k=none→jbz es k v n=es++[(k,v,n)]
 | [],_=>rfl
 | x :: r,h=>by
  rw[jkp]at h;unfold jbz
  by_cases hk:k=x.1
  ·rw[if_pos hk]at h;cases h
  ·rw[if_neg hk]at h ⊢
   rw[jhy k v n r h];rfl
theorem jcQ.put{W:World}{bm:Nat}{L:List Nd5}(h:jcQ W bm L)(k:ByteArray)(hk:atL L k.data.toList=none){b:Nat}{it:It}(hb:jeD W b it)(hn:∀ x∈L,x.2.1≠b) :
  ∃ o,(Instr.mapUpdate 109 (.map (some bm)) (.string k) (.pointer (some ⟨b,0,none⟩))).run Tryz.prog W=.ok () (W.putObj bm o)∧jcQ (W.putObj bm o) bm (L++[(k.data.toList,b,it)]):=by
 obtain⟨es,ck,h1,h2⟩:=h.mp
 have hg:jaZ es k.data.toList=none:=by rw[h2.get,jpT,hk];rfl
 have hmu:=jcu Tryz.ES Tryz.uMapIt h1 k.data.toList (.pointer (some ⟨b,0,none⟩));have hp:=h2.put k.data.toList (.pointer (some ⟨b,0,none⟩));rw[hg]at hmu hp;simp only[Option.isSome_none,Bool.false_eq_true,if_false]at hmu hp;have hK:jac (fun z=>z=bm) W (W.putObj bm (.map (Tryz.ES.arr (jbz es k.data.toList (.pointer (some ⟨b,0,none⟩)) ck)) (ck+1))):=jac.onePut W bm _;have hN:jgW W (fun z=>z=bm):=fun z cur fz e hz=>by
  have e:z=bm:=e;subst e
  have:=h1.uniq hz;cases this
 have hne:∀ {c:Nat} {i:It},jeD W c i→¬ c=bm:=fun hi e=>by
  obtain⟨_,hc,_⟩:=hi.cells
  subst e
  have:=h1.uniq hc;cases this
 refine⟨_,hmu,⟨_,_,h1.put_same _,?_⟩,?_,?_⟩
 ·have e:putV (L.map kvN) k.data.toList (.pointer (some ⟨b,0,none⟩))=(L++[(k.data.toList,b,it)]).map kvN:=by
   rw[List.map_append, ←h2.same, ←jqR,jhy _ _ ck _ hg,List.map_append];rfl
  rw[←e];exact hp
 ·rw[List.map_append,List.nodup_append]
  exact⟨h.blks,by simp,fun a ha c hc e=>by
   simp at hc;subst hc;subst e
   obtain⟨x,hx,e⟩:=List.mem_map.1 ha
   exact hn x hx e⟩
 ·intro x hx
  rcases List.mem_append.1 hx with hx | hx
  ·exact (h.items x hx).keeps hK (hne (h.items x hx)) hN
  ·simp only[List.mem_singleton]at hx
   subst hx;exact hb.keeps hK (hne hb) hN
structure ReS(w:World)(bg:Nat)(G:List Nd5)(T:List ByteArray)(W:World):Prop where
 ext:Ext w W
 at':jcQ W bg G
 is:G.map kvI=readG T
 new:w.heap.size≤bg
 news:∀ x∈G,w.heap.size≤x.2.1
theorem ReS.keeps{w:World}{bg:Nat}{G:List Nd5}{T:List ByteArray}{W W':World}(h:ReS w bg G T W)(e:Ext W W'):ReS w bg G T W':=⟨h.ext.trans e,h.at'.ext e,h.is,h.new,h.news⟩
theorem joj{L:List ByteArray}{i:Nat}{t:ByteArray}(h:L[i]?=some t):readG (L.take (i+1))=addG (readG (L.take i)) t:=by
 unfold readG;rw[List.take_add_one,h,List.foldl_append];rfl
end
section
open Go Go.RowKit
attribute [local go_sem] Oper.semAt_some
def frK(S:List Nd5)(M:List ByteArray):List ByteArray:=(jbf M).filter fun y=>(atL S y.data.toList).isNone
structure Meet(w0:World)(s:Nat)(S:List Nd5)(bg b:Nat)(M:List ByteArray)(W:World):Prop where
 ext:Ext w0 W
 lo:w0.heap.size≤b
 c3:Blk W b (.cells #[.pointer (some ⟨s,0,none⟩)] 24)
 c5:Blk W (b+1) (.cells #[.map (some bg)] 109)
 c9:Blk W (b+4) (.cells #[.map (some (b+3))] 101)
 tab:∃ es ck,Blk W (b+3) (.map (Tryz.ES.arr es) ck)∧∀ y:ByteArray,jaZ es y.data.toList=cntV (cntB M y)
 var:∃ v n,Blk W (b+2) (.cells #[v] 34)∧W.ownsRow 0 9 1 v n ((frK S M).map Value.string)∧n≤M.length∧∀ z,v.ownBlock=some z→b+5≤z
theorem Meet.keeps{w0:World}{s:Nat}{S:List Nd5}{bg b:Nat}{M:List ByteArray}{W W':World}(h:Meet w0 s S bg b M W)(e:Ext W W'):Meet w0 s S bg b M W':=by
 obtain⟨es,ck,h1,h2⟩:=h.tab
 obtain⟨v,n,h3,h4,h5,h6⟩:=h.var
 exact⟨h.ext.trans e,h.lo,h.c3.keeps e (fun g=>g),h.c5.keeps e (fun g=>g),h.c9.keeps e (fun g=>g),⟨es,ck,h1.keeps e (fun g=>g),h2⟩,v,n,h3.keeps e (fun g=>g),jbd h4 e,h5,h6⟩
theorem jmE(S:List Nd5)(M:List ByteArray)(x:ByteArray):frK S (M++[x])=if memB (jbf M) x=true then frK S M else if (atL S x.data.toList).isNone then frK S M++[x]else frK S M:=by
 unfold frK;rw[jfL];unfold addF;split
 ·rfl
 ·rw[List.filter_append]
  split
  ·rename_i h;rw[List.filter_cons_of_pos (by simpa using h)];rfl
  ·rename_i h;rw[List.filter_cons_of_neg (by simpa using h)];simp
theorem jpr(M:List ByteArray)(x y:ByteArray):cntB (M++[x]) y=cntB M y+(if x.data.toList=y.data.toList then 1 else 0):=by
 unfold cntB;rw[List.map_append,List.count_append,List.map_cons,List.map_nil,List.count_singleton]
 simp
end
end Go.Proofs.YtpaacnhboilkkaaGreatDoor
