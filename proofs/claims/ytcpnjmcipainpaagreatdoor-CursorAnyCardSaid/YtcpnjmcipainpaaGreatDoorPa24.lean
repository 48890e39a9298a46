/- Parts of the proof, one behind the other: SortS, StoreB, StoreC, StoreD. Each is under no condition but those that it states. -/
import Derived.Test.YtcpnjmcipainpaaGreatDoorPa21
import Derived.Test.YtcpnjmcipainpaaGreatDoorPa23
import Derived.Test.YtcpnjmcipainpaaGreatDoorPa22
import Derived.Sort.OwnSorted
namespace Go.Proofs.YtcpnjmcipainpaaGreatDoor
set_option linter.unusedSimpArgs false
set_option linter.unusedVariables false
set_option maxRecDepth 100000
set_option maxHeartbeats 16000000
section
open Go Go.RowKit
attribute [local go_sem] Oper.semAt_some
theorem MapV.lenL{es:List EntK}{ck:Nat}{L:List Nd5}(h:MapV es ck (L.map kvN)):es.length=L.length:=by rw[h.len];simp
theorem jpS(w:World)(s bm:Nat)(room:Int)(L:List Nd5)(h:jat w s bm room L)(h0:0≤room)(h1:room≤9223372036854775807)(hl:L.length≤1000000):Calls Tryz.prog 84 #[.pointer (some ⟨s,0,none⟩)] w fun e w'=>e=.returned (.int .i64 (room - L.length))∧Ext w w':=by
 have Q1:=Hd (h.st.cell (i:=1) (v:=.map (some bm)) (by rfl));have Q0:=Hd (h.st.cell (i:=0) (v:=.int .i64 room) (by rfl))
 obtain⟨es,ck,hm,hmv⟩:=h.mp.mp
 have HM:=Hd hm
 obtain⟨n,hn⟩:∃ n,n=L.length:=⟨_,rfl⟩
 have hel:es.length=n:=by rw[hmv.lenL,hn]
 have HEL:=Hd hel;rw[←hn]at hl ⊢;clear h hm hmv hel hn;go_enter Tryz.func84,Tryz.ntmps84;go_wp2_with fail
 refine jas [0,1,2,3,4,5,6,7,8,9,10] Ext ExtR ExtT (by kernel_rfl) (by kernel_rfl) (by kernel_rfl) ?_
 (refine jai _ rfl (by kernel_rfl) rfl rfl (fun K hK=>?_);go_big_quiet_op;refine hK _ ?_;clear hK K)
 refine jdI _ (.pointer (some ⟨s,0,none⟩)) rfl (by kernel_rfl) rfl (fun w1 _=>by kernel_rfl) ?_;simp only[Act.put,sA,sB,sC]
 (refine jai _ rfl (by kernel_rfl) rfl rfl (fun K hK=>?_);go_big_quiet_op;refine hK _ ?_;clear hK K)
 refine jan ⟨s,0,none⟩ _ rfl (by kernel_rfl) rfl rfl (fun w1 h1=>jaa Tryz.underlying3 rfl (jab Q0.o ((jav _).trans h1))) ?_;simp only[Act.put,sA,sB,sC]
 (refine jai _ rfl (by kernel_rfl) rfl rfl (fun K hK=>?_);go_big_quiet_op;refine hK _ ?_;clear hK K)
 refine jdI _ (.pointer (some ⟨s,0,none⟩)) rfl (by kernel_rfl) rfl (fun w1 _=>by kernel_rfl) ?_;simp only[Act.put,sA,sB,sC]
 (refine jai _ rfl (by kernel_rfl) rfl rfl (fun K hK=>?_);go_big_quiet_op;refine hK _ ?_;clear hK K)
 refine jan ⟨s,1,none⟩ _ rfl (by kernel_rfl) rfl rfl (fun w1 h1=>jaa Tryz.underlying115 rfl (jab Q1.o ((jav _).trans h1))) ?_;simp only[Act.put,sA,sB,sC];refine jdI _ (.int .i64 es.length) rfl (by kernel_rfl) rfl (fun w1 h1=>by
  have hx:=jiN Tryz.ES Tryz.uMapIt (HM.o.keeps ((jav _).trans h1) (fun h=>h)) 3;simp[execOp,Act.eval,resolve,invoke,builtin,hx,Sem.run_bind,Result.andThen,Sem.run_pure]) ?_
 simp only[Act.put,sA,sB,sC];rw[HEL.o];iterate 2 (refine jai _ rfl (by kernel_rfl) rfl rfl (fun K hK=>?_);go_big_quiet_op;refine hK _ ?_;clear hK K)
 refine jaU (by kernel_rfl) (fun w3 he=>?_);have HE:=Hd ((jav _).trans he);clear he;go_wp2_with fail
 go_ret
 exact⟨rfl,HE.o⟩
theorem Tryz.makeMapIt(W:World):(Instr.makeMap 115 none).run Tryz.prog W=.ok (.map (some W.heap.size)) (W.alloc (.map #[] 0)):=by kernel_rfl
theorem jmy(w:World)(room:Int):Calls Tryz.prog 37 #[.int .i64 room] w fun e w'=>∃ s bm,e=.returned (.pointer (some ⟨s,0,none⟩))∧Ext w w'∧jat w' s bm (max room 0) []∧w.heap.size≤bm∧w.heap.size≤s∧s≠bm:=by
 have hmm:=Tryz.makeMapIt;go_enter Tryz.func37,Tryz.ntmps37;go_wp2_with fail
 go_ret
 refine⟨_,_,rfl,((ExtR w).alloc _).alloc _,⟨?_,⟨[],0,?_,MapV.nil 0⟩,by simp,fun x hx=>by cases hx⟩,Nat.le_refl _,Nat.le_succ _,by omega⟩
 ·exact (by simpa using Blk.new (w.alloc (.map #[] 0)) (.cells #[.int .i64 (max room 0),.map (some w.heap.size)] 123))
 ·exact (Blk.new w (.map #[] 0)).alloc _
def slN(v:Value):Nat:=match v with | .slice _ n _=>n | _=>0
end
section
open Go Go.RowKit
noncomputable def itOf(t:ByteArray):It:=⟨t,jaI (nodeOf t),0,0⟩
noncomputable def ky(t:ByteArray):Key:=(shaB t).data.toList
noncomputable def addG(m:List (Key × It))(t:ByteArray):List (Key × It):=if m.any (fun x=>decide (ky t=x.1))then m else m++[(ky t,itOf t)]
noncomputable def readG(L:List ByteArray):List (Key × It):=L.foldl addG []
def kvI(x:Nd5):Key × It:=(x.1,x.2.2)
theorem jgx{L:List Nd5}{k:Key}:atL L k=none↔∀ x∈L,k≠x.1:=by
 unfold atL;rw[List.find?_eq_none];simp
theorem jo5{L:List Nd5}{k:Key}:(L.map kvI).any (fun x=>decide (k=x.1))=(atL L k).isSome:=by
 rw[List.any_map];unfold atL;rw[List.isSome_find?];rfl
theorem jfj(k:Key)(v:Value)(n:Nat):∀ es:List EntK,jaZ es k=none→jbC es k v n=es++[(k,v,n)]
 | [],_=>rfl
 | x :: r,h=>by
  rw[jhG]at h;unfold jbC
  by_cases hk:k=x.1
  ·rw[if_pos hk]at h;cases h
  ·rw[if_neg hk]at h ⊢
   rw[jfj k v n r h];rfl
theorem jcm.put{W:World}{bm:Nat}{L:List Nd5}(h:jcm W bm L)(k:ByteArray)(hk:atL L k.data.toList=none){b:Nat}{it:It}(hb:jdg W b it)(hn:∀ x∈L,x.2.1≠b) :
  ∃ o,(Instr.mapUpdate 115 (.map (some bm)) (.string k) (.pointer (some ⟨b,0,none⟩))).run Tryz.prog W=.ok () (W.putObj bm o)∧jcm (W.putObj bm o) bm (L++[(k.data.toList,b,it)]):=by
 obtain⟨es,ck,h1,h2⟩:=h.mp
 have hg:jaZ es k.data.toList=none:=by rw[h2.get,jlG,hk];rfl
 have hmu:=jdc Tryz.ES Tryz.uMapIt h1 k.data.toList (.pointer (some ⟨b,0,none⟩));have hp:=h2.put k.data.toList (.pointer (some ⟨b,0,none⟩));rw[hg]at hmu hp;simp only[Option.isSome_none,Bool.false_eq_true,if_false]at hmu hp;have hK:jae (fun z=>z=bm) W (W.putObj bm (.map (Tryz.ES.arr (jbC es k.data.toList (.pointer (some ⟨b,0,none⟩)) ck)) (ck+1))):=jae.onePut W bm _;have hN:jfR W (fun z=>z=bm):=fun z cur fz e hz=>by
  have e:z=bm:=e;subst e
  have:=h1.uniq hz;cases this
 have hne:∀ {c:Nat} {i:It},jdg W c i→¬ c=bm:=fun hi e=>by
  obtain⟨_,hc,_⟩:=hi.cells
  subst e
  have:=h1.uniq hc;cases this
 refine⟨_,hmu,⟨_,_,h1.put_same _,?_⟩,?_,?_⟩
 ·have e:putV (L.map kvN) k.data.toList (.pointer (some ⟨b,0,none⟩))=(L++[(k.data.toList,b,it)]).map kvN:=by
   rw[List.map_append, ←h2.same, ←jme,jfj _ _ ck _ hg,List.map_append];rfl
  rw[←e];exact hp
 ·rw[List.map_append,List.nodup_append]
  exact⟨h.blks,by simp,fun a ha c hc e=>by
   simp at hc;subst hc;subst e
   obtain⟨x,hx,e⟩:=List.mem_map.1 ha
   exact hn x hx e⟩
 ·intro x hx
  rcases List.mem_append.1 hx with hx | hx
  ·exact (h.items x hx).keeps hK (hne (h.items x hx)) hN
  ·simp only[List.mem_singleton]at hx
   subst hx;exact hb.keeps hK (hne hb) hN
structure ReS(w:World)(bg:Nat)(G:List Nd5)(T:List ByteArray)(W:World):Prop where
 ext:Ext w W
 at':jcm W bg G
 is:G.map kvI=readG T
 new:w.heap.size≤bg
 news:∀ x∈G,w.heap.size≤x.2.1
theorem ReS.keeps{w:World}{bg:Nat}{G:List Nd5}{T:List ByteArray}{W W':World}(h:ReS w bg G T W)(e:Ext W W'):ReS w bg G T W':=⟨h.ext.trans e,h.at'.ext e,h.is,h.new,h.news⟩
theorem jkv{L:List ByteArray}{i:Nat}{t:ByteArray}(h:L[i]?=some t):readG (L.take (i+1))=addG (readG (L.take i)) t:=by
 unfold readG;rw[List.take_add_one,h,List.foldl_append];rfl
end
section
open Go Go.RowKit
attribute [local go_sem] Oper.semAt_some
def frK(S:List Nd5)(M:List ByteArray):List ByteArray:=(jaW M).filter fun y=>(atL S y.data.toList).isNone
structure Meet(w0:World)(s:Nat)(S:List Nd5)(bg b:Nat)(M:List ByteArray)(W:World):Prop where
 ext:Ext w0 W
 lo:w0.heap.size≤b
 c3:Blk W b (.cells #[.pointer (some ⟨s,0,none⟩)] 24)
 c5:Blk W (b+1) (.cells #[.map (some bg)] 115)
 c9:Blk W (b+4) (.cells #[.map (some (b+3))] 107)
 tab:∃ es ck,Blk W (b+3) (.map (Tryz.ES.arr es) ck)∧∀ y:ByteArray,jaZ es y.data.toList=cntV (cntB M y)
 var:∃ v n,Blk W (b+2) (.cells #[v] 34)∧W.ownsRow 0 9 1 v n ((frK S M).map Value.string)∧n≤M.length∧∀ z,v.ownBlock=some z→b+5≤z
theorem Meet.keeps{w0:World}{s:Nat}{S:List Nd5}{bg b:Nat}{M:List ByteArray}{W W':World}(h:Meet w0 s S bg b M W)(e:Ext W W'):Meet w0 s S bg b M W':=by
 obtain⟨es,ck,h1,h2⟩:=h.tab
 obtain⟨v,n,h3,h4,h5,h6⟩:=h.var
 exact⟨h.ext.trans e,h.lo,h.c3.keeps e (fun g=>g),h.c5.keeps e (fun g=>g),h.c9.keeps e (fun g=>g),⟨es,ck,h1.keeps e (fun g=>g),h2⟩,v,n,h3.keeps e (fun g=>g),ja7 h4 e,h5,h6⟩
theorem jja(S:List Nd5)(M:List ByteArray)(x:ByteArray):frK S (M++[x])=if memB (jaW M) x=true then frK S M else if (atL S x.data.toList).isNone then frK S M++[x]else frK S M:=by
 unfold frK;rw[jfp];unfold addF;split
 ·rfl
 ·rw[List.filter_append]
  split
  ·rename_i h;rw[List.filter_cons_of_pos (by simpa using h)];rfl
  ·rename_i h;rw[List.filter_cons_of_neg (by simpa using h)];simp
theorem jlm(M:List ByteArray)(x y:ByteArray):cntB (M++[x]) y=cntB M y+(if x.data.toList=y.data.toList then 1 else 0):=by
 unfold cntB;rw[List.map_append,List.count_append,List.map_cons,List.map_nil,List.count_singleton]
 simp
end
end Go.Proofs.YtcpnjmcipainpaaGreatDoor
