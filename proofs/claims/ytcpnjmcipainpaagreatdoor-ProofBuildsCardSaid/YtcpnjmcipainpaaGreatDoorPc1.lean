/- Parts of the proof, one behind the other: Heap. Each is under no condition but those that it states. -/
import Derived.WalkKit
import Derived.RangeFuncWrites
import Derived.RangeFuncLeaves
import Derived.Lib.Hide
import Derived.TacticsIn
namespace Go.Proofs.YtcpnjmcipainpaaGreatDoor
set_option linter.unusedSimpArgs false
set_option linter.unusedVariables false
set_option maxRecDepth 100000
set_option maxHeartbeats 16000000
section
open Go Go.RowKit
abbrev BSet:=Nat→Prop
structure jag(F:BSet)(w w':World):Prop where
 os:w'.os=w.os
 tape:w'.tape=w.tape
 output:w'.output=w.output
 size:w.heap.size≤w'.heap.size
 block:∀ b,b < w.heap.size→¬ F b→w'.heap[b]?=w.heap[b]?
theorem jag.refl(F:BSet)(w:World):jag F w w:=⟨rfl,rfl,rfl,Nat.le_refl _,fun _ _ _=>rfl⟩
theorem jag.trans'{F G:BSet}{a b c:World}(h:jag F a b)(k:jag G b c)(hG:∀ x,x < a.heap.size→G x→F x):jag F a c:=
 ⟨k.os.trans h.os,k.tape.trans h.tape,k.output.trans h.output,Nat.le_trans h.size k.size,
  fun x hx hF=>(k.block x (Nat.lt_of_lt_of_le hx h.size) (fun g=>hF (hG x hx g))).trans (h.block x hx hF)⟩
theorem jag.trans{F:BSet}{a b c:World}(h:jag F a b)(k:jag F b c):jag F a c:=h.trans' k fun _ _ g=>g
theorem jag.mono{F G:BSet}{a b:World}(h:jag F a b)(hG:∀ x,x < a.heap.size→F x→G x):jag G a b:=
 (jag.refl G a).trans' h hG
theorem jag.alloc{F:BSet}{a b:World}(h:jag F a b)(o:Obj):jag F a (b.alloc o):=
 h.trans' (G:=fun _=>False) ⟨rfl,rfl,rfl,by simp,fun x hx _=>Below.heap_alloc _ _ _ hx⟩ (fun _ _ g=>g.elim)
theorem jag.drew{F:BSet}{a b:World}(h:jag F a b):jag F a b.drew:=⟨h.os,h.tape,h.output,h.size,h.block⟩
theorem jag.setCell{F:BSet}{a b:World}(h:jag F a b){p:Addr}(hp:F p.block∨a.heap.size≤p.block)(u:Value):jag F a (b.setCell p u):=
 h.trans' (G:=fun x=>x=p.block) ⟨rfl,rfl,rfl,by simp[World.setCell],fun x _ hx=>Below.heap_setCell _ _ _ _ hx⟩ (fun x hx g=>by
  subst g;rcases hp with hp | hp
  ·exact hp
  ·omega)
theorem jag.putObj{F:BSet}{a b:World}(h:jag F a b){r:Nat}(hp:F r∨a.heap.size≤r)(o:Obj):jag F a (b.putObj r o):=
 h.trans' (G:=fun x=>x=r) ⟨rfl,rfl,rfl,by simp,fun x _ hx=>World.putObj_heap_other hx⟩ (fun x hx g=>by
  subst g;rcases hp with hp | hp
  ·exact hp
  ·omega)
theorem jag.onePut(w:World)(r:Nat)(o:Obj):jag (fun b=>b=r) w (w.putObj r o):=(jag.refl (fun b=>b=r) w).putObj (r:=r) (.inl (Eq.refl r)) o
theorem jag.oneSet(w:World)(p:Addr)(u:Value):jag (fun b=>b=p.block) w (w.setCell p u):=(jag.refl (fun b=>b=p.block) w).setCell (p:=p) (.inl (Eq.refl p.block)) u
theorem jag.of_below{F:BSet}{a b:World}(h:Below a.heap.size a b):jag F a b:=
 ⟨h.os,h.tape,h.output,h.size,fun x hx _=>h.block x hx⟩
theorem jag.of_grown{F:BSet}{a b:World}{row:Option Nat}(h:a.grownBy b row)(hr:∀ r,row=some r→r < a.heap.size→F r):jag F a b:=
 ⟨h.os,h.tape,h.output,h.size,fun x hx hF=>h.block x hx (fun e=>hF (hr x e.symm hx))⟩
abbrev Ext(w w':World):Prop:=jag (fun _=>False) w w'
def Blk(w:World)(b:Nat)(o:Obj):Prop:=w.heap[b]?=some o
theorem Blk.lt{w:World}{b:Nat}{o:Obj}(h:Blk w b o):b < w.heap.size:=(Array.getElem?_eq_some_iff.1 h).1
theorem Blk.cell{w:World}{b i:Nat}{c:Array Value}{T:TypeId}{fz:Nat × Nat}{v:Value}(h:Blk w b (.cells c T fz))(hi:c[i]?=some v):w.cell? ⟨b,i,none⟩=some v:=by
 simp[World.cell?,show w.heap[b]?=_ from h,hi]
theorem Blk.frozen{w:World}{b i:Nat}{c:Array Value}{T:TypeId}(h:Blk w b (.cells c T (0,0))):w.frozen? ⟨b,i,none⟩=false:=by
 simp[World.frozen?,show w.heap[b]?=_ from h]
theorem Blk.new(w:World)(o:Obj):Blk (w.alloc o) w.heap.size o:=World.alloc_heap_new w o
theorem Blk.alloc{w:World}{b:Nat}{o:Obj}(h:Blk w b o)(o':Obj):Blk (w.alloc o') b o:=(Below.heap_alloc w o' b h.lt).trans h
theorem Blk.keeps{F:BSet}{w w':World}{b:Nat}{o:Obj}(h:Blk w b o)(k:jag F w w')(hF:¬ F b):Blk w' b o:=(k.block b h.lt hF).trans h
theorem Blk.set_other{w:World}{b:Nat}{o:Obj}(h:Blk w b o){p:Addr}(hp:b≠p.block)(u:Value):Blk (w.setCell p u) b o:=(Below.heap_setCell w p u b hp).trans h
theorem Blk.set_same{w:World}{b i:Nat}{c:Array Value}{T:TypeId}{fz:Nat × Nat}(h:Blk w b (.cells c T fz))(u:Value):Blk (w.setCell ⟨b,i,none⟩ u) b (.cells (c.setIfInBounds i u) T fz):=by
 simp only[Blk,World.setCell,Array.getElem?_modify];simp[show w.heap[b]?=_ from h]
theorem Blk.put_other{w:World}{b r:Nat}{o:Obj}(h:Blk w b o)(hr:b≠r)(o':Obj):Blk (w.putObj r o') b o:=(World.putObj_heap_other hr).trans h
theorem Blk.put_same{w:World}{b:Nat}{o:Obj}(h:Blk w b o)(o':Obj):Blk (w.putObj b o') b o':=World.putObj_heap_same h.lt
theorem Blk.uniq{w:World}{b:Nat}{o o':Obj}(h:Blk w b o)(h':Blk w b o'):o=o':=by
 have e:w.heap[b]?=some o:=h;rw[show w.heap[b]?=some o' from h']at e;simpa using e.symm
theorem Blk.setCells{b:Nat}{T:TypeId}{fz:Nat × Nat}:∀ (vs:List Value) (o:Nat) (w:World) (c:List Value),Blk w b (.cells c.toArray T fz)→o+vs.length≤c.length →
  Blk (w.setCells b o vs) b (.cells (c.take o++vs++c.drop (o+vs.length)).toArray T fz)
 | [],o,w,c,h,_=>by simpa [World.setCells]using h
 | v :: r,o,w,c,h,hl=>by
  simp only[List.length_cons]at hl;have h1:=h.set_same (i:=o) v;have h2:(c.toArray.setIfInBounds o v)=(c.set o v).toArray:=by simp
  rw[h2]at h1;have h3:=Blk.setCells r (o+1) _ _ h1 (by simp;omega);simp only[World.setCells];have e1:(c.set o v).take (o+1)=c.take o++[v]:=by
   rw[List.take_succ_eq_append_getElem (by simp;omega),List.take_set_of_le (Nat.le_refl o)]
   simp
  have e2:(c.set o v).drop (o+1+r.length)=c.drop (o+(v :: r).length):=by
   rw[List.drop_set_of_lt (by omega)]
   congr 1;simp;omega
  rw[e1,e2]at h3;simpa using h3
theorem jag.oneSetCells(b:Nat):∀ (vs:List Value) (o:Nat) (w:World),jag (fun x=>x=b) w (w.setCells b o vs)
 | [],_,w=>jag.refl _ w
 | v :: r,o,w=>(jag.oneSet w ⟨b,o,none⟩ v).trans (jag.oneSetCells b r (o+1) _)
theorem Blk.cellL{w:World}{b i:Nat}{c:List Value}{T:TypeId}{fz:Nat × Nat}{v:Value}(h:Blk w b (.cells c.toArray T fz))(hi:c[i]?=some v):w.cell? ⟨b,i,none⟩=some v:=
 h.cell (by simpa using hi)
theorem jbU{α β:Type}{f:α→β}:∀ {l:List α},(l.map f).Nodup→∀ {x y:α},x∈l→y∈l→f x=f y→x=y
 | [],_,_,_,hx,_,_=>by cases hx
 | z :: r,h,x,y,hx,hy,e=>by
  simp only[List.map_cons,List.nodup_cons]at h;rcases List.mem_cons.1 hx with hx1 | hx1
  ·rcases List.mem_cons.1 hy with hy1 | hy1
   ·rw[hx1,hy1]
   ·exact absurd (List.mem_map.2 ⟨y,hy1,by rw[←e,hx1]⟩) h.1
  ·rcases List.mem_cons.1 hy with hy1 | hy1
   ·exact absurd (List.mem_map.2 ⟨x,hx1,by rw[e,hy1]⟩) h.1
   ·exact jbU h.2 hx1 hy1 e
section maps
structure jbs(P:Program)(kt:TypeId)(K:Type)[DecidableEq K] where
 κ:K→Value
 desc:TypeDesc
 und:P.underlying kt=some desc
 same:∀ a b,Instr.sameNow desc (κ a) (κ b)=some (decide (a=b))
 check:∀ e a w,(Instr.checkKey e 10000 kt (κ a)).run P w=.ok () w
 bits:∀ a,Instr.sameBits 10000 (κ a) (κ a)=true
variable {P:Program} {kt:TypeId} {K:Type} [DecidableEq K]
abbrev Ent(K:Type):=K × Value × Nat
def jbs.mk1(E:jbs P kt K)(x:Ent K):MapEntry:={ key:=E.κ x.1,val:=x.2.1,born:=x.2.2 }
def jbs.arr(E:jbs P kt K)(l:List (Ent K)):Array MapEntry:=(l.map E.mk1).toArray
def jbh(l:List (Ent K))(k:K):Option Value:=(l.find? (fun x=>decide (k=x.1))).map (·.2.1)
def jbP(l:List (Ent K))(k:K)(v:Value)(n:Nat):List (Ent K):=
 match l with
 | []=>[(k,v,n)]
 | x :: r=>if k=x.1 then (k,v,x.2.2) :: r else x :: jbP r k v n
theorem jbs.findNow(E:jbs P kt K)(k:K):∀ (l:List (Ent K)) (i:Nat),
  Instr.findNow E.desc (E.κ k) (l.map E.mk1) i=some ((l.findIdx? (fun x=>decide (k=x.1))).bind fun j=>(l[j]?).map fun x=>(i+j,x.2.1))
 | [],i=>rfl
 | x :: r,i=>by
  simp only[List.map_cons,Instr.findNow,jbs.mk1,E.same,List.findIdx?_cons]
  by_cases h:k=x.1
  ·simp[h]
  ·simp only[h,decide_false,jbs.findNow E k r (i+1)]
   cases hj:r.findIdx? (fun x=>decide (k=x.1))with
   | none=>simp
   | some j=>simp[Nat.add_assoc,Nat.add_comm 1 j]
theorem jf9(E:jbs P kt K)(k:K)(l:List (Ent K))(w:World) :
  (Instr.findKey kt (E.κ k) (E.arr l).toList).run P w=.ok ((l.findIdx? (fun x=>decide (k=x.1))).bind fun j=>(l[j]?).map fun x=>(j,x.2.1)) w:=by
 simp[Instr.findKey,jbs.arr,Sem.run_bind,Result.andThen,run_underlying E.und,E.findNow k l 0]
theorem jg0(l:List (Ent K))(k:K):jbh l k=(l.findIdx? (fun x=>decide (k=x.1))).bind fun j=>(l[j]?).map (·.2.1):=by
 induction l with
 | nil=>rfl
 | cons x r ih =>
  simp only[jbh,List.find?_cons,List.findIdx?_cons]
  by_cases h:k=x.1
  ·simp[h]
  ·simp only[h,decide_false]
   simp only[jbh]at ih;rw[ih];cases r.findIdx? (fun x=>decide (k=x.1)) <;> simp
theorem jdh(E:jbs P kt K){t e:TypeId}(ht:P.underlying t=some (.map kt e)){w:World}{b:Nat}{l:List (Ent K)}{clock:Nat}
  (hb:Blk w b (.map (E.arr l) clock)) {z:Value} (hz:(zeroValue e).run P w=.ok z w) (k:K) (ok:Bool) :
  (Instr.lookup t (.map (some b)) (E.κ k) ok).run P w=.ok (if ok then .tuple #[(jbh l k).getD z,.bool (jbh l k).isSome]else (jbh l k).getD z) w:=by
 have hg:(getObj b).run P w=.ok (.map (E.arr l) clock) w:=by simp[getObj,Sem.run,show w.heap[b]?=_ from hb]
 have hf:=jf9 E k l w;simp only[Instr.lookup,Sem.run_bind,Result.andThen,run_underlying ht,hg,E.check,hf];rw[jg0];cases hj:l.findIdx? (fun x=>decide (k=x.1))with
 | none=>rw[hj]at hf;cases ok <;> simp[Sem.run_bind,Result.andThen,hz,hf]
 | some j =>
  obtain⟨hlt,_⟩:=List.findIdx?_eq_some_iff_getElem.1 hj
  rw[hj]at hf;cases ok <;> simp[Sem.run_bind,Result.andThen,hlt,hf]
theorem jbs.modify(E:jbs P kt K)(k:K)(v:Value)(n:Nat):∀ (l:List (Ent K)) (j:Nat),l.findIdx? (fun x=>decide (k=x.1))=some j →
  ((l.map E.mk1).toArray.modify j fun e=>{ e with key:=E.κ k,val:=v })=E.arr (jbP l k v n)
 | [],j,h=>by simp at h
 | x :: r,j,h=>by
  rw[List.findIdx?_cons]at h
  by_cases hk:k=x.1
  ·simp only[hk,decide_true,if_true,Option.some.injEq]at h
   subst h;simp[jbs.arr,jbP,hk,jbs.mk1,List.modify_toArray]
  ·simp only[hk,decide_false,Bool.false_eq_true,if_false,Option.map_eq_some_iff]at h
   obtain⟨i,hi,rfl⟩:=h
   have:=jbs.modify E k v n r i hi
   simp only[jbs.arr,List.modify_toArray]at this;simp only[jbs.arr,jbP,hk,if_false,List.map_cons,List.modify_toArray,List.modify_succ_cons];simpa using this
theorem jdv(E:jbs P kt K){t e:TypeId}(ht:P.underlying t=some (.map kt e)){w:World}{b:Nat}{l:List (Ent K)}{clock:Nat}
  (hb:Blk w b (.map (E.arr l) clock)) (k:K) (v:Value) :
  (Instr.mapUpdate t (.map (some b)) (E.κ k) v).run P w=.ok () (w.putObj b (.map (E.arr (jbP l k v clock)) (if (jbh l k).isSome then clock else clock+1))):=by
 have hg:(getObj b).run P w=.ok (.map (E.arr l) clock) w:=by simp[getObj,Sem.run,show w.heap[b]?=_ from hb]
 have hs:∀ o,(setObj b o).run P w=.ok () (w.putObj b o):=by intro o;simp[setObj,Sem.run,show w.heap[b]?=_ from hb,World.putObj]
 have hf:=jf9 E k l w;simp only[Instr.mapUpdate,Sem.run_bind,Result.andThen,run_underlying ht,hg,E.check,hf];rw[jg0];cases hj:l.findIdx? (fun x=>decide (k=x.1))with
 | none =>
  have hp:(E.arr l).push { key:=E.κ k,val:=v,born:=clock }=E.arr (jbP l k v clock):=by
   have:∀ l:List (Ent K),l.findIdx? (fun x=>decide (k=x.1))=none→jbP l k v clock=l++[(k,v,clock)]:=by
    intro l;induction l with
    | nil=>intro _;rfl
    | cons x r ih =>
     intro h;rw[List.findIdx?_cons]at h
     by_cases hk:k=x.1
     ·simp[hk]at h
     ·simp only[hk,decide_false,Bool.false_eq_true,if_false,Option.map_eq_none_iff]at h
      simp[jbP,hk,ih h]
   rw[this l hj];simp[jbs.arr,jbs.mk1]
  simp[hs,hp]
 | some j =>
  obtain⟨hlt,hpk,_⟩:=List.findIdx?_eq_some_iff_getElem.1 hj
  have hkk:k=l[j].1:=by simpa using hpk
  have hm:=jbs.modify E k v clock l j hj;have hkey:(((E.arr l)[j]?).map (·.key)).getD (E.κ k)=E.κ k:=by simp[jbs.arr,hlt,jbs.mk1, ←hkk]
  simp only[Option.bind_some,List.getElem?_eq_getElem hlt,Option.map_some,Option.isSome_some,if_true];simp only[Sem.run_bind,Result.andThen,hkey,Instr.keyThatStays,E.bits,if_true];simp only[jbs.arr]at hm hs ⊢;rw[←hm];simp[Sem.run,hs]
theorem jjM(E:jbs P kt K){t e:TypeId}(ht:P.underlying t=some (.map kt e)){w:World}{b:Nat}{l:List (Ent K)}{clock:Nat}(hb:Blk w b (.map (E.arr l) clock))(r:TypeId) :
  (Builtin.len_ #[t] r #[.map (some b)]).run P w=.ok (.int .i64 l.length) w:=by
 have hg:(getObj b).run P w=.ok (.map (E.arr l) clock) w:=by simp[getObj,Sem.run,show w.heap[b]?=_ from hb]
 simp[Builtin.len_,Sem.run_bind,Result.andThen,run_underlying ht,hg,jbs.arr,goInt]
end maps
theorem jmd{P:Program}{kt:TypeId}(h:P.underlying kt=some .string)(e:Bool)(a:ByteArray)(w:World)(n:Nat) :
  (Instr.checkKey e (n+1) kt (.string a)).run P w=.ok () w:=by
 simp[Instr.checkKey,Sem.run_bind,Result.andThen,run_underlying h]
theorem jdz(a b:ByteArray):(a == b)=decide (a=b):=by
 show ByteArray.beq a b=_;cases a;cases b;simp only[ByteArray.beq,ByteArray.mk.injEq];rw[Bool.eq_iff_iff];simp
theorem jn3(a:ByteArray)(n:Nat):Instr.sameBits n (.string a) (.string a)=true:=by
 cases n <;> simp[Instr.sameBits,jdz]
theorem joz(w:World)(T:TypeId)(news:List Value):∀ j u,news[j]?=some u→(w.alloc (.cells news.toArray T)).cell? ((⟨w.heap.size,0,none⟩:Addr).add j)=some u:=by
 intro j u hj;rw[Addr.add_lit,Nat.zero_add];exact (Blk.new w (.cells news.toArray T)).cellL hj
theorem jm2{v:Value}(h:v.oneCell'=true):v.cells=#[v]:=by
 cases v <;> first | rfl |(simp[Value.oneCell']at h)
theorem jja{P:Program}(a:Addr)(W:World)(v:Value):(storeCells a [v]).run P W=(store a v).run P W:=by
 have ha:a.add 0=a:=by unfold Addr.add;simp
 simp only[storeCells,Sem.run_bind,ha];cases (store a v).run P W <;> rfl
theorem ja1{w:World}{e:TypeId}{size:Nat}{v:Value}{n:Nat}{xs:List Value}{B:Nat}(h:w.ownsRow B e size v n xs):∃ a c,v=.slice a n c:=by
 obtain⟨_,⟨e,rfl⟩ |⟨g,c,_,e,_⟩⟩:=h
 ·exact⟨none,0,e⟩
 ·exact⟨_,c,e⟩
section append
variable {P:Program} (w:World)
theorem jc3{t ty e:TypeId}{i:TypeInfo}{z:Value}{size bytes:Nat}(ht:P.underlying t=some (.slice e))(hi:P.info? e=some i)(hz:i.zero=some z)
  (hsize:i.size=size) (hby:i.bytes=bytes) (hzs:z.cells.size=size) (hsz:0 < size)
  {v:Value} {n:Nat} {xs:List Value} (hown:w.ownsRow 0 e size v n xs)
  {a:Addr} {m c:Nat} {news:List Value} (hl:news.length=m * size) (hnews:∀ j u,news[j]?=some u→w.cell? (a.add j)=some u) (h1:∀ u∈news,u.oneCell'=true)
  (h63:n+m≤maxLen) (hbytes:(n+m) * bytes≤140737488355328) :
  ∃ v' w',(Builtin.append_ #[t,t] ty #[v,.slice (some a) m c]).run P w=.ok v' w'∧w'.ownsRow 0 e size v' (n+m) (xs++news)∧jag (fun b=>v.ownBlock=some b) w w' ∧
   (v'.ownBlock=v.ownBlock∨∀ b,v'.ownBlock=some b→w.heap.size≤b):=by
 have up:∀ {B:Nat} {w':World} {v':Value} {k:Nat} {ys:List Value},w'.ownsRow B e size v' k ys→w'.ownsRow 0 e size v' k ys:=by
  rintro B w' v' k ys ⟨h1,h2 |⟨g,cap,cur,h2,_,h3⟩⟩
  ·exact⟨h1,.inl h2⟩
  ·exact⟨h1,.inr ⟨g,cap,cur,h2,Nat.zero_le _,h3⟩⟩
 have lo:∀ {B:Nat} {w':World} {v':Value} {k:Nat} {ys:List Value},w'.ownsRow B e size v' k ys→∀ b,v'.ownBlock=some b→B≤b:=by
  intro B w' v' k ys h b hb;exact (World.ownsRow.lt h b hb).1
 have hown':=hown
 obtain⟨hxl,⟨rfl,rfl⟩ |⟨g,cap,cur,rfl,_,hg,hnc,hcm,hcs,hct⟩⟩:=hown
 ·obtain⟨v',w',hr,r1,r2,_⟩:=run_append_own (P:=P) w w.heap.size t ty e i z size bytes ht hi hz hsize hby hzs hsz (.slice none 0 0) 0 xs ⟨hxl,.inl ⟨rfl,rfl⟩⟩ a m c news hl hnews h1 h63 hbytes (Nat.le_refl _)
  exact⟨v',w',hr,up r1,jag.of_grown r2 (fun r e _=>e),.inr (lo r1)⟩
 ·by_cases hroom:n+m≤cap
  ·obtain⟨w',hr,r1,r2⟩:=run_append_fits (P:=P) w 0 t ty e i size ht hi hsize g n cap xs hown' a m c news hl hnews h1 hroom
   exact⟨_,w',hr,r1,jag.of_grown r2 (fun r e _=>e),.inl rfl⟩
  ·have holds:∀ j u,xs[j]?=some u→w.cell? ((⟨g,0,none⟩:Addr).add j)=some u:=World.ownsRow.cells hown' rfl
   obtain⟨v',w',hr,r1,r2⟩:=run_append_arg_grows (P:=P) w t ty e i z size bytes ht hi hz hsize hby hzs hsz ⟨g,0,none⟩ n cap xs hxl holds a m c news hl hnews (by omega) h63 hbytes
   exact⟨v',w',hr,up r1,jag.of_grown r2 (fun r e _=>by cases e),.inr (lo r1)⟩
theorem jck{ops:Array Oper}{rest:List Oper}{o:Oper}{a:Act}{Q:Exit→Act→World→Prop}(hgd:o.guard=none)(s x:Operand)(t:TypeId)
  (ho:o.op=.call { callee:=.builtin .append,args:=#[s,x],argTypes:=#[t,t] })
  (e:TypeId) (i:TypeInfo) (z:Value) (size bytes:Nat) (ht:P.underlying t=some (.slice e)) (hi:P.info? e=some i) (hz:i.zero=some z)
  (hsize:i.size=size) (hby:i.bytes=bytes) (hzs:z.cells.size=size) (hsz:0 < size)
  (v:Value) (n:Nat) (xs:List Value) (hs:a.eval s=v) (hown:w.ownsRow 0 e size v n xs)
  (ad:Addr) (m c:Nat) (news:List Value) (hx:a.eval x=.slice (some ad) m c) (hl:news.length=m * size) (hnews:∀ j u,news[j]?=some u→w.cell? (ad.add j)=some u) (h1:∀ u∈news,u.oneCell'=true)
  (h63:n+m≤maxLen) (hbytes:(n+m) * bytes≤140737488355328)
  (h:∀ v' w',w'.ownsRow 0 e size v' (n+m) (xs++news)→jag (fun b=>v.ownBlock=some b) w w'→(v'.ownBlock=v.ownBlock∨∀ b,v'.ownBlock=some b→w.heap.size≤b)→wpList P ops Q rest (a.put o.dst v') w'):wpList P ops Q (o :: rest) a w:=by
 refine wpList_plain hgd fun K hK'=>?_
 obtain⟨v',w',hrun,r1,r2,r3⟩:=jc3 (P:=P) w (t:=t) (ty:=o.type) ht hi hz hsize hby hzs hsz hown (c:=c) hl hnews h1 h63 hbytes
 unfold Oper.wp;simp[execOp,ho,resolve,invoke,builtin,hs,hx,hrun,Result.andThen];exact hK' _ _ (h v' w' r1 r2 r3)
theorem jb5{F:Fence}{nf:Nat}{ops:Array Oper}{rest:List Oper}{o:Oper}{a:Act}{Q:Exit→Act→World→Prop}(hgd:o.guard=none)(s x:Operand)(t:TypeId)
  (ho:o.op=.call { callee:=.builtin .append,args:=#[s,x],argTypes:=#[t,t] })
  (e:TypeId) (i:TypeInfo) (z:Value) (size bytes:Nat) (ht:P.underlying t=some (.slice e)) (hi:P.info? e=some i) (hz:i.zero=some z)
  (hsize:i.size=size) (hby:i.bytes=bytes) (hzs:z.cells.size=size) (hsz:0 < size)
  (v:Value) (n:Nat) (xs:List Value) (hs:a.eval s=v) (hown:w.ownsRow 0 e size v n xs)
  (ad:Addr) (m c:Nat) (news:List Value) (hx:a.eval x=.slice (some ad) m c) (hl:news.length=m * size) (hnews:∀ j u,news[j]?=some u→w.cell? (ad.add j)=some u) (h1:∀ u∈news,u.oneCell'=true)
  (h63:n+m≤maxLen) (hbytes:(n+m) * bytes≤140737488355328)
  (h:∀ v' w',w'.ownsRow 0 e size v' (n+m) (xs++news)→jag (fun b=>v.ownBlock=some b) w w'→(v'.ownBlock=v.ownBlock∨∀ b,v'.ownBlock=some b→w.heap.size≤b)→wpListIn F nf P ops Q rest (a.put o.dst v') w'):wpListIn F nf P ops Q (o :: rest) a w:=by
 refine wpListIn_plain hgd fun K hK'=>?_
 obtain⟨v',w',hrun,r1,r2,r3⟩:=jc3 (P:=P) w (t:=t) (ty:=o.type) ht hi hz hsize hby hzs hsz hown (c:=c) hl hnews h1 h63 hbytes
 have hsem:o.semAt F.round a.eval=execOp a.eval o:=by
  cases hr:F.round with
  | none=>rfl
  | some l=>exact Oper.semAt_some l _ o (by rw[ho];intro c hc;cases hc)
 unfold Oper.wpIn;rw[hsem]
 refine⟨fun f hf=>?_,?_⟩
 ·simp[Oper.about,ho,resolve,Target.leads]at hf
 ·simp[execOp,ho,resolve,invoke,builtin,hs,hx,hrun,Result.andThen,Oper.uponIn]
  exact hK' _ _ (h v' w' r1 r2 r3)
end append
def str(l:List UInt8):Value:=.string ⟨l.toArray⟩
theorem jl7(a b:List UInt8):((⟨a.toArray⟩:ByteArray) ==⟨b.toArray⟩)=decide (a=b):=by
 rw[jdz];simp
def jrz{P:Program}{kt:TypeId}(h:P.underlying kt=some .string):jbs P kt (List UInt8) where
 κ:=str
 desc:=.string
 und:=h
 same:=fun a b=>by simp only[Instr.sameNow,str,jl7]
 check:=fun e a w=>jmd h e _ w 9999
 bits:=fun a=>jn3 _ 10000
end
end Go.Proofs.YtcpnjmcipainpaaGreatDoor
