/- Parts of the proof, one behind the other: CurLe, EqlP, jrz, OnlyA, WayA, WayB, WayC, TrA, TrB, TrC, HoldB, TriA. Each is under no condition but those that it states. -/
import Derived.Test.YtpaacnhboilkkaaGreatDoorPh41
import Derived.Test.YtpaacnhboilkkaaGreatDoorPh38
import Derived.Test.YtpaacnhboilkkaaGreatDoorPh23
import Derived.Test.YtpaacnhboilkkaaGreatDoorPh29
import Derived.Test.YtpaacnhboilkkaaGreatDoorPh37
import Derived.Test.YtpaacnhboilkkaaGreatDoorPh26
import Derived.Test.YtpaacnhboilkkaaGreatDoorPh34
namespace Go.Proofs.YtpaacnhboilkkaaGreatDoor
set_option linter.unusedSimpArgs false
set_option linter.unusedVariables false
set_option maxRecDepth 100000
set_option maxHeartbeats 16000000
section
open Go Go.RowKit
attribute [local go_sem] Oper.semAt_some
def exN:List Pair:=[(⟨#[97]⟩,⟨#[49]⟩),(⟨#[98]⟩,⟨#[50]⟩),(⟨#[99]⟩,⟨#[51]⟩)]
theorem jwq:jaS exN=0:=by decide +kernel
theorem juz:fewB exN=true:=by decide +kernel
theorem juA:InjL (jcg exN):=by unfold InjL;decide +kernel
theorem jpK:jgE ⟨#[97,97]⟩ exN=[(⟨#[98]⟩,⟨#[50]⟩),(⟨#[99]⟩,⟨#[51]⟩)]:=by decide +kernel
theorem jpL:jgE ⟨#[97]⟩ exN=exN:=by decide +kernel
theorem jsj:jg0 ⟨#[98]⟩ exN=[(⟨#[97]⟩,⟨#[49]⟩),(⟨#[98]⟩,⟨#[50]⟩)]:=by decide +kernel
theorem jpM:jgE ⟨#[99]⟩ exN=[(⟨#[99]⟩,⟨#[51]⟩)]:=by decide +kernel
theorem ju5(w:World)(xs:List Pair)(T:TypeId):RdP (w.alloc (.cells (jdJ xs).toArray T)) (.slice (some ⟨w.heap.size,0,none⟩) xs.length xs.length) xs:=by
 refine .inr ⟨_,0,_,rfl,(Blk.new w _).lt,Nat.le_refl _,fun j x hx=>?_⟩
 obtain⟨h1,h2⟩:=jfb xs j x hx
 exact⟨by rw[Nat.zero_add];exact (Blk.new w _).cellL h1,by rw[Nat.zero_add];exact (Blk.new w _).cellL h2⟩
theorem jst(w:World)(hc:jch w)(he:ErrT w)(v:Value)(l:List Pair)(hv:RdP w v l)(hn:l.length≤9223372036854775807)(hs:joK l) :
  Calls Tryz.prog 16 #[v] w (jxd l w):=
 (jmP w hc he v l hv hn hs).mono fun e w' h=>by
  rcases h with h |⟨s,bm,S,h1,h⟩
  ·exact .inl h
  ·exact .inr ⟨s,bm,S,h1,h.ext,h.st,h.has,h.key,h.few,h.inj⟩
def W9P(w1:World)(e:Ending)(w2:World):Prop:=∃ g cap,e=.returned (.tuple #[.slice (some ⟨g,0,none⟩) 1 cap,.string ⟨#[99]⟩,.int .i64 0])∧Ext w1 w2∧w2.cell? ⟨g,0,none⟩=some (.string ⟨#[98]⟩)
def W9R(w1:World)(e:Ending)(w2:World):Prop:=∃ ad cap,e=.returned (.tuple #[.slice ad 2 cap,.bool false,.int .i64 0])∧Ext w1 w2
theorem jto(w:World)(hc:jch w)(he:ErrT w):Calls Tryz.prog 44 #[] w fun e w'=>e=.returned (.bool true)∧Ext w w':=by
 have HC:=Hd hc;have HEE:=Hd he;clear hc he;go_enter Tryz.func44,Tryz.ntmps44;go_wp2_with fail
 have hx0:Ext w (w.alloc (.cells #[.string ⟨#[97]⟩,.string ⟨#[49]⟩,.string ⟨#[98]⟩,.string ⟨#[50]⟩,.string ⟨#[99]⟩,.string ⟨#[51]⟩] 72)):=(ExtR w).alloc _;refine (jst _ (HC.o.ext hx0) (HEE.o.ext hx0) _ exN (ju5 w exN 72) (by decide) (fun p hp=>by
  have:∀ p∈exN,p.1.size≤9223372036854775807∧p.2.size≤9223372036854775807:=by decide
  exact this p hp)).mono ?_
 rintro e w1 (⟨_,_,hno⟩ |⟨s,bm,S,rfl,hE,hS,hM,hk,_,_⟩)
 ·exact absurd ⟨juz,jwq,juA⟩ hno
 have HE1:=Hd (hx0.trans hE);have HS1:=Hd hS;have HM:=Hd (And.intro hM hk)
 obtain⟨rt,hrt⟩:∃ rt,rt=shaB (jaT exN).text:=⟨_,rfl⟩
 have HRT:=Hd hrt;rw[←hrt];clear hE hS hM hk hx0 hrt;go_wp2_with fail
 have hpg:Calls Tryz.prog 47 #[.pointer (some ⟨s,0,none⟩),.string rt,.string ⟨#[97,97]⟩,.int .i64 1] w1 (W9P w1):=by
  have hpg:=jwQ w1 s bm 2000 S ⟨#[97,97]⟩ exN 1 (by decide) HM.o.1 HS1.o;rw[jpK, ←HRT.o]at hpg;refine hpg.mono ?_;rintro e w2 ⟨hE,hpp⟩;rw[if_pos (by decide)]at hpp
  obtain⟨lv,h1,hR⟩:=hpp
  obtain⟨h2,⟨h3,h4⟩ |⟨g,cap,cur,h3,_⟩⟩:=hR.own
  ·cases h4
  ·refine⟨g,cap,?_,hE,?_⟩
   ·rw[h1,h3];rfl
   ·have:=hR.own.cells (g:=g) (by rw[h3];rfl) 0 (.string ⟨#[98]⟩) (by rfl)
    rwa [Addr.add_lit,Nat.zero_add]at this
 refine hpg.mono ?_;rintro e w2 ⟨g,cap,rfl,hE,qb⟩;have HE2:=Hd (HE1.o.trans hE);have HS2:=Hd (HS1.o.ext hE);have QB:=Hd qb;clear hE qb HE1 HS1 hpg;go_wp2_with fail
 have hrg:Calls Tryz.prog 48 #[.pointer (some ⟨s,0,none⟩),.string rt,.string ⟨#[97]⟩,.string ⟨#[98]⟩,.int .i64 8] w2 (W9R w2):=by
  have hrg:=ju4 w2 s bm 2000 S ⟨#[97]⟩ ⟨#[98]⟩ exN 8 (by decide) HM.o.1 HS2.o;rw[jpL, ←HRT.o]at hrg;refine hrg.mono ?_;rintro e w3 ⟨hE,hpp⟩;rw[if_pos (by decide),jsj]at hpp
  obtain⟨lv,h1,hR⟩:=hpp
  obtain⟨ad,cp,h3⟩:=jay hR.own
  exact⟨ad,cp,by rw[h1,h3];rfl,hE⟩
 refine hrg.mono ?_;rintro e w3 ⟨ad,cp,rfl,hE⟩;have HE3:=Hd (HE2.o.trans hE);have HS3:=Hd (HS2.o.ext hE);have QB3:=Hd (jaa QB.o hE);clear hE hrg HE2 HS2 QB;go_wp2_with fail
 have hct:=juq w3 s bm 2000 S exN HM.o.1 HS3.o;rw[←HRT.o]at hct;refine hct.mono ?_;rintro e w4 ⟨rfl,hE⟩;have HE4:=Hd (HE3.o.trans hE);have HS4:=Hd (HS3.o.ext hE);have QB4:=Hd (jaa QB3.o hE);clear hE hct HE3 HS3 QB3;rw[show ((exN.length:Nat):Int)=3 from rfl];go_wp2_with fail
 have hsk:=jh1 w4 s bm 2000 S ⟨#[99]⟩ exN (by decide) HM.o.1 HS4.o;rw[←HRT.o]at hsk;refine hsk.mono ?_;rintro e w5 ⟨c,v,rfl,hc1,hv1,hE,hC⟩;rw[jeh,jpM]at hC;have HE5:=Hd (HE4.o.trans hE);have HS5:=Hd (HS4.o.ext hE);have QB5:=Hd (jaa QB4.o hE);have HC5:=Hd hC;have HCC:=Hd (And.intro hc1 hv1);have HZ4:=Hd (And.intro HE4.o.size (World.block_lt_of_cell? w4 _ QB4.o));clear hE hsk HE4 HS4 QB4 hC hc1 hv1;go_wp2_with fail
 have hno:atL S (⟨#[63]⟩:ByteArray).data.toList=none:=by
  cases ha:atL S (⟨#[63]⟩:ByteArray).data.toList with
  | none=>rfl
  | some y =>
   obtain⟨t,_,ht⟩:=(HM.o.2 _).1 (jdM.1 (show (atL S (⟨#[63]⟩:ByteArray).data.toList).isSome=true by rw[ha];rfl))
   have h1:=congrArg List.length ht;have h2:(ky t).length=32:=jb3 t;rw[h2]at h1;cases h1
 refine (jvl w5 s bm 2000 S ⟨#[63]⟩ ⟨#[]⟩ HS5.o hno).mono ?_;rintro e w6 ⟨rfl,hE⟩;have HE6:=Hd (HE5.o.trans hE);have HS6:=Hd (HS5.o.ext hE);have QB6:=Hd (jaa QB5.o hE);have HC6:=Hd (HC5.o.ext hE);clear hE hno HE5 HS5 QB5 HC5;go_wp2_with fail
 refine (jpm w6 c s bm 2000 S (jbc ⟨#[99]⟩) _ v (by rw[jb9];decide) HC6.o HS6.o).mono ?_;rintro e w7 ⟨rfl,v7,hT⟩;rw[jiE,show ju2 [((⟨#[99]⟩:ByteArray),(⟨#[51]⟩:ByteArray))]=.tuple #[.string ⟨#[99]⟩,.bool true]from rfl];have HS7:=Hd (HC6.o.store HS6.o hT.kp.1);have HT7:=Hd hT;clear hT HS6;go_wp2_with fail
 refine (jgu w7 c s bm 2000 S (jbc ⟨#[99]⟩) _ v7 (by rw[jb9];decide) HT7.o.at' HS7.o).mono ?_;rintro e w8 ⟨rfl,v8,hT⟩;rw[jdE,show jjk [((⟨#[99]⟩:ByteArray),(⟨#[51]⟩:ByteArray))]=.tuple #[.agg #[.string ⟨#[99]⟩,.string ⟨#[51]⟩],.bool true]from rfl];have HS8:=Hd (HT7.o.at'.store HS7.o hT.kp.1);have HT8:=Hd (HT7.o.trans hT);clear hT HS7;go_wp2_with fail
 have hx8:Ext w8 (w8.alloc (.cells #[.string ⟨#[99]⟩,.string ⟨#[51]⟩] 72)):=(ExtR w8).alloc _;have hB8:=Blk.new w8 (.cells #[.string ⟨#[99]⟩,.string ⟨#[51]⟩] 72);have hat8:jc3 S c s (jbc ⟨#[99]⟩) (jaP []) w8 v8:=HT8.o.at';refine (jgu _ c s bm 2000 S (jbc ⟨#[99]⟩) (jaP []) v8 (by rw[jb9];decide) (hat8.ext hx8) (HS8.o.ext hx8)).mono ?_;rintro e w9 ⟨rfl,v9,hT⟩;rw[jdE,show jjk ([]:List Pair)=.tuple #[.agg #[.string ⟨#[]⟩,.string ⟨#[]⟩],.bool false]from rfl];have hcl8:=HT8.o.at'.lt;have hb9:=hB8.keeps hT.kp.1 (fun e=>by
  rcases e with e | e
  ·have:=hcl8.1;omega
  ·have:=hcl8.2 _ e;omega)
 have hall:=(HT8.o.trans (jdw.ahead hx8 hT)).kp;have hz4:=HZ4.o;have hg4:g < w4.heap.size:=hz4.2;have qg9:=jat QB6.o hall.1 (fun e=>by
  rcases e with e | e
  ·have e:g=c:=e;have:=HCC.o.1;omega
  ·have:=HCC.o.2 g e;omega)
 have hE9:Ext w w9:=HE6.o.trans' hall.1 (fun b hb e=>by
  rcases e with e | e
  ·have:=HCC.o.1;omega
  ·have:=HCC.o.2 _ e;omega)
 have qx9:=hb9.cell (i:=1) (v:=.string ⟨#[51]⟩) (by rfl);have hX:Ext w9 (w9.alloc (.cells #[.string ⟨#[]⟩,.string ⟨#[]⟩] 72)):=(ExtR w9).alloc _;have qg10:=jaa qg9 hX;have qx10:=jaa qx9 hX;have HE9:=Hd (hE9.trans hX);clear hx8 hB8 hT hcl8 hb9 hall hz4 hE9 hX;go_wp2_with fail
 go_ret
 exact⟨rfl,HE9.o⟩
theorem jcO{P:Program}{w:World}{ops:Array Oper}{rest:List Oper}{o:Oper}{a:Act}{Q:Exit→Act→World→Prop}{b:BinOp}{T T':TypeId}(x y:Operand)(ho:o.op=.binOp b T x y T')(hw:Region.wanted o (yielded ops a.tmps)=true)(vx vy v:Value)(hx:a.eval x=vx)(hy:a.eval y=vy)
  (hg:(eqGuard b T x y vx vy).run P w=.ok () w) (hr:(binOp b T vx vy).run P w=.ok v w) (h:wpList P ops Q rest (a.put o.dst v) w):wpList P ops Q (o :: rest) a w:=by
 unfold wpList;rw[if_pos hw];refine .inl (jcH (v:=v) (w':=w) ?_ h);simp only[execOp,ho,hx,hy,Sem.run_bind,hg,hr,Result.andThen,Sem.run_pure]
end
section
open Go Go.RowKit
def jrz(l:List Pair):Prop:=l.Pairwise fun p q=>Lt p.k q.k
theorem jkD{k:List UInt8}:∀ {m:List Pair},k ∉ m.map Pair.k→look m k=none
 | [],_=>rfl
 | q :: r,h=>by
  simp only[List.map_cons,List.mem_cons,not_or]at h;rw[jd9,if_neg h.1,jkD h.2]
theorem jmW:∀ (a b:List UInt8),Lt a b∨a=b∨Lt b a
 | [],[]=>.inr (.inl rfl)
 | [],_ :: _=>.inl jiA
 | _ :: _,[]=>.inr (.inr jiA)
 | a :: x,b :: y=>by
  rcases Nat.lt_trichotomy a.toNat b.toNat with h | h | h
  ·exact .inl (jbg.2 (.inl (UInt8.lt_iff_toNat_lt.2 h)))
  ·have e:=UInt8.toNat_inj.1 h
   subst e;rcases jmW x y with h | h | h
   ·exact .inl (jbg.2 (.inr ⟨rfl,h⟩))
   ·exact .inr (.inl (by rw[h]))
   ·exact .inr (.inr (jbg.2 (.inr ⟨rfl,h⟩)))
  ·exact .inr (.inr (jbg.2 (.inl (UInt8.lt_iff_toNat_lt.2 h))))
theorem jm2{p q:Pair}(h1:p.k=q.k)(h2:p.2=q.2):p=q:=by
 obtain⟨⟨⟨a⟩⟩,b⟩:=p
 obtain⟨⟨⟨c⟩⟩,d⟩:=q
 simp only[Pair.k]at h1 h2;subst h1;subst h2;rfl
theorem jm5:∀ {a b:List UInt8},jc1 a=jc1 b→a=b
 | [],[],_=>rfl
 | [],y :: b,h=>by simp[jc1]at h
 | x :: a,[],h=>by simp[jc1]at h
 | x :: a,y :: b,h=>by
  have h:(x >>> 4) ::(x &&& 15) :: jc1 a=(y >>> 4) ::(y &&& 15) :: jc1 b:=h;injection h with h1 h;injection h with h2 h;have a1:=congrArg UInt8.toNat h1;have a2:=congrArg UInt8.toNat h2;rw[jkH,jkH]at a1;rw[jkI,jkI]at a2;rw[jm5 h,show x=y from UInt8.toNat_inj.1 (by omega)]
def jl6(n:jaf)(p:ByteArray):ByteArray × ByteArray:=
 if n.kind=3 then match p.data.toList with
  | []=>(⟨#[]⟩,p)
  | x :: _=>if (n.refs.getD x.toNat ⟨#[]⟩).size=0 then (⟨#[]⟩,p)else (n.refs.getD x.toNat ⟨#[]⟩,p.extract 1 p.size)
 else if n.kind=2 then if preB n.path p then (n.refs.getD 0 ⟨#[]⟩,p.extract n.path.size p.size)else (⟨#[]⟩,p)
 else (⟨#[]⟩,p)
def jio(n:jaf)(p:ByteArray):Option ByteArray:=
 if n.kind=1 then if n.path=p then some n.value else none
 else if n.kind=3 then if p.size=0∧n.value.size≠0 then some n.value else none
 else none
def valL:List Pair→ByteArray→Option ByteArray
 | [],_=>none
 | q :: l,p=>if q.1=p then some q.2 else valL l p
def goL(l:List Pair)(p:ByteArray):Option (List Pair × ByteArray):=
 if l.length≤1 then none
 else if 0 < comK l then if preB ((l.getD 0 pd).1.extract 0 (comK l)) p then some (jam (comK l) l,p.extract (comK l) p.size)else none
 else match p.data.toList with
  | []=>none
  | x :: _=>if (cutL x.toNat l).length=0 then none else some (jam 1 (cutL x.toNat l),p.extract 1 p.size)
def bigs(t:ByteArray):List ByteArray:=if t.size < 32 then []else [t]
def sumL:List Pair→Nat
 | []=>0
 | q :: l=>q.1.size+sumL l
theorem jjE:∀ {l:List Pair} {p v:ByteArray},valL l p=some v→(p,v)∈l
 | q :: l,p,v,h=>by
  unfold valL at h;split at h
  ·rename_i e
   obtain rfl:=Option.some.inj h;subst e;exact List.mem_cons_self
  ·exact List.mem_cons_of_mem _ (jjE h)
theorem jnr:∀ {l:List Pair} {p v:ByteArray},(l.Pairwise fun p q=>Lt p.l q.l)→(p,v)∈l→valL l p=some v
 | q :: l,p,v,hl,h=>by
  rw[List.pairwise_cons]at hl;unfold valL;rcases List.mem_cons.1 h with h | h
  ·subst h;rw[if_pos rfl]
  ·rw[if_neg (fun e=>by have:=hl.1 _ h;rw[show q.l=p.data.toList from congrArg (fun x:ByteArray=>x.data.toList) e]at this;exact lt_irrefl _ this),jnr hl.2 h]
theorem jgk{l:List Pair}{p:ByteArray}(h:∀ q∈l,q.1≠p):valL l p=none:=by
 cases hv:valL l p with
 | none=>rfl
 | some v=>exact absurd rfl (h _ (jjE hv))
theorem jns{l m:List Pair}{p q:ByteArray}(hl:l.Pairwise fun p q=>Lt p.l q.l)(hm:m.Pairwise fun p q=>Lt p.l q.l)(h:∀ v,(p,v)∈l↔(q,v)∈m):valL l p=valL m q:=by
 cases hv:valL l p with
 | some v=>exact (jnr hm ((h v).1 (jjE hv))).symm
 | none =>
  cases hw:valL m q with
  | none=>rfl
  | some v=>rw[jnr hl ((h v).2 (jjE hw))]at hv;cases hv
theorem jlW(a p:ByteArray):preB a p=true↔∃ r,p.data.toList=a.data.toList++r:=by
 unfold preB;rw[List.isPrefixOf_iff_prefix]
 exact⟨fun ⟨r,h⟩=>⟨r,h.symm⟩,fun ⟨r,h⟩=>⟨r,h.symm⟩⟩
theorem jdL(b:ByteArray)(k:Nat):(b.extract k b.size).data.toList=b.data.toList.drop k:=jc7 b k b.size (Nat.le_refl _)
theorem jaR(b:ByteArray):b.data.toList.length=b.size:=rfl
theorem jnj(k:Nat):∀ l:List Pair,sumL (jam k l)≤sumL l
 | []=>Nat.le_refl _
 | q :: l=>by
  have:=jnj k l
  show (q.1.extract k q.1.size).size+sumL (jam k l)≤q.1.size+sumL l;rw[ja0];omega
theorem jh3{k:Nat}(hk:0 < k):∀ {l:List Pair},l≠[]→(∀ q∈l,k≤q.1.size)→sumL (jam k l) < sumL l
 | q :: l,_,h=>by
  have:=jnj k l
  have:=h q List.mem_cons_self
  show (q.1.extract k q.1.size).size+sumL (jam k l) < q.1.size+sumL l;rw[ja0];omega
theorem jiP(g:Pair→Bool):∀ l:List Pair,sumL (l.filter g)≤sumL l
 | []=>Nat.le_refl _
 | q :: l=>by
  have:=jiP g l
  rw[List.filter_cons];show _≤q.1.size+sumL l;split
  ·show q.1.size+sumL _≤_;omega
  ·omega
structure KidP(f:Nat)(l:List Pair)(p:ByteArray)(m:List Pair)(q:ByteArray):Prop where
 rows:jaQ f m
 ne:m≠[]
 step:jl6 (jau (jad (f+1)) l) p=(refB (jad (f+1) m).text,q)
 less:q.size < p.size
 valid:jaL q=true
 flat:∀ x∈jaI (jad (f+1) m),32≤x.size→x∈jaI (jad (f+1+1) l)
 find:valL m q=valL l p
 sum:sumL m < sumL l
 no:jio (jau (jad (f+1)) l) p=none
theorem jdU{l:List Pair}(h:0 < l.length):l.getD 0 pd∈l:=by rw[List.getD_eq_getElem?_getD,List.getElem?_eq_getElem h];exact List.getElem_mem _
theorem jhL{l:List Pair}:((l.getD 0 pd).1.extract 0 (comK l)).data.toList=(l.getD 0 pd).l.take (comK l):=by
 rw[ByteArray.data_extract,Array.toList_extract,List.extract_eq_take_drop];simp
theorem jdO{f:Nat}{l:List Pair}(h:jaQ f l)(h2:2≤l.length):((l.getD 0 pd).1.extract 0 (comK l)).size=comK l:=by
 have:=(jbY h h2 _ (jdU (by omega))).2
 rw[ByteArray.size_extract];omega
theorem jpV{f:Nat}{l:List Pair}{p:ByteArray}{m:List Pair}{q:ByteArray}(h:jaQ (f+1) l)(hp:jaL p=true)(hg:goL l p=some (m,q)):KidP f l p m q:=by
 unfold goL at hg
 by_cases h1:l.length≤1
 ·rw[if_pos h1]at hg;cases hg
 rw[if_neg h1]at hg;have h2:2≤l.length:=by omega
 have hcom:=jbY h h2
 by_cases hk:0 < comK l
 ·rw[if_pos hk]at hg
  by_cases hpre:preB ((l.getD 0 pd).1.extract 0 (comK l)) p=true
  case neg=>rw[if_neg hpre]at hg;cases hg
  rw[if_pos hpre]at hg
  obtain⟨rfl,rfl⟩:=Prod.mk.inj (Option.some.inj hg)
  have hok:jaQ f (jam (comK l) l):=(jcF (comK l) h (fun p hp q hq=>(hcom p hp).1.trans (hcom q hq).1.symm) (fun p hp=>(hcom p hp).2)).mono (by omega);have hne:jam (comK l) l≠[]:=fun e=>by have:=jaE (comK l) l;rw[e]at this;simp at this;omega
  have eB:jaw (jad (f+1)) l=jbZ (jad (f+1) (jam (comK l) l)):=by unfold jaw;rw[if_neg (by omega),if_pos hk]
  have eN:jau (jad (f+1)) l=⟨2,(l.getD 0 pd).1.extract 0 (comK l),⟨#[]⟩,refB (jad (f+1) (jam (comK l) l)).text :: jax 15⟩:=by unfold jau;rw[if_neg (by omega),if_neg (by omega),if_pos hk]
  obtain⟨r,hr⟩:=(jlW _ _).1 hpre
  have hps:comK l≤p.size:=by
   rw[←jaR p,hr,List.length_append,jaR,jdO h h2];omega
  refine⟨hok,hne,?_,by rw[ja0];omega,jbr hp _ _,jg5 hne hok (by rw[eB];exact fun _ hh=>hh),?_,jh3 hk (fun e=>by rw[e]at h2;simp at h2) (fun q hq=>(hcom q hq).2),by rw[eN];rfl⟩
  ·rw[eN]
   unfold jl6;rw[if_neg (show ¬(2:Nat)=3 by decide),if_pos rfl,if_pos hpre];show (_,p.extract ((l.getD 0 pd).1.extract 0 (comK l)).size p.size)=_;rw[jdO h h2];rfl
  ·refine jns hok.rise h.rise fun v=>⟨fun hm=>?_,fun hm=>?_⟩
   ·obtain⟨x,hx,e⟩:=List.mem_map.1 hm
    obtain⟨e1,e2⟩:=Prod.mk.inj e
    have:x=(p,v):=by
     refine Prod.ext (jcK ?_) e2;have e3:x.1.data.toList.drop (comK l)=p.data.toList.drop (comK l):=by rw[←jdL,e1,jdL]
     have e4:x.1.data.toList.take (comK l)=p.data.toList.take (comK l):=by
      rw[show x.1.data.toList=x.l from rfl,(hcom x hx).1, ←jhL,hr,List.take_append_of_le_length (by rw[jaR,jdO h h2];exact Nat.le_refl _),List.take_of_length_le (by rw[jaR,jdO h h2];exact Nat.le_refl _)]
     show x.1.data.toList=p.data.toList;rw[←List.take_append_drop (comK l) x.1.data.toList,e3,e4,List.take_append_drop]
    rw[←this];exact hx
   ·exact List.mem_map.2 ⟨_,hm,rfl⟩
 ·rw[if_neg hk]at hg
  cases hpl:p.data.toList with
  | nil=>rw[hpl]at hg;cases hg
  | cons x r =>
   rw[hpl]at hg
   by_cases hc:(cutL x.toNat l).length=0
   ·have hg:(if (cutL x.toNat l).length=0 then none else some (jam 1 (cutL x.toNat l),p.extract 1 p.size))=some (m,q):=hg
    rw[if_pos hc]at hg;cases hg
   have hg:(if (cutL x.toNat l).length=0 then none else some (jam 1 (cutL x.toNat l),p.extract 1 p.size))=some (m,q):=hg;rw[if_neg hc]at hg
   obtain⟨rfl,rfl⟩:=Prod.mk.inj (Option.some.inj hg)
   have hok:jaQ f (jam 1 (cutL x.toNat l)):=jei x.toNat h;have hne:jam 1 (cutL x.toNat l)≠[]:=fun e=>by have:=jaE 1 (cutL x.toNat l);rw[e]at this;simp at this;exact hc this.symm
   have hx:x.toNat < 16:=jeW (p:=(p,p)) hp hpl;have eB:jaw (jad (f+1)) l=(List.range 16).flatMap fun i=>if (cutL i l).length=0 then []else jbZ (jad (f+1) (jam 1 (cutL i l))):=by unfold jaw;rw[if_neg (by omega),if_neg hk]
   obtain⟨rs,hrs⟩:∃ rs,rs=(List.range 16).map fun i=>if (cutL i l).length=0 then (⟨#[]⟩:ByteArray)else refB (jad (f+1) (jam 1 (cutL i l))).text:=⟨_,rfl⟩
   obtain⟨va,hva⟩:∃ va,va=if (l.getD 0 pd).1.size=0 then (l.getD 0 pd).2 else ⟨#[]⟩:=⟨_,rfl⟩
   have eN:jau (jad (f+1)) l=⟨3,⟨#[]⟩,va,rs⟩:=by rw[hrs,hva];unfold jau;rw[if_neg (by omega),if_neg (by omega),if_neg hk]
   have hget:rs.getD x.toNat ⟨#[]⟩=refB (jad (f+1) (jam 1 (cutL x.toNat l))).text:=by rw[hrs,jfh _ hx,if_neg hc]
   clear hrs hva;have hps:1≤p.size:=by rw[←jaR p,hpl];simp
   have hall:∀ q∈cutL x.toNat l,1≤q.1.size:=fun q hq=>by
    obtain⟨_,a,r,e,_⟩:=jbH hq
    rw[←jaR,show q.1.data.toList=a :: r from e];simp
   have hsum:sumL (jam 1 (cutL x.toNat l)) < sumL l:=Nat.lt_of_lt_of_le (jh3 (Nat.zero_lt_one) (fun e=>hc (by rw[e];rfl)) hall) (jiP _ _)
   refine⟨hok,hne,?_,by rw[ja0];omega,jbr hp _ _,jg5 hne hok (fun y hy=>?_),?_,hsum,?_⟩
   ·rw[eN]
    unfold jl6;rw[if_pos rfl,hpl];show (if (rs.getD x.toNat ⟨#[]⟩).size=0 then _ else (rs.getD x.toNat ⟨#[]⟩,_))=_;rw[hget,if_neg (jl0 hok hne)]
   ·rw[eB]
    exact List.mem_flatMap.2 ⟨x.toNat,List.mem_range.2 hx,by rw[if_neg hc];exact hy⟩
   ·refine jns hok.rise h.rise fun v=>⟨fun hm=>?_,fun hm=>?_⟩
    ·obtain⟨y,hy,e⟩:=List.mem_map.1 hm
     obtain⟨hyl,a,r',e3,e4⟩:=jbH hy
     obtain⟨e1,e2⟩:=Prod.mk.inj e
     have:y=(p,v):=by
      refine Prod.ext (jcK ?_) e2;have e5:y.1.data.toList.drop 1=p.data.toList.drop 1:=by rw[←jdL,e1,jdL]
      have e3:y.1.data.toList=a :: r':=e3;show y.1.data.toList=p.data.toList;rw[e3,hpl]at e5 ⊢;simp at e5;rw[e5,UInt8.toNat_inj.1 e4]
     rw[←this];exact hyl
    ·refine List.mem_map.2 ⟨(p,v),?_,rfl⟩
     refine List.mem_filter.2 ⟨hm,?_⟩;unfold jfP;show (match p.data.toList with | []=>false | a :: _=>a.toNat == x.toNat)=true;rw[hpl];simp
   ·rw[eN]
    unfold jio;rw[if_neg (show ¬(3:Nat)=1 by decide),if_pos rfl,if_neg (fun e=>by have:=e.1;omega)]
theorem jpU{f:Nat}{l:List Pair}{p:ByteArray}(h:jaQ f l)(hp:jaL p=true)(hg:goL l p=none):jl6 (jau (jad f) l) p=(⟨#[]⟩,p)∧jio (jau (jad f) l) p=valL l p:=by
 by_cases h0:l.length=0
 ·have e:jau (jad f) l=jbb:=by unfold jau;rw[if_pos h0]
  rw[e,List.eq_nil_of_length_eq_zero h0]
  exact⟨rfl,rfl⟩
 by_cases h1:l.length=1
 ·have e:jau (jad f) l=⟨1,(l.getD 0 pd).1,(l.getD 0 pd).2,jax 16⟩:=by unfold jau;rw[if_neg h0,if_pos h1]
  rw[e]
  obtain⟨q,rfl⟩:=List.length_eq_one_iff.1 h1
  exact⟨rfl,by unfold jio valL valL;rfl⟩
 have h2:2≤l.length:=by omega
 have hcom:=jbY h h2;unfold goL at hg;rw[if_neg (by omega)]at hg
 by_cases hk:0 < comK l
 ·rw[if_pos hk]at hg
  have e:jau (jad f) l=⟨2,(l.getD 0 pd).1.extract 0 (comK l),⟨#[]⟩,refB (jad f (jam (comK l) l)).text :: jax 15⟩:=by unfold jau;rw[if_neg h0,if_neg h1,if_pos hk]
  have hpre:¬ preB ((l.getD 0 pd).1.extract 0 (comK l)) p=true:=fun hh=>by rw[if_pos hh]at hg;cases hg
  rw[e]
  refine⟨?_,?_⟩
  ·unfold jl6
   rw[if_neg (show ¬(2:Nat)=3 by decide),if_pos rfl,if_neg hpre]
  ·refine (Eq.trans ?_ (jgk fun q hq e=>?_).symm)
   ·rfl
   ·refine hpre ((jlW _ _).2 ⟨p.data.toList.drop (comK l),?_⟩)
    rw[jhL, ←(hcom q hq).1,show q.l=p.data.toList from congrArg (fun x:ByteArray=>x.data.toList) e,List.take_append_drop]
 ·rw[if_neg hk]at hg
  obtain⟨rs,hrs⟩:∃ rs,rs=(List.range 16).map fun i=>if (cutL i l).length=0 then (⟨#[]⟩:ByteArray)else refB (jad f (jam 1 (cutL i l))).text:=⟨_,rfl⟩
  have e:jau (jad f) l=⟨3,⟨#[]⟩,if (l.getD 0 pd).1.size=0 then (l.getD 0 pd).2 else ⟨#[]⟩,rs⟩:=by rw[hrs];unfold jau;rw[if_neg h0,if_neg h1,if_neg hk]
  have hget:∀ i,i < 16→(cutL i l).length=0→rs.getD i ⟨#[]⟩=⟨#[]⟩:=fun i hi hc=>by rw[hrs,jfh _ hi,if_pos hc]
  clear hrs;rw[e];cases hpl:p.data.toList with
  | nil =>
   have hps:p.size=0:=by rw[←jaR p,hpl];rfl
   refine⟨?_,?_⟩
   ·unfold jl6
    rw[if_pos rfl,hpl]
   ·unfold jio
    rw[if_neg (show ¬(3:Nat)=1 by decide),if_pos rfl];have hpe:p=⟨#[]⟩:=jcK (by rw[hpl]);have hm:=jdU (l:=l) (by omega)
    obtain⟨_,_,_,s4,_⟩:=h.size _ hm
    by_cases hz:(l.getD 0 pd).1.size=0
    ·simp only[hz,if_true]
     rw[if_pos ⟨hps,by omega⟩];refine (jnr h.rise ?_).symm;have hz0:(l.getD 0 pd).1.data.toList=[]:=List.eq_nil_of_length_eq_zero hz
     have:(p,(l.getD 0 pd).2)=l.getD 0 pd:=Prod.ext (by
      show p=(l.getD 0 pd).1;exact jcK (by rw[hpl,hz0])) rfl
     rw[this];exact hm
    ·simp only[if_neg hz]
     rw[if_neg (fun e=>e.2 rfl)];refine (jgk fun q hq e=>?_).symm
     obtain⟨i,hi⟩:=List.getElem?_of_mem hq
     cases i with
     | zero =>
      have:l.getD 0 pd=q:=by rw[List.getD_eq_getElem?_getD,hi];rfl
      rw[this,e]at hz;exact hz hps
     | succ i =>
      obtain⟨a,ha⟩:∃ a,l[0]?=some a:=⟨_,List.getElem?_eq_getElem (by omega)⟩
      have:=jct h.rise (by omega) ha hi
      rw[show q.l=[]from(congrArg (fun x:ByteArray=>x.data.toList) e).trans hpl]at this;exact not_lt_nil _ this
  | cons x r =>
   rw[hpl]at hg;have hg:(if (cutL x.toNat l).length=0 then none else some (jam 1 (cutL x.toNat l),p.extract 1 p.size))=none:=hg;have hc:(cutL x.toNat l).length=0:=by
    by_cases hc:(cutL x.toNat l).length=0
    ·exact hc
    ·rw[if_neg hc]at hg;cases hg
   have hx:x.toNat < 16:=jeW (p:=(p,p)) hp hpl;have hps:1≤p.size:=by rw[←jaR p,hpl];simp
   refine⟨?_,?_⟩
   ·unfold jl6
    rw[if_pos rfl,hpl];show (if (rs.getD x.toNat ⟨#[]⟩).size=0 then _ else _)=_;rw[hget _ hx hc,if_pos (show (⟨#[]⟩:ByteArray).size=0 from rfl)]
   ·unfold jio
    rw[if_neg (show ¬(3:Nat)=1 by decide),if_pos rfl,if_neg (fun e=>by have:=e.1;omega)];refine (jgk fun q hq e=>?_).symm;have hin:q∈cutL x.toNat l:=List.mem_filter.2 ⟨hq,by
     unfold jfP;rw[show q.1.data.toList=x :: r from(congrArg (fun x:ByteArray=>x.data.toList) e).trans hpl];simp⟩
    rw[List.eq_nil_of_length_eq_zero hc]at hin;cases hin
theorem jiZ(t:ByteArray):(bigs t).length≤1:=by unfold bigs;split <;> simp
theorem jnq{l:List Pair}(k:ByteArray):valL (jaP l) (jbc k)=valL l k:=by
 have inj:∀ {a b:ByteArray},jbc a=jbc b→a=b:=fun {a b} e=>jcK (jm5 (by
  have:=congrArg (fun x:ByteArray=>x.data.toList) e
  simpa [jbc]using this))
 induction l with
 | nil=>rfl
 | cons q l ih =>
  show (if jbc q.1=jbc k then some q.2 else valL (jaP l) (jbc k))=if q.1=k then some q.2 else valL l k
  by_cases e:q.1=k
  ·rw[if_pos (by rw[e]),if_pos e]
  ·rw[if_neg (fun h=>e (inj h)),if_neg e,ih]
theorem js0{a p:ByteArray}(h:preB a p=true):a.size≤p.size:=by
 obtain⟨s,hs⟩:=(jlW _ _).1 h
 rw[←jaR p,hs,List.length_append,jaR];omega
theorem jf4{p:ByteArray}{x:UInt8}{t:List UInt8}(h:p.data.toList=x :: t):∃ h0:0 < p.size,p[0]=x:=by
 obtain⟨⟨l⟩⟩:=p
 have h:l=x :: t:=h;subst h
 exact⟨Nat.succ_pos _,rfl⟩
inductive PA where
 | nil
 | no
 | leaf (path value:ByteArray)
 | ext (path:ByteArray) (next:PA)
 | br (value:ByteArray) (kids:Nat→PA)
def PA.isNil:PA→Bool | .nil=>true | _=>false
def PA.isNo:PA→Bool | .no=>true | _=>false
def PA.isBr:PA→Bool | .br _ _=>true | _=>false
def jcm(a:ByteArray)(P:PA):PA:=if a.size=0 then P else match P with
 | .leaf q v=>.leaf (a++q) v
 | .ext q n=>.ext (a++q) n
 | .br v ks=>.ext a (.br v ks)
 | _=>.no
def setK(ks:Nat→PA)(i:Nat)(P:PA):Nat→PA:=fun j=>if j=i then P else ks j
def jao(p:ByteArray):Nat:=(p.data.toList.headD 0).toNat
def jbx(p:ByteArray):ByteArray:=p.extract 1 p.size
def addK:PA→ByteArray→ByteArray→PA
 | .br v ks,p,u=>if p.size=0 then .br u ks else .br v (setK ks (jao p) (.leaf (jbx p) u))
 | P,_,_=>P
theorem jcS(v:ByteArray)(ks:Nat→PA)(p u:ByteArray):addK (.br v ks) p u=if p.size=0 then .br u ks else .br v (setK ks (jao p) (.leaf (jbx p) u)):=rfl
theorem ff:¬(false=true):=by decide
def putP:PA→ByteArray→ByteArray→PA
 | .nil,p,u=>.leaf p u
 | .no,p,u=>.leaf p u
 | .leaf q v,p,u=>if p=q then .leaf p u else
   jcm (p.extract 0 (jap q p)) (addK (addK (.br ⟨#[]⟩ fun _=>.nil) (q.extract (jap q p) q.size) v) (p.extract (jap q p) p.size) u)
 | .ext q n,p,u=>if jap q p=q.size then jcm q (putP n (p.extract (jap q p) p.size) u)else
   jcm (p.extract 0 (jap q p)) (addK (.br ⟨#[]⟩ (setK (fun _=>.nil) (jao (q.extract (jap q p) q.size)) (jcm (q.extract (jap q p+1) q.size) n))) (p.extract (jap q p) p.size) u)
 | .br v ks,p,u=>if p.size=0 then .br u ks else .br v (setK ks (jao p) (putP (ks (jao p)) (jbx p) u))
def idxK(ks:Nat→PA):List Nat:=(List.range 16).filter fun i => !(ks i).isNil
def jdu(v:ByteArray)(ks:Nat→PA):PA:=match idxK ks with
 | []=>if v.size=0 then .no else .leaf ⟨#[]⟩ v
 | [i]=>if v.size=0 then jcm ⟨#[UInt8.ofNat i]⟩ (ks i)else .br v ks
 | _=>.br v ks
def unNo(P:PA):PA:=if P.isNo then .nil else P
def jbT:PA→ByteArray→PA
 | .nil,_=>.no
 | .no,_=>.no
 | .leaf q v,p=>if p=q then .no else .leaf q v
 | .ext q n,p=>if preB q p then jcm q (jbT n (p.extract q.size p.size))else .ext q n
 | .br v ks,p=>if p.size=0 then jdu ⟨#[]⟩ ks else if (ks (jao p)).isNil then .br v ks else jdu v (setK ks (jao p) (unNo (jbT (ks (jao p)) (jbx p))))
def getL:PA→List UInt8→Option ByteArray
 | .nil,_=>none
 | .no,_=>none
 | .leaf q v,p=>if q.data.toList=p then some v else none
 | .ext q n,p=>if q.data.toList.isPrefixOf p then getL n (p.drop q.data.toList.length)else none
 | .br v _,[]=>if v.size=0 then none else some v
 | .br _ ks,x :: t=>getL (ks x.toNat) t
def TwoK(v:ByteArray)(ks:Nat→PA):Prop:=(∃ i j,i≠j∧(ks i).isNil=false∧(ks j).isNil=false)∨(v.size≠0∧∃ i,(ks i).isNil=false)
def CanP:PA→Prop
 | .nil=>False
 | .no=>False
 | .leaf q v=>jaL q=true∧v.size≠0
 | .ext q n=>q.size≠0∧jaL q=true∧n.isBr=true∧CanP n
 | .br v ks=>(∀ i,(ks i).isNil=false→i < 16)∧(∀ i,(ks i).isNil=false→CanP (ks i))∧TwoK v ks
theorem jjW(a b:ByteArray):(a++b).data.toList=a.data.toList++b.data.toList:=by
 simp[ByteArray.data_append]
theorem jbA{P:PA}(h:P.isNil=true):P=.nil:=by cases P <;> first | rfl | cases h
theorem jp9{P:PA}(h:P.isNo=true):P=.no:=by cases P <;> first | rfl | cases h
theorem jlr{P:PA}(h:CanP P):P.isNil=false:=by cases P <;> first | rfl | exact h.elim
theorem jwd{P:PA}(h:CanP P):P.isNo=false:=by cases P <;> first | rfl | exact h.elim
theorem jcn{a p:List UInt8}:a.isPrefixOf p=true↔∃ r,p=a++r:=by
 rw[List.isPrefixOf_iff_prefix]
 exact⟨fun ⟨r,h⟩=>⟨r,h.symm⟩,fun ⟨r,h⟩=>⟨r,h.symm⟩⟩
theorem jkR{a p:List UInt8}(h:a.isPrefixOf p=false):∀ r,p≠a++r:=fun r e=>by
 rw[jcn.2 ⟨r,e⟩]at h;cases h
theorem jfr{a:ByteArray}(h:a.size=0):a.data.toList=[]:=List.eq_nil_of_length_eq_zero (by rw[jaR];exact h)
theorem jcp{a:ByteArray}(h:a.size≠0):∃ x t,a.data.toList=x :: t:=by
 cases e:a.data.toList with
 | nil=>rw[←jaR,e]at h;exact (h rfl).elim
 | cons x t=>exact⟨x,t,rfl⟩
theorem jbI{p:ByteArray}{x:UInt8}{t:List UInt8}(h:p.data.toList=x :: t):jao p=x.toNat∧(jbx p).data.toList=t:=by
 refine⟨by unfold jao;rw[h];rfl,?_⟩
 unfold jbx;rw[jdL,h];rfl
theorem jdh{x y:UInt8}(h:x≠y):x.toNat≠y.toNat:=fun e=>h (UInt8.toNat_inj.1 e)
theorem jfi(a:ByteArray)(P:PA)(p:List UInt8):getL (jcm a P) p=if a.data.toList.isPrefixOf p then getL P (p.drop a.data.toList.length)else none:=by
 unfold jcm
 by_cases h0:a.size=0
 ·rw[if_pos h0,jfr h0];simp
 rw[if_neg h0];cases hp:a.data.toList.isPrefixOf p with
 | true =>
  obtain⟨r,rfl⟩:=jcn.1 hp
  rw[if_pos rfl,List.drop_left];cases P with
  | nil=>rfl
  | no=>rfl
  | leaf q v=>simp only[getL,jjW,List.append_cancel_left_eq]
  | ext q n =>
   simp only[getL,jjW];have e:(a.data.toList++q.data.toList).isPrefixOf (a.data.toList++r)=q.data.toList.isPrefixOf r:=by
    rw[Bool.eq_iff_iff,jcn,jcn]
    exact⟨fun ⟨s,e⟩=>⟨s,by rw[List.append_assoc]at e;exact List.append_cancel_left e⟩,fun ⟨s,e⟩=>⟨s,by rw[e,List.append_assoc]⟩⟩
   rw[e,List.length_append, ←List.drop_drop,List.drop_left]
  | br v ks =>
   show (if a.data.toList.isPrefixOf (a.data.toList++r)=true then getL (.br v ks) ((a.data.toList++r).drop _)else none)=_;rw[hp,if_pos rfl,List.drop_left]
 | false =>
  have hn:=jkR hp;rw[if_neg ff];cases P with
  | nil=>rfl
  | no=>rfl
  | leaf q v =>
   simp only[getL,jjW];rw[if_neg (fun e=>hn _ e.symm)]
  | ext q n =>
   simp only[getL,jjW];rw[if_neg];intro e
   obtain⟨s,e⟩:=jcn.1 e
   rw[List.append_assoc]at e;exact hn _ e
  | br v ks =>
   show (if a.data.toList.isPrefixOf p=true then _ else none)=_;rw[hp];rfl
theorem jg7(v:ByteArray)(ks:Nat→PA)(i:Nat)(P:PA)(x:UInt8)(t:List UInt8):getL (.br v (setK ks i P)) (x :: t)=if x.toNat=i then getL P t else getL (.br v ks) (x :: t):=by
 show getL (setK ks i P x.toNat) t=if x.toNat=i then _ else getL (ks x.toNat) t
 unfold setK
 by_cases h:x.toNat=i
 ·rw[if_pos h,if_pos h]
 ·rw[if_neg h,if_neg h]
theorem jlE(v:ByteArray)(ks:Nat→PA)(p u:ByteArray)(hu:u.size≠0)(hk:∀ x t,p.data.toList=x :: t→(ks x.toNat).isNil=true)(q:List UInt8) :
  getL (addK (.br v ks) p u) q=if q=p.data.toList then some u else getL (.br v ks) q:=by
 rw[jcS]
 by_cases h0:p.size=0
 ·rw[if_pos h0,jfr h0]
  cases q with
  | nil=>simp[getL,hu]
  | cons x t=>rfl
 ·rw[if_neg h0]
  obtain⟨x,t,hx⟩:=jcp h0
  obtain⟨h1,h2⟩:=jbI hx
  have hkx:=jbA (hk x t hx);rw[h1,hx];cases q with
  | nil=>simp[getL]
  | cons y s =>
   rw[jg7]
   by_cases hy:y=x
   ·subst hy
    rw[if_pos rfl];simp only[getL,h2,hkx,List.cons.injEq,true_and]
    by_cases e:t=s
    ·rw[if_pos e,if_pos e.symm]
    ·rw[if_neg e,if_neg (fun h=>e h.symm)]
   ·rw[if_neg (jdh hy),if_neg (fun e=>hy (List.cons.inj e).1)]
theorem jcL(a b:List UInt8):∃ a' b',a=a.take (jbl a b)++a'∧b=a.take (jbl a b)++b'∧a'=a.drop (jbl a b)∧b'=b.drop (jbl a b)∧(∀ x s y t,a'=x :: s→b'=y :: t→x≠y):=by
 obtain⟨h1,h2,h3⟩:=jbj a b
 refine⟨_,_,(List.take_append_drop _ _).symm,?_,rfl,rfl,?_⟩
 ·rw[h1,List.take_append_drop]
 ·intro x s y t hx hy e
  have h:=jhl a b;rw[hx,hy,e]at h;simp[jbl]at h
theorem jlv{a b:List UInt8}(h:jbl a b=a.length):b=a++b.drop a.length:=by
 obtain⟨h1,h2,h3⟩:=jbj a b
 rw[h,List.take_length]at h1
 have:=(List.take_append_drop a.length b).symm
 rw[←h1]at this;exact this
theorem jrn(p:ByteArray)(k:Nat):(p.extract 0 k).data.toList=p.data.toList.take k:=by
 simp[ByteArray.data_extract]
theorem jlF:∀ (P:PA),(CanP P∨P=.no∨P=.nil)→∀ (p u:ByteArray),u.size≠0→∀ q,getL (putP P p u) q=if q=p.data.toList then some u else getL P q
 | .nil,_,p,u,_,q=>by
  show (if p.data.toList=q then some u else none)=if q=p.data.toList then some u else none
  by_cases e:q=p.data.toList
  ·rw[if_pos e,if_pos e.symm]
  ·rw[if_neg e,if_neg (fun h=>e h.symm)]
 | .no,_,p,u,_,q=>by
  show (if p.data.toList=q then some u else none)=if q=p.data.toList then some u else none
  by_cases e:q=p.data.toList
  ·rw[if_pos e,if_pos e.symm]
  ·rw[if_neg e,if_neg (fun h=>e h.symm)]
 | .leaf a v,h,p,u,hu,q=>by
  have hc:v.size≠0:=by
   rcases h with h | h | h
   ·exact h.2
   ·cases h
   ·cases h
  unfold putP
  by_cases hpa:p=a
  ·rw[if_pos hpa]
   subst hpa;simp only[getL]
   by_cases e:q=p.data.toList
   ·rw[if_pos e,if_pos e.symm]
   ·rw[if_neg e,if_neg (fun h=>e h.symm),if_neg (fun h=>e h.symm)]
  rw[if_neg hpa,jfi,jrn]
  obtain⟨a',b',ha,hb,ha',hb',hne⟩:=jcL a.data.toList p.data.toList
  obtain⟨ht1,ht2,ht3⟩:=jbj a.data.toList p.data.toList
  obtain⟨n,hn⟩:∃ n,n=jap a p:=⟨_,rfl⟩
  have hn':jbl a.data.toList p.data.toList=n:=hn.symm;rw[hn']at ha hb ha' hb' ht1 ht2 ht3;rw[←hn, ←ht1]
  obtain⟨c,hcc⟩:∃ c,c=a.data.toList.take n:=⟨_,rfl⟩
  rw[←hcc]at ha hb ⊢;have hcl:c.length=n:=by rw[hcc,List.length_take];omega
  have hab:¬(a'=[]∧b'=[]):=by
   rintro⟨rfl,rfl⟩
   exact hpa (jcK (by rw[hb,ha]))
  have hka:(a.extract n a.size).data.toList=a':=by rw[jdL,ha']
  have hkb:(p.extract n p.size).data.toList=b':=by rw[jdL,hb']
  obtain⟨x1,e1⟩:∃ x,x=a.extract n a.size:=⟨_,rfl⟩
  obtain⟨x2,e2⟩:∃ x,x=p.extract n p.size:=⟨_,rfl⟩
  rw[←e1]at hka ⊢;rw[←e2]at hkb ⊢;have key:∀ r,getL (addK (addK (.br ⟨#[]⟩ fun _=>.nil) x1 v) x2 u) r=if r=b' then some u else if r=a' then some v else none:=by
   intro r;have hadd:∃ v1 ks1,addK (.br ⟨#[]⟩ fun _=>.nil) x1 v=.br v1 ks1∧∀ x t,x2.data.toList=x :: t→(ks1 x.toNat).isNil=true:=by
    rw[jcS]
    by_cases h0:x1.size=0
    ·rw[if_pos h0];exact⟨_,_,rfl,fun _ _ _=>rfl⟩
    ·rw[if_neg h0]
     refine⟨_,_,rfl,fun y t hy=>?_⟩
     obtain⟨x,s,hx⟩:=jcp h0
     unfold setK;rw[(jbI hx).1,if_neg (jdh (Ne.symm (hne x s y t (by rw[←hka,hx]) (by rw[←hkb,hy]))))];rfl
   obtain⟨v1,ks1,h1,h2⟩:=hadd
   rw[h1,jlE v1 ks1 x2 u hu h2, ←h1,jlE _ _ x1 v hc (fun _ _ _=>rfl),hka,hkb]
   congr 1
   congr 1
   cases r <;> rfl
  cases hp:c.isPrefixOf q with
  | false =>
   have h9:=jkR hp;rw[if_neg ff,if_neg (fun e=>h9 b' (e.trans hb))];show none=if a.data.toList=q then some v else none
   rw[if_neg (fun e=>h9 a' (e.symm.trans ha))]
  | true =>
   obtain⟨r,rfl⟩:=jcn.1 hp
   rw[if_pos rfl,List.drop_left,key];show _=if c++r=p.data.toList then some u else if a.data.toList=c++r then some v else none
   rw[hb,ha];simp only[List.append_cancel_left_eq]
   congr 1
   by_cases e:r=a'
   ·rw[if_pos e,if_pos e.symm]
   ·rw[if_neg e,if_neg (fun h=>e h.symm)]
 | .ext a n,h,p,u,hu,q=>by
  have hc:CanP (.ext a n):=by
   rcases h with h | h | h
   ·exact h
   ·cases h
   ·cases h
  have ih:=jlF n (.inl hc.2.2.2);unfold putP
  by_cases hf:jap a p=a.size
  ·rw[if_pos hf,jfi]
   have hb:=jlv (a:=a.data.toList) (b:=p.data.toList) (by rw[jaR];exact hf)
   obtain⟨b',hb'⟩:∃ b',b'=p.data.toList.drop a.data.toList.length:=⟨_,rfl⟩
   rw[←hb']at hb;have hx:(p.extract (jap a p) p.size).data.toList=b':=by rw[jdL,hf,hb',jaR]
   show _=if q=p.data.toList then some u else if a.data.toList.isPrefixOf q then getL n (q.drop a.data.toList.length)else none
   cases hp:a.data.toList.isPrefixOf q with
   | false =>
    rw[if_neg ff,if_neg ff,if_neg (fun e=>jkR hp b' (e.trans hb))]
   | true =>
    obtain⟨r,rfl⟩:=jcn.1 hp
    rw[if_pos rfl,if_pos rfl,List.drop_left,ih _ u hu,hx,hb];simp only[List.append_cancel_left_eq]
  ·rw[if_neg hf,jfi,jrn]
   obtain⟨a',b',ha,hb,ha',hb',hne⟩:=jcL a.data.toList p.data.toList
   obtain⟨ht1,ht2,ht3⟩:=jbj a.data.toList p.data.toList
   obtain⟨m,hm⟩:∃ m,m=jap a p:=⟨_,rfl⟩
   have hm':jbl a.data.toList p.data.toList=m:=hm.symm;rw[hm']at ha hb ha' hb' ht1 ht2 ht3;rw[←hm]at hf ⊢;rw[←ht1]
   obtain⟨c,hcc⟩:∃ c,c=a.data.toList.take m:=⟨_,rfl⟩
   rw[←hcc]at ha hb ⊢;have hka:(a.extract m a.size).data.toList=a':=by rw[jdL,ha']
   have hkb:(p.extract m p.size).data.toList=b':=by rw[jdL,hb']
   have hsz:a'.length=a.size - m:=by rw[ha',List.length_drop,jaR]
   rw[jaR]at ht2;cases a' with
   | nil=>simp at hsz;omega
   | cons x s =>
    have hk1:(a.extract (m+1) a.size).data.toList=s:=by
     rw[jdL, ←List.drop_drop, ←ha'];rfl
    rw[(jbI hka).1]
    obtain⟨x2,e2⟩:∃ x,x=p.extract m p.size:=⟨_,rfl⟩
    rw[←e2]at hkb ⊢;have key:∀ r,getL (addK (.br ⟨#[]⟩ (setK (fun _=>.nil) x.toNat (jcm (a.extract (m+1) a.size) n))) x2 u) r=if r=b' then some u else if (x :: s).isPrefixOf r then getL n (r.drop (s.length+1))else none:=by
     intro r;rw[jlE _ _ _ u hu,hkb]
     ·congr 1
      cases r with
      | nil=>rfl
      | cons y t =>
       rw[jg7,jfi,hk1]
       by_cases e:y=x
       ·subst e;simp
       ·rw[if_neg (jdh e),if_neg]
        ·rfl
        ·intro h9
         obtain⟨r,h9⟩:=jcn.1 h9
         exact e (List.cons.inj h9).1
     ·intro y t hy
      unfold setK;rw[if_neg (jdh (Ne.symm (hne x s y t rfl (by rw[←hkb,hy]))))];rfl
    have hal:a.data.toList.length=c.length+(s.length+1):=by
     have h9:=congrArg List.length ha;rw[List.length_append]at h9;exact h9
    show _=if q=p.data.toList then some u else if a.data.toList.isPrefixOf q then getL n (q.drop a.data.toList.length)else none
    cases hp:c.isPrefixOf q with
    | false =>
     have h9:=jkR hp;rw[if_neg ff,if_neg (fun e=>h9 b' (e.trans hb)),if_neg];intro e
     obtain⟨r,e⟩:=jcn.1 e
     rw[ha,List.append_assoc]at e;exact h9 _ e
    | true =>
     obtain⟨r,rfl⟩:=jcn.1 hp
     have e2:(c++r).drop (c.length+(s.length+1))=r.drop (s.length+1):=by rw[←List.drop_drop,List.drop_left]
     rw[if_pos rfl,List.drop_left,key,hal,e2];have e1:a.data.toList.isPrefixOf (c++r)=(x :: s).isPrefixOf r:=by
      rw[Bool.eq_iff_iff,jcn,jcn];constructor
      ·rintro⟨z,e⟩
       rw[ha,List.append_assoc]at e
       exact⟨z,List.append_cancel_left e⟩
      ·rintro⟨z,rfl⟩
       exact⟨z,by rw[ha,List.append_assoc]⟩
     rw[e1,hb];simp only[List.append_cancel_left_eq]
 | .br v ks,h,p,u,hu,q=>by
  have hc:CanP (.br v ks):=by
   rcases h with h | h | h
   ·exact h
   ·cases h
   ·cases h
  unfold putP
  by_cases h0:p.size=0
  ·rw[if_pos h0,jfr h0]
   cases q with
   | nil=>simp[getL,hu]
   | cons x t=>rfl
  ·rw[if_neg h0]
   obtain⟨x,t,hx⟩:=jcp h0
   obtain⟨h1,h2⟩:=jbI hx
   have ih:=jlF (ks (jao p)) (by
    cases hn:(ks (jao p)).isNil with
    | true=>exact .inr (.inr (jbA hn))
    | false=>exact .inl (hc.2.1 _ hn)) (jbx p) u hu
   rw[h1]at ih ⊢;rw[hx];cases q with
   | nil=>simp[getL]
   | cons y s =>
    rw[jg7]
    by_cases hy:y=x
    ·subst hy
     rw[if_pos rfl,ih,h2];simp only[List.cons.injEq,true_and];rfl
    ·rw[if_neg (jdh hy),if_neg (fun e=>hy (List.cons.inj e).1)]
theorem jcr{s:ByteArray}:jaL s=true↔∀ x∈s.data.toList,x.toNat < 16:=by
 unfold jaL;rw[List.all_eq_true];constructor
 ·intro h x hx
  have h1:=h x hx;simp only[decide_eq_true_eq,UInt8.le_iff_toNat_le]at h1
  have:(15:UInt8).toNat=15:=rfl
  omega
 ·intro h x hx
  have h1:=h x hx;simp only[decide_eq_true_eq,UInt8.le_iff_toNat_le]
  have:(15:UInt8).toNat=15:=rfl
  omega
theorem jld{a b:ByteArray}(h:jaL a=true)(k:jaL b=true):jaL (a++b)=true:=by
 rw[jcr]at *;intro x hx;rw[jjW]at hx;rcases List.mem_append.1 hx with e | e
 ·exact h x e
 ·exact k x e
theorem jgR{a:ByteArray}(h:jaL a=true)(k:Nat):jaL (a.extract 0 k)=true:=by
 rw[jcr]at *;intro x hx;rw[jrn]at hx;exact h x (List.mem_of_mem_take hx)
theorem jcv{a:ByteArray}(h:jaL a=true):jaL (jbx a)=true:=jbr h 1 _
theorem jdN{p:ByteArray}(h:jaL p=true)(h0:p.size≠0):jao p < 16:=by
 obtain⟨x,t,hx⟩:=jcp h0
 rw[(jbI hx).1];exact jcr.1 h x (by rw[hx];exact List.mem_cons_self)
theorem jdc(a b:ByteArray):(a++b).size=a.size+b.size:=by
 rw[←jaR,jjW,List.length_append,jaR,jaR]
theorem je9{a:ByteArray}{P:PA}(ha:jaL a=true)(h:CanP P):CanP (jcm a P):=by
 unfold jcm
 by_cases h0:a.size=0
 ·rw[if_pos h0];exact h
 rw[if_neg h0];cases P with
 | nil=>exact h.elim
 | no=>exact h.elim
 | leaf q v=>exact⟨jld ha h.1,h.2⟩
 | ext q n=>exact⟨by rw[jdc];omega,jld ha h.2.1,h.2.2⟩
 | br v ks=>exact⟨h0,ha,rfl,h⟩
theorem jco(ks:Nat→PA)(i:Nat)(P:PA):setK ks i P i=P:=if_pos rfl
theorem jeC(ks:Nat→PA){i j:Nat}(P:PA)(h:j≠i):setK ks i P j=ks j:=if_neg h
def OneB(ks:Nat→PA):Prop:=(∀ i,(ks i).isNil=false→i < 16)∧(∀ i,(ks i).isNil=false→CanP (ks i))
theorem OneB.set{ks:Nat→PA}(h:OneB ks){i:Nat}{P:PA}(hi:i < 16)(hP:CanP P):OneB (setK ks i P):=by
 refine⟨fun j hj=>?_,fun j hj=>?_⟩
 ·by_cases e:j=i
  ·rw[e];exact hi
  ·rw[jeC _ _ e]at hj;exact h.1 j hj
 ·by_cases e:j=i
  ·rw[e,jco];exact hP
  ·rw[jeC _ _ e]at hj ⊢;exact h.2 j hj
theorem OneB.cut{ks:Nat→PA}(h:OneB ks)(i:Nat):OneB (setK ks i .nil):=by
 refine⟨fun j hj=>?_,fun j hj=>?_⟩
 ·by_cases e:j=i
  ·rw[e,jco]at hj;cases hj
  ·rw[jeC _ _ e]at hj;exact h.1 j hj
 ·by_cases e:j=i
  ·rw[e,jco]at hj;cases hj
  ·rw[jeC _ _ e]at hj ⊢;exact h.2 j hj
theorem jjm:OneB (fun _=>.nil):=⟨fun _ h=>Bool.noConfusion h,fun _ h=>Bool.noConfusion h⟩
theorem TwoK.set{v:ByteArray}{ks:Nat→PA}(h:TwoK v ks)(i:Nat){P:PA}(hP:P.isNil=false):TwoK v (setK ks i P):=by
 have hk:∀ j,(ks j).isNil=false→(setK ks i P j).isNil=false:=by
  intro j hj
  by_cases e:j=i
  ·rw[e,jco];exact hP
  ·rw[jeC _ _ e];exact hj
 rcases h with⟨a,b,h1,h2,h3⟩ |⟨h1,a,h2⟩
 ·exact .inl ⟨a,b,h1,hk a h2,hk b h3⟩
 ·exact .inr ⟨h1,a,hk a h2⟩
theorem jlk{ks:Nat→PA}(v p u:ByteArray)(h:OneB ks)(hp:jaL p=true)(hu:u.size≠0)(h2:(v.size≠0∧p.size≠0)∨∃ i,(ks i).isNil=false∧(p.size=0∨jao p≠i)):CanP (addK (.br v ks) p u):=by
 rw[jcS]
 by_cases h0:p.size=0
 ·rw[if_pos h0]
  rcases h2 with⟨_,e⟩ |⟨i,hi,_⟩
  ·exact (e h0).elim
  ·exact⟨h.1,h.2,.inr ⟨hu,i,hi⟩⟩
 ·rw[if_neg h0]
  have hs:=h.set (jdN hp h0) (P:=.leaf (jbx p) u) ⟨jcv hp,hu⟩
  refine⟨hs.1,hs.2,?_⟩
  rcases h2 with⟨e,_⟩ |⟨i,hi,e | e⟩
  ·exact .inr ⟨e,jao p,by rw[jco];rfl⟩
  ·exact (h0 e).elim
  ·exact .inl ⟨jao p,i,e,by rw[jco];rfl,by rw[jeC _ _ (Ne.symm e)];exact hi⟩
theorem jls:∀ (P:PA),(CanP P∨P=.no∨P=.nil)→∀ (p u:ByteArray),jaL p=true→u.size≠0→CanP (putP P p u)
 | .nil,_,p,u,hp,hu=>⟨hp,hu⟩
 | .no,_,p,u,hp,hu=>⟨hp,hu⟩
 | .leaf a v,h,p,u,hp,hu=>by
  have hc:jaL a=true∧v.size≠0:=by
   rcases h with h | h | h
   ·exact h
   ·cases h
   ·cases h
  unfold putP
  by_cases hpa:p=a
  ·rw[if_pos hpa];exact⟨hp,hu⟩
  rw[if_neg hpa];refine je9 (jgR hp _) ?_
  obtain⟨a',b',ha,hb,ha',hb',hne⟩:=jcL a.data.toList p.data.toList
  have hka:(a.extract (jap a p) a.size).data.toList=a':=by rw[jdL,ha'];rfl
  have hkb:(p.extract (jap a p) p.size).data.toList=b':=by rw[jdL,hb'];rfl
  have hva:=jbr hc.1 (jap a p) a.size;have hvb:=jbr hp (jap a p) p.size;have hab:¬(a'=[]∧b'=[]):=by
   rintro⟨rfl,rfl⟩
   exact hpa (jcK (hb.trans ha.symm))
  obtain⟨x1,e1⟩:∃ x,x=a.extract (jap a p) a.size:=⟨_,rfl⟩
  obtain⟨x2,e2⟩:∃ x,x=p.extract (jap a p) p.size:=⟨_,rfl⟩
  rw[←e1]at hka hva ⊢;rw[←e2]at hkb hvb ⊢;rw[jcS]
  by_cases h0:x1.size=0
  ·rw[if_pos h0]
   refine jlk v x2 u jjm hvb hu (.inl ⟨hc.2,fun e=>hab ⟨?_,?_⟩⟩)
   ·rw[←hka];exact jfr h0
   ·rw[←hkb];exact jfr e
  ·rw[if_neg h0]
   refine jlk _ x2 u (jjm.set (jdN hva h0) ⟨jcv hva,hc.2⟩) hvb hu (.inr ⟨jao x1,by rw[jco];rfl,?_⟩)
   by_cases h9:x2.size=0
   ·exact .inl h9
   ·obtain⟨x,s,hx⟩:=jcp h0
    obtain⟨y,t,hy⟩:=jcp h9
    rw[(jbI hx).1,(jbI hy).1];exact .inr (jdh (Ne.symm (hne x s y t (by rw[←hka,hx]) (by rw[←hkb,hy]))))
 | .ext a n,h,p,u,hp,hu=>by
  have hc:CanP (.ext a n):=by
   rcases h with h | h | h
   ·exact h
   ·cases h
   ·cases h
  unfold putP
  by_cases hf:jap a p=a.size
  ·rw[if_pos hf]
   exact je9 hc.2.1 (jls n (.inl hc.2.2.2) _ u (jbr hp _ _) hu)
  ·rw[if_neg hf]
   refine je9 (jgR hp _) ?_
   obtain⟨a',b',ha,hb,ha',hb',hne⟩:=jcL a.data.toList p.data.toList
   have hka:(a.extract (jap a p) a.size).data.toList=a':=by rw[jdL,ha'];rfl
   have hkb:(p.extract (jap a p) p.size).data.toList=b':=by rw[jdL,hb'];rfl
   have hva:=jbr hc.2.1 (jap a p) a.size;have hvb:=jbr hp (jap a p) p.size;have h0:(a.extract (jap a p) a.size).size≠0:=by
    have h3:=(jbj a.data.toList p.data.toList).2.1;have h4:jap a p≤a.size:=by rw[←jaR];exact h3
    rw[ja0];omega
   obtain⟨x2,e2⟩:∃ x,x=p.extract (jap a p) p.size:=⟨_,rfl⟩
   rw[←e2]at hkb hvb ⊢;have hj:=je9 (jbr hc.2.1 (jap a p+1) a.size) hc.2.2.2;have hO:=jjm.set (jdN hva h0) hj
   obtain⟨J,hJ⟩:∃ J,J=jcm (a.extract (jap a p+1) a.size) n:=⟨_,rfl⟩
   rw[←hJ]at hO hj ⊢;have hz:=jco (fun _=>PA.nil) (jao (a.extract (jap a p) a.size)) J;have hnil:=jlr hj;rw[←hz]at hnil
   obtain⟨KS,hKS⟩:∃ KS,KS=setK (fun _=>PA.nil) (jao (a.extract (jap a p) a.size)) J:=⟨_,rfl⟩
   rw[←hKS]at hO hnil ⊢;refine jlk ⟨#[]⟩ x2 u hO hvb hu (.inr ⟨jao (a.extract (jap a p) a.size),hnil,?_⟩)
   by_cases h9:x2.size=0
   ·exact .inl h9
   ·obtain⟨x,s,hx⟩:=jcp h0
    obtain⟨y,t,hy⟩:=jcp h9
    rw[(jbI hx).1,(jbI hy).1];exact .inr (jdh (Ne.symm (hne x s y t (by rw[←hka,hx]) (by rw[←hkb,hy]))))
 | .br v ks,h,p,u,hp,hu=>by
  have hc:CanP (.br v ks):=by
   rcases h with h | h | h
   ·exact h
   ·cases h
   ·cases h
  unfold putP
  by_cases h0:p.size=0
  ·rw[if_pos h0]
   refine⟨hc.1,hc.2.1,?_⟩
   rcases hc.2.2 with h1 |⟨_,h2⟩
   ·exact .inl h1
   ·exact .inr ⟨hu,h2⟩
  ·rw[if_neg h0]
   have hk:=jls (ks (jao p)) (by
    cases hn:(ks (jao p)).isNil with
    | true=>exact .inr (.inr (jbA hn))
    | false=>exact .inl (hc.2.1 _ hn)) (jbx p) u (jcv hp) hu
   have hs:=OneB.set ⟨hc.1,hc.2.1⟩ (jdN hp h0) hk
   exact⟨hs.1,hs.2,hc.2.2.set _ (jlr hk)⟩
theorem jp5{ks:Nat→PA}{i:Nat}(h:OneB ks):i∈idxK ks↔(ks i).isNil=false:=by
 unfold idxK;rw[List.mem_filter,List.mem_range,Bool.not_eq_true']
 exact⟨fun e=>e.2,fun e=>⟨h.1 i e,e⟩⟩
theorem jp6(ks:Nat→PA):(idxK ks).Nodup:=List.Nodup.sublist List.filter_sublist List.nodup_range
theorem jkA{v:ByteArray}{ks:Nat→PA}(h:OneB ks):jdu v ks=.no∨CanP (jdu v ks):=by
 have hm:=fun i=>jp5 (i:=i) h;have hd:=jp6 ks;unfold jdu;cases e:idxK ks with
 | nil =>
  show (if v.size=0 then PA.no else .leaf ⟨#[]⟩ v)=.no∨CanP (if v.size=0 then PA.no else .leaf ⟨#[]⟩ v)
  by_cases h0:v.size=0
  ·rw[if_pos h0];exact .inl rfl
  ·rw[if_neg h0];exact .inr ⟨rfl,h0⟩
 | cons i r =>
  rw[e]at hm hd;have hi:=(hm i).1 List.mem_cons_self;cases r with
  | nil =>
   show (if v.size=0 then jcm ⟨#[UInt8.ofNat i]⟩ (ks i)else .br v ks)=.no∨CanP (if v.size=0 then jcm ⟨#[UInt8.ofNat i]⟩ (ks i)else .br v ks);right
   by_cases h0:v.size=0
   ·rw[if_pos h0]
    have hi16:=h.1 i hi;refine je9 ?_ (h.2 i hi);rw[jcr];intro x hx;have hx:x=UInt8.ofNat i:=by simpa using hx
    rw[hx,UInt8.toNat_ofNat'];omega
   ·rw[if_neg h0]
    exact⟨h.1,h.2,.inr ⟨h0,i,hi⟩⟩
  | cons j r =>
   right
   refine⟨h.1,h.2,.inl ⟨i,j,?_,hi,(hm j).1 (by simp)⟩⟩
   rintro rfl;simp at hd
theorem jkq{v:ByteArray}{ks:Nat→PA}(h:OneB ks)(q:List UInt8):getL (jdu v ks) q=getL (.br v ks) q:=by
 have hm:=fun i=>jp5 (i:=i) h;unfold jdu;cases e:idxK ks with
 | nil =>
  rw[e]at hm;have hn:∀ i,ks i=.nil:=fun i=>jbA (by
   cases hb:(ks i).isNil with
   | true=>rfl
   | false=>exact ((List.mem_nil_iff i).1 ((hm i).2 hb)).elim)
  show getL (if v.size=0 then PA.no else .leaf ⟨#[]⟩ v) q=_;cases q with
  | nil =>
   show _=if v.size=0 then none else some v
   by_cases h0:v.size=0
   ·rw[if_pos h0,if_pos h0];rfl
   ·rw[if_neg h0,if_neg h0];rfl
  | cons x t =>
   show _=getL (ks x.toNat) t;rw[hn]
   by_cases h0:v.size=0
   ·rw[if_pos h0];rfl
   ·rw[if_neg h0];rfl
 | cons i r =>
  cases r with
  | nil =>
   show getL (if v.size=0 then jcm ⟨#[UInt8.ofNat i]⟩ (ks i)else .br v ks) q=_
   by_cases h0:v.size=0
   ·rw[if_pos h0,jfi]
    rw[e]at hm;have hi16:=h.1 i ((hm i).1 List.mem_cons_self);have hti:(UInt8.ofNat i).toNat=i:=by rw[UInt8.toNat_ofNat'];omega
    cases q with
    | nil=>show (if false=true then _ else none)=if v.size=0 then none else some v;rw[if_pos h0,if_neg ff]
    | cons x t =>
     show (if ([UInt8.ofNat i].isPrefixOf (x :: t))=true then getL (ks i) ((x :: t).drop 1)else none)=getL (ks x.toNat) t
     by_cases hx:x=UInt8.ofNat i
     ·subst hx;simp[hti]
     ·have hne:x.toNat≠i:=fun e=>hx (UInt8.toNat_inj.1 (by rw[hti];exact e))
      have hnn:ks x.toNat=.nil:=jbA (by
       cases hb:(ks x.toNat).isNil with
       | true=>rfl
       | false=>exact (hne (by simpa using (hm _).2 hb)).elim)
      rw[hnn,if_neg]
      ·rfl
      ·intro h9
       obtain⟨r,h9⟩:=jcn.1 h9
       exact hx (List.cons.inj h9).1
   ·rw[if_neg h0]
  | cons j r=>rfl
theorem jsp(P:PA)(q:List UInt8):getL (unNo P) q=getL P q:=by
 unfold unNo;cases h:P.isNo with
 | true=>rw[if_pos rfl,jp9 h];rfl
 | false=>rw[if_neg ff]
theorem jlw:∀ (P:PA),CanP P→∀ (p:ByteArray),jaL p=true→(jbT P p=.no∨CanP (jbT P p))∧∀ q,getL (jbT P p) q=if q=p.data.toList then none else getL P q
 | .nil,h,_,_=>h.elim
 | .no,h,_,_=>h.elim
 | .leaf a v,h,p,hp=>by
  unfold jbT
  by_cases e:p=a
  ·rw[if_pos e]
   refine⟨.inl rfl,fun q=>?_⟩
   subst e;show none=if q=p.data.toList then none else if p.data.toList=q then some v else none
   by_cases h9:q=p.data.toList
   ·rw[if_pos h9]
   ·rw[if_neg h9,if_neg (fun e=>h9 e.symm)]
  ·rw[if_neg e]
   refine⟨.inr h,fun q=>?_⟩
   by_cases h9:q=p.data.toList
   ·rw[if_pos h9]
    show (if a.data.toList=q then some v else none)=none;rw[if_neg (fun h8=>e (jcK (h9.symm.trans h8.symm)))]
   ·rw[if_neg h9]
 | .ext a n,h,p,hp=>by
  unfold jbT
  obtain⟨i1,i2⟩:=jlw n h.2.2.2 (p.extract a.size p.size) (jbr hp _ _)
  cases hb:preB a p with
  | false =>
   rw[if_neg ff]
   refine⟨.inr h,fun q=>?_⟩
   by_cases h9:q=p.data.toList
   ·rw[if_pos h9,h9]
    show (if a.data.toList.isPrefixOf p.data.toList=true then _ else none)=none;unfold preB at hb;rw[hb];rfl
   ·rw[if_neg h9]
  | true =>
   rw[if_pos rfl]
   obtain⟨b',hb'⟩:=jcn.1 hb
   have hx:(p.extract a.size p.size).data.toList=b':=by rw[jdL,hb', ←jaR,List.drop_left]
   refine⟨?_,fun q=>?_⟩
   ·rcases i1 with i1 | i1
    ·rw[i1]
     left;unfold jcm
     by_cases h0:a.size=0
     ·rw[if_pos h0]
     ·rw[if_neg h0]
    ·exact .inr (je9 h.2.1 i1)
   ·rw[jfi]
    show _=if q=p.data.toList then none else if a.data.toList.isPrefixOf q then getL n (q.drop a.data.toList.length)else none
    cases hq:a.data.toList.isPrefixOf q with
    | false =>
     rw[if_neg ff,if_neg ff,if_neg (fun e=>jkR hq b' (e.trans hb'))]
    | true =>
     obtain⟨r,rfl⟩:=jcn.1 hq
     rw[if_pos rfl,if_pos rfl,List.drop_left,i2,hx,hb'];simp only[List.append_cancel_left_eq]
 | .br v ks,h,p,hp=>by
  unfold jbT;have hO:OneB ks:=⟨h.1,h.2.1⟩
  by_cases h0:p.size=0
  ·rw[if_pos h0]
   refine⟨jkA hO,fun q=>?_⟩
   rw[jkq hO,jfr h0];cases q with
   | nil=>rfl
   | cons x t=>rfl
  ·rw[if_neg h0]
   obtain⟨x,t,hx⟩:=jcp h0
   obtain⟨h1,h2⟩:=jbI hx
   cases hn:(ks (jao p)).isNil with
   | true =>
    rw[if_pos rfl]
    refine⟨.inr h,fun q=>?_⟩
    by_cases h9:q=p.data.toList
    ·rw[if_pos h9,h9,hx]
     show getL (ks x.toNat) t=none;rw[←h1,jbA hn];rfl
    ·rw[if_neg h9]
   | false =>
    rw[if_neg ff]
    obtain⟨i1,i2⟩:=jlw (ks (jao p)) (h.2.1 _ hn) (jbx p) (jcv hp)
    have hS:OneB (setK ks (jao p) (unNo (jbT (ks (jao p)) (jbx p)))):=by
     unfold unNo;rcases i1 with i1 | i1
     ·rw[i1];exact hO.cut _
     ·rw[jwd i1,if_neg ff]
      exact hO.set (jdN hp h0) i1
    refine⟨jkA hS,fun q=>?_⟩
    rw[jkq hS,hx];cases q with
    | nil=>rfl
    | cons y s =>
     rw[jg7,h1]
     by_cases hy:y=x
     ·subst hy
      rw[if_pos rfl,jsp, ←h1,i2,h2];simp only[List.cons.injEq,true_and];show _=if s=t then none else getL (ks y.toNat) s
      rw[h1]
     ·rw[if_neg (jdh hy),if_neg (fun e=>hy (List.cons.inj e).1)]
theorem jge{i:Nat}(h:i < 16):(UInt8.ofNat i).toNat=i:=by rw[UInt8.toNat_ofNat'];omega
theorem jeq:∀ (P:PA),CanP P→∃ p v,getL P p=some v
 | .nil,h=>h.elim
 | .no,h=>h.elim
 | .leaf a v,_=>⟨a.data.toList,v,if_pos rfl⟩
 | .ext a n,h=>by
  obtain⟨p,v,e⟩:=jeq n h.2.2.2
  refine⟨a.data.toList++p,v,?_⟩
  show (if a.data.toList.isPrefixOf (a.data.toList++p)=true then getL n ((a.data.toList++p).drop a.data.toList.length)else none)=some v;rw[if_pos (jcn.2 ⟨p,rfl⟩),List.drop_left,e]
 | .br v ks,h=>by
  have hi:∃ i,(ks i).isNil=false:=by
   rcases h.2.2 with⟨i,_,_,e,_⟩ |⟨_,i,e⟩
   ·exact⟨i,e⟩
   ·exact⟨i,e⟩
  obtain⟨i,hi⟩:=hi
  obtain⟨p,u,e⟩:=jeq (ks i) (h.2.1 i hi)
  refine⟨UInt8.ofNat i :: p,u,?_⟩
  show getL (ks (UInt8.ofNat i).toNat) p=some u;rw[jge (h.1 i hi),e]
theorem jhj{v:ByteArray}{ks:Nat→PA}(h:CanP (.br v ks)):∃ p q a b,p.head?≠q.head?∧getL (.br v ks) p=some a∧getL (.br v ks) q=some b:=by
 have kid:∀ i,(ks i).isNil=false→∃ t u,getL (.br v ks) (UInt8.ofNat i :: t)=some u:=by
  intro i hi
  obtain⟨p,u,e⟩:=jeq (ks i) (h.2.1 i hi)
  refine⟨p,u,?_⟩
  show getL (ks (UInt8.ofNat i).toNat) p=some u;rw[jge (h.1 i hi),e]
 rcases h.2.2 with⟨i,j,hij,hi,hj⟩ |⟨hv,i,hi⟩
 ·obtain⟨t,a,e1⟩:=kid i hi
  obtain⟨s,b,e2⟩:=kid j hj
  refine⟨_,_,a,b,?_,e1,e2⟩
  intro e;have e:UInt8.ofNat i=UInt8.ofNat j:=by simpa using e
  have:=congrArg UInt8.toNat e
  rw[jge (h.1 i hi),jge (h.1 j hj)]at this;exact hij this
 ·obtain⟨t,a,e1⟩:=kid i hi
  refine⟨[],_,v,a,?_,?_,e1⟩
  ·simp
  ·show (if v.size=0 then none else some v)=some v
   rw[if_neg hv]
theorem jhV:∀ (a r p q:List UInt8),p.head?≠q.head?→r <+: a++p→r <+: a++q→r <+: a
 | [],r,p,q,h,h1,h2=>by
  cases r with
  | nil=>exact List.nil_prefix
  | cons x s =>
   obtain⟨t1,e1⟩:=h1
   obtain⟨t2,e2⟩:=h2
   rw[List.nil_append]at e1 e2;exfalso;apply h;rw[←e1, ←e2];rfl
 | y :: a,r,p,q,h,h1,h2=>by
  cases r with
  | nil=>exact List.nil_prefix
  | cons x s =>
   rw[List.cons_append]at h1 h2
   obtain⟨e,h1⟩:=List.cons_prefix_cons.1 h1
   obtain⟨_,h2⟩:=List.cons_prefix_cons.1 h2
   rw[e];exact List.cons_prefix_cons.2 ⟨rfl,jhV a s p q h h1 h2⟩
theorem jhC(a:ByteArray)(n:PA)(t:List UInt8):getL (.ext a n) (a.data.toList++t)=getL n t:=by
 show (if a.data.toList.isPrefixOf (a.data.toList++t)=true then getL n ((a.data.toList++t).drop a.data.toList.length)else none)=getL n t;rw[if_pos (jcn.2 ⟨t,rfl⟩),List.drop_left]
theorem jev{a:ByteArray}{n:PA}{p:List UInt8}{v:ByteArray}(h:getL (.ext a n) p=some v):a.data.toList <+: p:=by
 have h:(if a.data.toList.isPrefixOf p=true then getL n (p.drop a.data.toList.length)else none)=some v:=h
 by_cases e:a.data.toList.isPrefixOf p=true
 ·exact List.isPrefixOf_iff_prefix.1 e
 ·rw[if_neg e]at h;cases h
theorem jlq{a:ByteArray}{n:PA}(h:CanP (.ext a n)):∃ p q x y,p.head?≠q.head?∧getL (.ext a n) (a.data.toList++p)=some x∧getL (.ext a n) (a.data.toList++q)=some y:=by
 cases n with
 | br v ks =>
  obtain⟨p,q,x,y,h1,h2,h3⟩:=jhj h.2.2.2
  exact⟨p,q,x,y,h1,by rw[jhC,h2],by rw[jhC,h3]⟩
 | nil=>cases h.2.2.1
 | no=>cases h.2.2.1
 | leaf _ _=>cases h.2.2.1
 | ext _ _=>cases h.2.2.1
theorem jdf{a v:ByteArray}{p:List UInt8}{u:ByteArray}(h:getL (.leaf a v) p=some u):a.data.toList=p∧v=u:=by
 have h:(if a.data.toList=p then some v else none)=some u:=h
 by_cases e:a.data.toList=p
 ·rw[if_pos e]at h;exact⟨e,Option.some.inj h⟩
 ·rw[if_neg e]at h;cases h
theorem jjc{p q:List UInt8}(h:p.head?≠q.head?):p≠q:=fun e=>h (by rw[e])
theorem uniq:∀ (P Q:PA),CanP P→CanP Q→(∀ p,getL P p=getL Q p)→P=Q
 | .nil,_,h,_,_=>h.elim
 | .no,_,h,_,_=>h.elim
 | .leaf a v,Q,h,k,e=>by
  cases Q with
  | nil=>exact k.elim
  | no=>exact k.elim
  | leaf b u =>
   have h1:getL (.leaf b u) a.data.toList=some v:=by rw[←e];exact if_pos rfl
   obtain⟨h2,h3⟩:=jdf h1
   rw[jcK h2,h3]
  | ext b n =>
   obtain⟨p,q,x,y,h1,h2,h3⟩:=jlq k
   rw[←e]at h2 h3;exact absurd (List.append_cancel_left ((jdf h2).1.symm.trans (jdf h3).1)) (jjc h1)
  | br u ks =>
   obtain⟨p,q,x,y,h1,h2,h3⟩:=jhj k
   rw[←e]at h2 h3;exact absurd ((jdf h2).1.symm.trans (jdf h3).1) (jjc h1)
 | .ext a n,Q,h,k,e=>by
  obtain⟨p,q,x,y,h1,h2,h3⟩:=jlq h
  cases Q with
  | nil=>exact k.elim
  | no=>exact k.elim
  | leaf b u =>
   rw[e]at h2 h3;exact absurd (List.append_cancel_left ((jdf h2).1.symm.trans (jdf h3).1)) (jjc h1)
  | ext b m =>
   have g2:=h2;have g3:=h3;rw[e]at g2 g3;have hba:=jhV _ _ p q h1 (jev g2) (jev g3)
   obtain⟨p',q',x',y',k1,k2,k3⟩:=jlq k
   have f2:=k2;have f3:=k3;rw[←e]at f2 f3;have hab:=jhV _ _ p' q' k1 (jev f2) (jev f3);have eab:a.data.toList=b.data.toList:=hab.eq_of_length (Nat.le_antisymm hab.length_le hba.length_le);have eab:=jcK eab;subst eab;rw[uniq n m h.2.2.2 k.2.2.2 (fun t=>by rw[←jhC a n t, ←jhC a m t,e])]
  | br u ks =>
   exfalso
   obtain⟨p',q',x',y',k1,k2,k3⟩:=jhj k
   rw[←e]at k2 k3;have h9:=jhV [] _ p' q' k1 (by simpa using jev k2) (by simpa using jev k3);have h9:=List.prefix_nil.1 h9;apply h.1;rw[←jaR,h9];rfl
 | .br v ks,Q,h,k,e=>by
  cases Q with
  | nil=>exact k.elim
  | no=>exact k.elim
  | leaf b u =>
   obtain⟨p,q,x,y,h1,h2,h3⟩:=jhj h
   rw[e]at h2 h3;exact absurd ((jdf h2).1.symm.trans (jdf h3).1) (jjc h1)
  | ext b m =>
   exfalso
   obtain⟨p',q',x',y',k1,k2,k3⟩:=jhj h
   rw[e]at k2 k3;have h9:=jhV [] _ p' q' k1 (by simpa using jev k2) (by simpa using jev k3);have h9:=List.prefix_nil.1 h9;apply k.1;rw[←jaR,h9];rfl
  | br u js =>
   have ev:v=u:=by
    have e0:=e [];have e0:(if v.size=0 then none else some v)=if u.size=0 then none else some u:=e0
    by_cases hv:v.size=0
    ·by_cases hu:u.size=0
     ·rw[jbF hv,jbF hu]
     ·rw[if_pos hv,if_neg hu]at e0;cases e0
    ·by_cases hu:u.size=0
     ·rw[if_neg hv,if_pos hu]at e0;cases e0
     ·rw[if_neg hv,if_neg hu]at e0;exact Option.some.inj e0
   have ek:ks=js:=by
    funext i
    have hkid:i < 16→∀ t,getL (ks i) t=getL (js i) t:=by
     intro hi t
     have:=e (UInt8.ofNat i :: t)
     have:getL (ks (UInt8.ofNat i).toNat) t=getL (js (UInt8.ofNat i).toNat) t:=this
     rw[jge hi]at this;exact this
    cases h1:(ks i).isNil with
    | true =>
     cases h2:(js i).isNil with
     | true=>rw[jbA h1,jbA h2]
     | false =>
      obtain⟨t,z,hz⟩:=jeq (js i) (k.2.1 i h2)
      rw[←hkid (k.1 i h2),jbA h1]at hz;cases hz
    | false =>
     cases h2:(js i).isNil with
     | true =>
      obtain⟨t,z,hz⟩:=jeq (ks i) (h.2.1 i h1)
      rw[hkid (h.1 i h1),jbA h2]at hz;cases hz
     | false=>exact uniq (ks i) (js i) (h.2.1 i h1) (k.2.1 i h2) (hkid (h.1 i h1))
   rw[ev,ek]
def ja2:Nat→List Pair→PA
 | 0,_=>.no
 | f+1,l =>
  if l.length=0 then .no
  else if l.length=1 then .leaf (l.getD 0 pd).1 (l.getD 0 pd).2
  else if 0 < comK l then .ext ((l.getD 0 pd).1.extract 0 (comK l)) (ja2 f (jam (comK l) l))
  else .br (if (l.getD 0 pd).1.size=0 then (l.getD 0 pd).2 else ⟨#[]⟩) fun i=>if (cutL i l).length=0 then .nil else ja2 f (jam 1 (cutL i l))
theorem jec(f:Nat)(l:List Pair):ja2 (f+1) l =
  if l.length=0 then .no
  else if l.length=1 then .leaf (l.getD 0 pd).1 (l.getD 0 pd).2
  else if 0 < comK l then .ext ((l.getD 0 pd).1.extract 0 (comK l)) (ja2 f (jam (comK l) l))
  else .br (if (l.getD 0 pd).1.size=0 then (l.getD 0 pd).2 else ⟨#[]⟩) fun i=>if (cutL i l).length=0 then .nil else ja2 f (jam 1 (cutL i l)):=rfl
theorem jbV(f:Nat){l:List Pair}(h:l.length=0):ja2 (f+1) l=.no:=by rw[jec];rw[if_pos h]
theorem jb5(f:Nat){l:List Pair}(h:l.length=1):ja2 (f+1) l=.leaf (l.getD 0 pd).1 (l.getD 0 pd).2:=by rw[jec];rw[if_neg (by omega),if_pos h]
theorem jdB(f:Nat){l:List Pair}(h:2≤l.length)(hk:0 < comK l):ja2 (f+1) l=.ext ((l.getD 0 pd).1.extract 0 (comK l)) (ja2 f (jam (comK l) l)):=by
 rw[jec];rw[if_neg (by omega),if_neg (by omega),if_pos hk]
theorem jey(f:Nat){l:List Pair}(h:2≤l.length)(hk:¬ 0 < comK l):ja2 (f+1) l=.br (if (l.getD 0 pd).1.size=0 then (l.getD 0 pd).2 else ⟨#[]⟩) fun i=>if (cutL i l).length=0 then .nil else ja2 f (jam 1 (cutL i l)):=by
 rw[jec];rw[if_neg (by omega),if_neg (by omega),if_neg hk]
theorem jwg{f:Nat}{l:List Pair}(h:jaQ f l){i:Nat}(hi:(cutL i l).length≠0):i < 16:=by
 cases e:cutL i l with
 | nil=>rw[e]at hi;exact (hi rfl).elim
 | cons p r =>
  obtain⟨hp,a,t,h1,h2⟩:=jbH (show p∈cutL i l by rw[e];exact List.mem_cons_self)
  rw[←h2];exact jeW (h.size p hp).2.2.1 h1
theorem jjs:∀ (f:Nat) (l:List Pair),jaQ f l→∀ p:ByteArray,jaL p=true→getL (ja2 (f+1) l) p.data.toList=valL l p:=by
 intro f;induction f with
 | zero =>
  intro l h p hp;have hl:=jcf h
  by_cases h0:l.length=0
  ·rw[jbV _ h0,List.eq_nil_of_length_eq_zero h0];rfl
  ·have h1:l.length=1:=by omega
   rw[jb5 _ h1]
   obtain⟨q,rfl⟩:=List.length_eq_one_iff.1 h1
   show (if q.1.data.toList=p.data.toList then some q.2 else none)=if q.1=p then some q.2 else valL [] p
   by_cases e:q.1=p
   ·rw[if_pos e,if_pos (by rw[e])]
   ·rw[if_neg e,if_neg (fun h=>e (jcK h))];rfl
 | succ f ih =>
  intro l h p hp
  by_cases h0:l.length=0
  ·rw[jbV _ h0,List.eq_nil_of_length_eq_zero h0];rfl
  by_cases h1:l.length=1
  ·rw[jb5 _ h1]
   obtain⟨q,rfl⟩:=List.length_eq_one_iff.1 h1
   show (if q.1.data.toList=p.data.toList then some q.2 else none)=if q.1=p then some q.2 else valL [] p
   by_cases e:q.1=p
   ·rw[if_pos e,if_pos (by rw[e])]
   ·rw[if_neg e,if_neg (fun h=>e (jcK h))];rfl
  have h2:2≤l.length:=by omega
  have hhs:=jdO h h2
  by_cases hk:0 < comK l
  ·rw[jdB _ h2 hk]
   show (if ((l.getD 0 pd).1.extract 0 (comK l)).data.toList.isPrefixOf p.data.toList=true then getL (ja2 (f+1) (jam (comK l) l)) (p.data.toList.drop _)else none)=_;rw[jaR,hhs]
   by_cases hb:preB ((l.getD 0 pd).1.extract 0 (comK l)) p=true
   ·have hg:goL l p=some (jam (comK l) l,p.extract (comK l) p.size):=by unfold goL;rw[if_neg (by omega),if_pos hk,if_pos hb]
    have hK:=jpV h hp hg;have hb':((l.getD 0 pd).1.extract 0 (comK l)).data.toList.isPrefixOf p.data.toList=true:=hb;rw[if_pos hb', ←jdL,ih _ hK.rows _ hK.valid,hK.find]
   ·have hg:goL l p=none:=by unfold goL;rw[if_neg (by omega),if_pos hk,if_neg hb]
    have hK:=(jpU h hp hg).2;have hb':¬((l.getD 0 pd).1.extract 0 (comK l)).data.toList.isPrefixOf p.data.toList=true:=hb;rw[if_neg hb', ←hK];have e:jau (jad (f+1)) l=⟨2,(l.getD 0 pd).1.extract 0 (comK l),⟨#[]⟩,refB (jad (f+1) (jam (comK l) l)).text :: jax 15⟩:=by unfold jau;rw[if_neg h0,if_neg h1,if_pos hk]
    rw[e];rfl
  ·rw[jey _ h2 hk]
   cases hpl:p.data.toList with
   | nil =>
    have hg:goL l p=none:=by unfold goL;rw[if_neg (by omega),if_neg hk,hpl]
    have hK:=(jpU h hp hg).2;rw[←hK]
    obtain⟨rs,hrs⟩:∃ rs,rs=(List.range 16).map fun i=>if (cutL i l).length=0 then (⟨#[]⟩:ByteArray)else refB (jad (f+1) (jam 1 (cutL i l))).text:=⟨_,rfl⟩
    have e:jau (jad (f+1)) l=⟨3,⟨#[]⟩,if (l.getD 0 pd).1.size=0 then (l.getD 0 pd).2 else ⟨#[]⟩,rs⟩:=by rw[hrs];unfold jau;rw[if_neg h0,if_neg h1,if_neg hk]
    rw[e];have hps:p.size=0:=by rw[←jaR p,hpl];rfl
    obtain⟨va,hva⟩:∃ va,va=if (l.getD 0 pd).1.size=0 then (l.getD 0 pd).2 else ⟨#[]⟩:=⟨_,rfl⟩
    rw[←hva];show (if va.size=0 then none else some va)=if (3:Nat)=1 then _ else if (3:Nat)=3 then (if p.size=0∧va.size≠0 then some va else none)else none
    rw[if_neg (by decide:¬(3:Nat)=1),if_pos rfl]
    by_cases hz:va.size=0
    ·rw[if_pos hz,if_neg (fun h=>h.2 hz)]
    ·rw[if_neg hz,if_pos ⟨hps,hz⟩]
   | cons x t =>
    show getL (if (cutL x.toNat l).length=0 then .nil else ja2 (f+1) (jam 1 (cutL x.toNat l))) t=_
    by_cases hc:(cutL x.toNat l).length=0
    ·rw[if_pos hc]
     refine (jgk fun q hq e=>?_).symm;exact jfI hq (p:=q) (by show q.1.data.toList=x :: t;rw[e,hpl]) hc
    ·rw[if_neg hc]
     have hg:goL l p=some (jam 1 (cutL x.toNat l),p.extract 1 p.size):=by
      unfold goL;rw[if_neg (by omega),if_neg hk,hpl];show (if (cutL x.toNat l).length=0 then _ else _)=_;rw[if_neg hc]
     have hK:=jpV h hp hg;have e:t=(p.extract 1 p.size).data.toList:=by rw[jdL,hpl];rfl
     rw[e,ih _ hK.rows _ hK.valid,hK.find]
theorem jga{f:Nat}{l:List Pair}(h:jaQ (f+1) l){i:Nat}(hc:(cutL i l).length≠0):jaQ f (jam 1 (cutL i l))∧jam 1 (cutL i l)≠[]:=
 ⟨jei i h,fun e=>by have:=jaE 1 (cutL i l);rw[e]at this;simp at this;exact hc this.symm⟩
theorem jfO{f:Nat}{l:List Pair}(h:jaQ (f+1) l)(h2:2≤l.length)(hk:0 < comK l):jaQ f (jam (comK l) l)∧jam (comK l) l≠[]∧2≤(jam (comK l) l).length∧comK (jam (comK l) l)=0:=by
 have hcom:=jbY h h2
 exact⟨(jcF (comK l) h (fun p hp q hq=>(hcom p hp).1.trans (hcom q hq).1.symm) (fun p hp=>(hcom p hp).2)).mono (by omega),
  fun e=>by have:=jaE (comK l) l;rw[e]at this;simp at this;omega,by rw[jaE];exact h2,jfX (by omega)⟩
theorem jm3:∀ (f:Nat) (l:List Pair),jaQ f l→l≠[]→CanP (ja2 (f+1) l)∧(2≤l.length→comK l=0→(ja2 (f+1) l).isBr=true):=by
 intro f;induction f with
 | zero =>
  intro l h hn;have hl:=jcf h;have h1:l.length=1:=by have:=List.length_pos_iff.2 hn;omega
  have hs:=h.size _ (jdU (l:=l) (by omega));rw[jb5 _ h1]
  exact⟨⟨hs.2.2.1,by omega⟩,fun h2=>by omega⟩
 | succ f ih =>
  intro l h hn;have hpos:=List.length_pos_iff.2 hn
  by_cases h1:l.length=1
  ·have hs:=h.size _ (jdU (l:=l) (by omega))
   rw[jb5 _ h1]
   exact⟨⟨hs.2.2.1,by omega⟩,fun h2=>by omega⟩
  have h2:2≤l.length:=by omega
  have hs:=h.size _ (jdU (l:=l) (by omega))
  by_cases hk:0 < comK l
  ·obtain⟨k1,k2,k3,k4⟩:=jfO h h2 hk
   obtain⟨i1,i2⟩:=ih _ k1 k2
   rw[jdB _ h2 hk]
   exact⟨⟨by rw[jdO h h2];omega,jgR hs.2.2.1 _,i2 k3 k4,i1⟩,fun _ e=>by omega⟩
  ·rw[jey _ h2 hk]
   refine⟨⟨fun i hi=>?_,fun i hi=>?_,?_⟩,fun _ _=>rfl⟩
   ·by_cases hc:(cutL i l).length=0
    ·have hi:(if (cutL i l).length=0 then PA.nil else ja2 (f+1) (jam 1 (cutL i l))).isNil=false:=hi
     rw[if_pos hc]at hi;cases hi
    ·exact jwg h hc
   ·have hi:(if (cutL i l).length=0 then PA.nil else ja2 (f+1) (jam 1 (cutL i l))).isNil=false:=hi
    show CanP (if (cutL i l).length=0 then PA.nil else ja2 (f+1) (jam 1 (cutL i l)))
    by_cases hc:(cutL i l).length=0
    ·rw[if_pos hc]at hi;cases hi
    ·rw[if_neg hc]
     obtain⟨k1,k2⟩:=jga h hc
     exact (ih _ k1 k2).1
   ·obtain⟨a,ha⟩:∃ a,l[0]?=some a:=⟨_,List.getElem?_eq_getElem (by omega)⟩
    obtain⟨b,hb⟩:∃ b,l[l.length - 1]?=some b:=⟨_,List.getElem?_eq_getElem (by omega)⟩
    have ga:l.getD 0 pd=a:=by rw[List.getD_eq_getElem?_getD,ha];rfl
    have gb:l.getD (l.length - 1) pd=b:=by rw[List.getD_eq_getElem?_getD,hb];rfl
    have hlt:=jct h.rise (by omega) ha hb;have hcom:jbl a.l b.l=0:=by
     have:comK l=0:=by omega
     unfold comK at this;rw[ga,gb]at this;exact this
    have kid:∀ p∈l,∀ x t,p.l=x :: t→(if (cutL x.toNat l).length=0 then PA.nil else ja2 (f+1) (jam 1 (cutL x.toNat l))).isNil=false:=by
     intro p hp x t hx;have hc:=jfI hp hx;rw[if_neg hc]
     obtain⟨k1,k2⟩:=jga h hc
     exact jlr (ih _ k1 k2).1
    cases hbl:b.l with
    | nil=>rw[hbl]at hlt;exact absurd hlt (not_lt_nil _)
    | cons y s =>
     have kb:=kid b (List.mem_of_getElem? hb) y s hbl;cases hal:a.l with
     | nil =>
      right;rw[ga];have h0:a.1.size=0:=by rw[←jaR];show a.l.length=0;rw[hal];rfl
      rw[if_pos h0]
      have:=(h.size a (List.mem_of_getElem? ha)).2.2.2.1
      exact⟨by omega,y.toNat,kb⟩
     | cons x t =>
      left
      refine⟨x.toNat,y.toNat,fun e=>?_,kid a (List.mem_of_getElem? ha) x t hal,kb⟩
      have e:=UInt8.toNat_inj.1 e;rw[hal,hbl,e]at hcom;simp[jbl]at hcom
theorem jeR:∀ (P:PA),CanP P→∀ (p:List UInt8) (v:ByteArray),getL P p=some v→∀ x∈p,x.toNat < 16
 | .nil,h,_,_,_=>h.elim
 | .no,h,_,_,_=>h.elim
 | .leaf a v,h,p,u,e=>by
  obtain⟨rfl,_⟩:=jdf e
  exact jcr.1 h.1
 | .ext a n,h,p,u,e=>by
  obtain⟨r,rfl⟩:=jev e
  rw[jhC]at e;intro x hx;rcases List.mem_append.1 hx with hx | hx
  ·exact jcr.1 h.2.1 x hx
  ·exact jeR n h.2.2.2 r u e x hx
 | .br v ks,h,[],u,e=>fun x hx=>by cases hx
 | .br v ks,h,y :: t,u,e=>by
  have e:getL (ks y.toNat) t=some u:=e;have hn:(ks y.toNat).isNil=false:=by
   cases hb:(ks y.toNat).isNil with
   | false=>rfl
   | true=>rw[jbA hb]at e;cases e
  intro x hx;rcases List.mem_cons.1 hx with rfl | hx
  ·exact h.1 _ hn
  ·exact jeR (ks y.toNat) (h.2.1 _ hn) t u e x hx
theorem jqN{f:Nat}{l:List Pair}(h:jaQ f l){P:PA}(hP:P=.no∨CanP P)(hg:∀ p:ByteArray,jaL p=true→getL P p.data.toList=valL l p):P=ja2 (f+1) l:=by
 by_cases h0:l.length=0
 ·rw[jbV _ h0]
  rcases hP with e | hc
  ·exact e
  ·exfalso
   obtain⟨p,v,e⟩:=jeq P hc
   have hv:=jeR P hc p v e
   have:=hg ⟨p.toArray⟩ (jcr.2 (by simpa using hv))
   rw[List.eq_nil_of_length_eq_zero h0]at this;have e2:getL P (⟨p.toArray⟩:ByteArray).data.toList=some v:=by simpa using e
   rw[e2]at this;cases this
 ·have hn:l≠[]:=fun e=>h0 (by rw[e];rfl)
  obtain⟨hc,_⟩:=jm3 f l h hn
  rcases hP with rfl | hP
  ·exfalso
   obtain⟨p,v,e⟩:=jeq _ hc
   have hv:=jeR _ hc p v e;have h1:=jjs f l h ⟨p.toArray⟩ (jcr.2 (by simpa using hv));have e2:getL (ja2 (f+1) l) (⟨p.toArray⟩:ByteArray).data.toList=some v:=by simpa using e
   have h2:=hg ⟨p.toArray⟩ (jcr.2 (by simpa using hv));rw[e2]at h1;rw[←h1]at h2;cases h2
  ·refine uniq P _ hP hc fun p=>?_
   by_cases hv:∀ x∈p,x.toNat < 16
   ·have h1:=jjs f l h ⟨p.toArray⟩ (jcr.2 (by simpa using hv))
    have h2:=hg ⟨p.toArray⟩ (jcr.2 (by simpa using hv));have e:(⟨p.toArray⟩:ByteArray).data.toList=p:=by simp
    rw[e]at h1 h2;rw[h1,h2]
   ·have g:∀ Q:PA,CanP Q→getL Q p=none:=by
     intro Q hQ;cases e:getL Q p with
     | none=>rfl
     | some v=>exact absurd (jeR Q hQ p v e) hv
    rw[g P hP,g _ hc]
noncomputable def putN(n:jaf):ByteArray:=@ite _ (∃ d,jcz (InlD d) n) (Classical.propDecidable _) (ja5 n) ⟨#[]⟩
theorem jkV{d:Nat}{n:jaf}(h:jcz (InlD d) n):putN n=ja5 n:=if_pos ⟨d,h⟩
noncomputable def textP:PA→ByteArray
 | .nil=>⟨#[]⟩
 | .no=>putN jbb
 | .leaf q v=>putN ⟨1,q,v,jax 16⟩
 | .ext q n=>putN ⟨2,q,⟨#[]⟩,refB (textP n) :: jax 15⟩
 | .br v ks=>putN ⟨3,⟨#[]⟩,v,(List.range 16).map fun i=>if (ks i).isNil then ⟨#[]⟩else refB (textP (ks i))⟩
noncomputable def nodeP:PA→jaf
 | .nil=>jbb
 | .no=>jbb
 | .leaf q v=>⟨1,q,v,jax 16⟩
 | .ext q n=>⟨2,q,⟨#[]⟩,refB (textP n) :: jax 15⟩
 | .br v ks=>⟨3,⟨#[]⟩,v,(List.range 16).map fun i=>if (ks i).isNil then ⟨#[]⟩else refB (textP (ks i))⟩
noncomputable def underP:PA→List ByteArray
 | .nil=>[]
 | .no=>[]
 | .leaf _ _=>[]
 | .ext _ n=>bigs (textP n)++underP n
 | .br _ ks=>(List.range 16).flatMap fun i=>if (ks i).isNil then []else bigs (textP (ks i))++underP (ks i)
theorem jla{P:PA}(h:P.isNil=false):textP P=putN (nodeP P):=by cases P <;> first | rfl | cases h
theorem jdF{f:Nat}{l:List Pair}:(ja2 (f+1) l).isNil=false:=by
 rw[jec];split
 ·rfl
 ·split
  ·rfl
  ·split <;> rfl
theorem jgD{α:Type}(g:α→List PT):∀ L:List α,jaK (L.flatMap g)=L.flatMap fun i=>jaK (g i)
 | []=>rfl
 | x :: L=>by rw[List.flatMap_cons,jdz,jgD g L];rfl
theorem jfn:∀ (f:Nat) (l:List Pair),jaQ f l→nodeP (ja2 (f+1) l)=jau (jad f) l∧textP (ja2 (f+1) l)=(jad (f+1) l).text∧underP (ja2 (f+1) l)=jaK (jaw (jad f) l):=by
 intro f;have fin:∀ (f:Nat) (l:List Pair),jaQ f l→nodeP (ja2 (f+1) l)=jau (jad f) l→textP (ja2 (f+1) l)=(jad (f+1) l).text:=by
  intro f l hr h;rw[jla jdF,h,jkV (good f l hr).1];rfl
 induction f with
 | zero =>
  intro l h;have hl:=jcf h
  by_cases h0:l.length=0
  ·have e:nodeP (ja2 (0+1) l)=jau (jad 0) l:=by rw[jbV _ h0];unfold jau;rw[if_pos h0];rfl
   exact⟨e,fin 0 l h e,by rw[jbV _ h0];unfold jaw;rw[if_pos (by omega)];rfl⟩
  ·have h1:l.length=1:=by omega
   have e:nodeP (ja2 (0+1) l)=jau (jad 0) l:=by rw[jb5 _ h1];unfold jau;rw[if_neg h0,if_pos h1];rfl
   exact⟨e,fin 0 l h e,by rw[jb5 _ h1];unfold jaw;rw[if_pos (by omega)];rfl⟩
 | succ f ih =>
  intro l h;have kid:∀ m,jaQ f m→m≠[]→bigs (textP (ja2 (f+1) m))++underP (ja2 (f+1) m)=jaK (jbZ (jad (f+1) m)):=by
   intro m hm hne
   obtain⟨_,i2,i3⟩:=ih m hm
   have hst:=(good f m hm).2.1 hne;rw[i2,i3];unfold bigs jbZ
   by_cases hz:(jad (f+1) m).text.size < 32
   ·rw[if_pos hz,if_pos hz]
    have e:(jad (f+1) m).kids=[]:=hst.small hz;have e:jaw (jad f) m=[]:=e;rw[e];rfl
   ·rw[if_neg hz,if_neg hz]
    show _=jaI (jad (f+1) m)++[];rw[List.append_nil];rfl
  by_cases h0:l.length=0
  ·have e:nodeP (ja2 (f+1+1) l)=jau (jad (f+1)) l:=by rw[jbV _ h0];unfold jau;rw[if_pos h0];rfl
   exact⟨e,fin _ l h e,by rw[jbV _ h0];unfold jaw;rw[if_pos (by omega)];rfl⟩
  by_cases h1:l.length=1
  ·have e:nodeP (ja2 (f+1+1) l)=jau (jad (f+1)) l:=by rw[jb5 _ h1];unfold jau;rw[if_neg h0,if_pos h1];rfl
   exact⟨e,fin _ l h e,by rw[jb5 _ h1];unfold jaw;rw[if_pos (by omega)];rfl⟩
  have h2:2≤l.length:=by omega
  by_cases hk:0 < comK l
  ·obtain⟨k1,k2,_,_⟩:=jfO h h2 hk
   have e:nodeP (ja2 (f+1+1) l)=jau (jad (f+1)) l:=by
    rw[jdB _ h2 hk];unfold jau;rw[if_neg h0,if_neg h1,if_pos hk];show (⟨2,_,⟨#[]⟩,refB (textP (ja2 (f+1) (jam (comK l) l))) :: jax 15⟩:jaf)=_;rw[(ih _ k1).2.1]
   refine⟨e,fin _ l h e,?_⟩
   rw[jdB _ h2 hk];unfold jaw;rw[if_neg (by omega),if_pos hk];exact kid _ k1 k2
  ·have e:nodeP (ja2 (f+1+1) l)=jau (jad (f+1)) l:=by
    rw[jey _ h2 hk];unfold jau;rw[if_neg h0,if_neg h1,if_neg hk];show (⟨3,⟨#[]⟩,_,(List.range 16).map _⟩:jaf)=⟨3,⟨#[]⟩,_,(List.range 16).map _⟩
    congr 1
    refine List.map_congr_left fun i _=>?_;show (if (if (cutL i l).length=0 then PA.nil else ja2 (f+1) (jam 1 (cutL i l))).isNil=true then _ else refB (textP (if (cutL i l).length=0 then PA.nil else ja2 (f+1) (jam 1 (cutL i l)))))=_
    by_cases hc:(cutL i l).length=0
    ·rw[if_pos hc,if_pos hc];rfl
    ·obtain⟨k1,k2⟩:=jga h hc
     rw[if_neg hc,if_neg hc,jdF,if_neg ff,(ih _ k1).2.1]
   refine⟨e,fin _ l h e,?_⟩
   have eB:jaw (jad (f+1)) l=(List.range 16).flatMap fun i=>if (cutL i l).length=0 then []else jbZ (jad (f+1) (jam 1 (cutL i l))):=by unfold jaw;rw[if_neg (by omega),if_neg hk]
   rw[jey _ h2 hk,eB,jgD];show (List.range 16).flatMap _=_
   congr 1
   funext i
   show (if (if (cutL i l).length=0 then PA.nil else ja2 (f+1) (jam 1 (cutL i l))).isNil=true then _ else bigs (textP (if (cutL i l).length=0 then PA.nil else ja2 (f+1) (jam 1 (cutL i l))))++underP (if (cutL i l).length=0 then PA.nil else ja2 (f+1) (jam 1 (cutL i l))))=_
   by_cases hc:(cutL i l).length=0
   ·rw[if_pos hc,if_pos hc];rfl
   ·obtain⟨k1,k2⟩:=jga h hc
    rw[if_neg hc,if_neg hc,jdF,if_neg ff];exact kid _ k1 k2
def keyR(p v:ByteArray):List Pair:=if jcV p=true then [(jbq p,v)]else []
def entP:PA→ByteArray→List Pair
 | .nil,_=>[]
 | .no,_=>[]
 | .leaf q v,p=>keyR (p++q) v
 | .ext q n,p=>entP n (p++q)
 | .br v ks,p=>(if v.size=0 then []else keyR p v)++(List.range 16).flatMap fun i=>if (ks i).isNil then []else entP (ks i) (p++nib1 i)
theorem jkf(p a:ByteArray)(k:Nat)(l:List Pair)(h:∀ q∈l,p++q.1=(p++a)++q.1.extract k q.1.size):(jam k l).map (fun q=>(jbq ((p++a)++q.1),q.2))=l.map fun q=>(jbq (p++q.1),q.2):=by
 unfold jam;rw[List.map_map];refine List.map_congr_left fun q hq=>?_;show (jbq ((p++a)++q.1.extract k q.1.size),q.2)=_;rw[←h q hq]
theorem jqL:∀ (f:Nat) (l:List Pair),jaQ f l→∀ p:ByteArray,(∀ q∈l,jcV (p++q.1)=true)→entP (ja2 (f+1) l) p=l.map fun q=>(jbq (p++q.1),q.2):=by
 intro f;induction f with
 | zero =>
  intro l h p hp;have hl:=jcf h
  by_cases h0:l.length=0
  ·rw[jbV _ h0,List.eq_nil_of_length_eq_zero h0];rfl
  ·have h1:l.length=1:=by omega
   rw[jb5 _ h1]
   obtain⟨q,rfl⟩:=List.length_eq_one_iff.1 h1
   show keyR (p++q.1) q.2=[(jbq (p++q.1),q.2)];unfold keyR;rw[if_pos (hp q List.mem_cons_self)]
 | succ f ih =>
  intro l h p hp
  by_cases h0:l.length=0
  ·rw[jbV _ h0,List.eq_nil_of_length_eq_zero h0];rfl
  by_cases h1:l.length=1
  ·rw[jb5 _ h1]
   obtain⟨q,rfl⟩:=List.length_eq_one_iff.1 h1
   show keyR (p++q.1) q.2=[(jbq (p++q.1),q.2)];unfold keyR;rw[if_pos (hp q List.mem_cons_self)]
  have h2:2≤l.length:=by omega
  by_cases hk:0 < comK l
  ·obtain⟨k1,k2,_,_⟩:=jfO h h2 hk
   have hcom:=jbY h h2;rw[jdB _ h2 hk];show entP (ja2 (f+1) (jam (comK l) l)) (p++(l.getD 0 pd).1.extract 0 (comK l))=_;have hap:∀ q∈l,p++q.1=(p++(l.getD 0 pd).1.extract 0 (comK l))++q.1.extract (comK l) q.1.size:=fun q hq=>jo6 (by rw[(hcom q hq).1,jhL]);rw[ih _ k1 _ (fun q hq=>?_),jkf p _ _ l hap]
   obtain⟨r,hr,rfl⟩:=List.mem_map.1 hq
   show jcV ((p++(l.getD 0 pd).1.extract 0 (comK l))++r.1.extract (comK l) r.1.size)=true;rw[←hap r hr];exact hp r hr
  ·rw[jey _ h2 hk]
   have hne:l≠[]:=fun e=>h0 (by rw[e];rfl);have hsp:=jiJ h;have hem:=jir h hne;have e1:(if (if (l.getD 0 pd).1.size=0 then (l.getD 0 pd).2 else ⟨#[]⟩:ByteArray).size=0 then []else keyR p (if (l.getD 0 pd).1.size=0 then (l.getD 0 pd).2 else ⟨#[]⟩))=(jpI l).map fun q=>(jbq (p++q.1),q.2):=by
    rw[hem]
    by_cases hz:(l.getD 0 pd).1.size=0
    ·have hm:=jdU (l:=l) (by omega)
     have hs:=h.size _ hm;rw[if_pos hz,if_pos hz,if_neg (by omega)];have e0:p++(l.getD 0 pd).1=p:=by rw[jbF hz];exact jcK (by rw[jjW];simp)
     show keyR p _=[(jbq (p++(l.getD 0 pd).1),(l.getD 0 pd).2)];have hkk:=hp _ hm;rw[e0]at hkk ⊢;unfold keyR;rw[if_pos hkk]
    ·rw[if_neg hz,if_neg hz];rfl
   show (if (if (l.getD 0 pd).1.size=0 then (l.getD 0 pd).2 else ⟨#[]⟩:ByteArray).size=0 then []else keyR p (if (l.getD 0 pd).1.size=0 then (l.getD 0 pd).2 else ⟨#[]⟩))++(List.range 16).flatMap _=l.map _;rw[e1]
   conv=>rhs;rw[hsp]
   rw[List.map_append,List.map_flatMap]
   congr 1
   congr 1
   funext i
   show (if (if (cutL i l).length=0 then PA.nil else ja2 (f+1) (jam 1 (cutL i l))).isNil=true then []else entP (if (cutL i l).length=0 then PA.nil else ja2 (f+1) (jam 1 (cutL i l))) (p++nib1 i))=_
   by_cases hc:(cutL i l).length=0
   ·rw[if_pos hc,List.eq_nil_of_length_eq_zero hc];rfl
   ·obtain⟨k1,k2⟩:=jga h hc
    rw[if_neg hc,jdF,if_neg ff];have hap:∀ q∈cutL i l,p++q.1=(p++nib1 i)++q.1.extract 1 q.1.size:=fun q hq=>by
     obtain⟨_,a,r,e,ha⟩:=jbH hq
     exact jlm (k:=0) e ha
    rw[ih _ k1 _ (fun q hq=>?_),jkf p _ _ _ hap]
    obtain⟨r,hr,rfl⟩:=List.mem_map.1 hq
    show jcV ((p++nib1 i)++r.1.extract 1 r.1.size)=true;rw[←hap r hr];exact hp r (jbH hr).1
end
section
open Go Go.RowKit
attribute [local go_sem] Oper.semAt_some
theorem jv8(W:World)(s bm:Nat)(room:Int)(S:List Nd5)(hs:jas W s bm room S)(u:Value)(k:ByteArray)(hH:atL S k.data.toList=none) :
  Calls Tryz.prog 108 #[.pointer (some ⟨s,0,none⟩),.string k,u] W fun e w'=>e=.returned (.tuple #[jbb.V,.bool false])∧Ext W w':=by
 have hsg:=fun w (h:jas w s bm room S)=>jh2 w s bm room S k h;rw[hH]at hsg;simp only[Option.map_none,optV]at hsg;have HSG:=Hd hsg;have HS:=Hd hs;clear hsg hs hH;go_enter Tryz.func108,Tryz.ntmps108;go_wp2_with (refine jaq Tryz.allocNode rfl rfl ?_;intro W1 hB1 hE1)
 refine (HSG.o W1 (HS.o.ext hE1)).mono ?_;rintro e w3 ⟨rfl,hE⟩;have hB3:=hB1.keeps hE (fun h=>h);have HE3:=Hd (hE1.trans hE);clear hE hB1 hE1;go_wp2_with (refine jaj (vs:=jbb.cells) rfl rfl rfl rfl hB3 rfl Tryz.szNode jbb.one ?_;intro W8 hB8 hE8)
 refine bodyPost_ret (jaF rfl rfl rfl (jaN W8 _ jbb rfl hB8)) rfl ?_
 exact⟨rfl,HE3.o.trans' hE8 (fun x hx e=>by have e:x=W.heap.size:=e;omega)⟩
end
end Go.Proofs.YtpaacnhboilkkaaGreatDoor
