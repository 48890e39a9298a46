/- Lemmas. -/
import Derived.Test.YtgmmpefjadjajaaGreatDoorPa0
import Derived.RangeFuncWrites
import Derived.Lib.Hide
namespace Go.Proofs.YtgmmpefjadjajaaGreatDoor
set_option linter.unusedSimpArgs false
set_option linter.unusedVariables false
set_option maxRecDepth 100000
set_option maxHeartbeats 16000000
open Go Go.RowKit
section
abbrev Bd:=Nat->Prop
structure Ad(F:Bd)(w w':World):Prop where
 os:w'.os=w.os
 tape:w'.tape=w.tape
 output:w'.output=w.output
 size:(w:Nat)<=↑w'
 block:∀ b,b<(w:Nat)->¬ F b->w'.heap[b]?=w.heap[b]?
theorem Ad.refl(F:Bd)(w:vW):Ad F w w:=⟨rfl,rfl,rfl,bO _,λ_ _ _=>rfl⟩
theorem Ad.O{F G:Bd}{a b c:vW}(h:Ad F a b)(k:Ad G b c)(hG:∀ x,x<(a:Nat)->G x->F x):Ad F a c:=
 ⟨k.os.trans h.os,k.tape.trans h.tape,k.output.trans h.output,bH h.size k.size,
  λx e q=>(k.block x (bE e h.size) λg=>q (hG x e g)).trans (h.block x e q)⟩
theorem Ad.trans{F:Bd}{a b c:vW}(h:Ad F a b)(k:Ad F b c):Ad F a c:=h.O k λ_ _ g=>g
theorem Ad.mono{F G:Bd}{a b:vW}(h:Ad F a b)(hG:∀ x,x<(a:Nat)->F x->G x):Ad G a b:=
 (Ad.refl G a).O h hG
theorem Ad.alloc{F:Bd}{a b:vW}(h:Ad F a b)(o:Obj):Ad F a (b.alloc o):=
 h.O (G:=λ_=>False) ⟨rfl,rfl,rfl,by simp,λx e _=>Below.heap_alloc _ _ _ e⟩ kZ
theorem Ad.drew{F:Bd}{a b:vW}(h:Ad F a b):Ad F a b.drew:=⟨h.os,h.tape,h.output,h.size,h.block⟩
theorem Ad.setCell{F:Bd}{a b:vW}(h:Ad F a b){p:Addr}(hp:F p.block\/(a:Nat)<=p.block)(u:vV):Ad F a (b.setCell p u):=
 h.O (G:=λx=>x=p.block) ⟨rfl,rfl,rfl,by simp[World.setCell],λx _ e=>Below.heap_setCell _ _ _ _ e⟩ (λx e g=>by
  subst g;rcases hp with hp|hp
  ·exact hp
  ·omega)
theorem Ad.putObj{F:Bd}{a b:vW}(h:Ad F a b){r:Nat}(hp:F r\/(a:Nat)<=r)(o:Obj):Ad F a (b.putObj r o):=
 h.O (G:=λx=>x=r) ⟨rfl,rfl,rfl,by simp,λx _ e=>World.putObj_heap_other e⟩ (λx e g=>by
  subst g;rcases hp with hp|hp
  ·exact hp
  ·omega)
theorem Ad.z7(w:vW)(r:Nat)(o:Obj):Ad (λb=>b=r) w (w.putObj r o):=(Ad.refl (λb=>b=r) w).putObj (r:=r) (.inl (Eq.refl r)) o
theorem Ad.z4(w:vW)(p:Addr)(u:vV):Ad (λb=>b=p.block) w (w.setCell p u):=(Ad.refl (λb=>b=p.block) w).setCell (p:=p) (.inl (Eq.refl p.block)) u
theorem Ad.of_below{F:Bd}{a b:vW}(h:Below a a b):Ad F a b:=
 ⟨h.os,h.tape,h.output,h.size,λx e _=>h.block x e⟩
theorem Ad.y3{F:Bd}{a b:vW}{row:Option Nat}(h:a.grownBy b row)(hr:∀ r,row=some r->r<(a:Nat)->F r):Ad F a b:=
 ⟨h.os,h.tape,h.output,h.size,λx q A=>h.block x q λe=>A (hr x e.symm q)⟩
abbrev Af(w w':vW):Prop:=Ad (λ_=>False) w w'
def vR(f:FuncId)(a:Array vV)(w:vW)(v:vV):Prop:=vQ f a w λe w'=>e=.returned v/\Af w w'
def Ae(w:vW)(b:Nat)(o:Obj):Prop:=w.heap[b]?=some o
theorem Ae.lt{w:vW}{b:Nat}{o:Obj}(h:Ae w b o):b<(w:Nat):=(dD.1 h).1
theorem Ae.cell{w:vW}{b i:Nat}{c:Array vV}{T:TypeId}{fz:Nat × Nat}{v:vV}(h:Ae w b (.cells c T fz))(hi:c[i]?=some v):w.cell? ⟨b,i,none⟩=some v:=by
 simp[World.cell?,show w.heap[b]?=_ from h,hi]
theorem Ae.frozen{w:vW}{b i:Nat}{c:Array vV}{T:TypeId}(h:Ae w b (.cells c T (0,0))):w.frozen? ⟨b,i,none⟩=false:=by
 simp[World.frozen?,show w.heap[b]?=_ from h]
theorem Ae.new(w:vW)(o:Obj):Ae (w.alloc o) w o:=World.alloc_heap_new w o
theorem Ae.alloc{w:vW}{b:Nat}{o:Obj}(h:Ae w b o)(o':Obj):Ae (w.alloc o') b o:=(Below.heap_alloc w o' b h.lt).trans h
theorem Ae.drew{w:vW}{b:Nat}{o:Obj}(h:Ae w b o):Ae w.drew b o:=h
theorem Ae.Z{F:Bd}{w w':vW}{b:Nat}{o:Obj}(h:Ae w b o)(k:Ad F w w')(hF:¬ F b):Ae w' b o:=(k.block b h.lt hF).trans h
theorem Ae.z6{w:vW}{b:Nat}{o:Obj}(h:Ae w b o){p:Addr}(hp:b≠p.block)(u:vV):Ae (w.setCell p u) b o:=(Below.heap_setCell w p u b hp).trans h
theorem Ae.z2{w:vW}{b i:Nat}{c:Array vV}{T:TypeId}{fz:Nat × Nat}(h:Ae w b (.cells c T fz))(u:vV):Ae (w.setCell ⟨b,i,none⟩ u) b (.cells (c.setIfInBounds i u) T fz):=by
 simp only[Ae,World.setCell,Array.getElem?_modify];simp[show w.heap[b]?=_ from h]
theorem Ae.z5{w:vW}{b r:Nat}{o:Obj}(h:Ae w b o)(hr:b≠r)(o':Obj):Ae (w.putObj r o') b o:=(World.putObj_heap_other hr).trans h
theorem Ae.put_same{w:vW}{b:Nat}{o:Obj}(h:Ae w b o)(o':Obj):Ae (w.putObj b o') b o':=World.putObj_heap_same h.lt
theorem Ae.uniq{w:vW}{b:Nat}{o o':Obj}(h:Ae w b o)(h':Ae w b o'):o=o':=by
 have e:w.heap[b]?=some o:=h;rw[show w.heap[b]?=some o' from h']at e;simpa using e.symm
theorem Ae.setCells{b:Nat}{T:TypeId}{fz:Nat × Nat}:∀ (vs:List vV) (o:Nat) (w:vW) (c:List vV),Ae w b (.cells c.toArray T fz)->o+vs.length<=c.length ->
  Ae (w.setCells b o vs) b (.cells (c.take o++vs++c.drop (o+vs.length)).toArray T fz)
 |[],o,w,c,h,_=>by simpa [World.setCells]using h
 |v::r,o,w,c,h,hl=>by
  simp only[bQ]at hl;have e:=h.z2 (i:=o) v;have A:(c.toArray.setIfInBounds o v)=(c.set o v).toArray:=by simp
  rw[A]at e;have q:=Ae.setCells r (o+1) _ _ e zd;simp only[World.setCells];have H:(c.set o v).take (o+1)=c.take o++[v]:=by
   rw[cP zd,List.take_set_of_le (bO o)]
   simp
  have K:(c.set o v).drop (o+1+r.length)=c.drop (o+(v::r).length):=by
   rw[List.drop_set_of_lt vO]
   congr 1;simp;omega
  rw[H,K]at q;simpa using q
theorem Ad.z9(b:Nat):∀ (vs:List vV) (o:Nat) (w:vW),Ad (λx=>x=b) w (w.setCells b o vs)
 |[],_,w=>Ad.refl _ w
 |v::r,o,w=>(Ad.z4 w ⟨b,o,none⟩ v).trans (Ad.z9 b r (o+1) _)
theorem Ae.z1{w:vW}{b i:Nat}{c:List vV}{T:TypeId}{fz:Nat × Nat}{v:vV}(h:Ae w b (.cells c.toArray T fz))(hi:c[i]?=some v):w.cell? ⟨b,i,none⟩=some v:=
 h.cell (by simpa using hi)
theorem Qj{α β:Type}{f:α->β}:∀ {l:List α},(l.map f).Nodup->∀ {x y:α},x∈l->y∈l->f x=f y->x=y
 |[],_,_,_,hx,_,_=>by cases hx
 |z::r,h,x,y,hx,hy,e=>by
  simp only[bP,dL]at h;rcases bU.1 hx with hx1|hx1
  ·rcases bU.1 hy with hy1|hy1
   ·rw[hx1,hy1]
   ·exact absurd (bC.2 ⟨y,hy1,by rw[<-e,hx1]⟩) h.1
  ·rcases bU.1 hy with hy1|hy1
   ·exact absurd (bC.2 ⟨x,hx1,by rw[e,hy1]⟩) h.1
   ·exact Qj h.2 hx1 hy1 e
theorem k_{α:Type}[BEq α][LawfulBEq α]{l m:List α}(hl:l.Nodup)(hm:m.Nodup)(h:∀ a,a∈l↔a∈m):l.Perm m:=by
 rw[List.perm_iff_count];intro a;have q:=List.nodup_iff_count.1 hl a;have A:=List.nodup_iff_count.1 hm a
 by_cases ha:a∈l
 ·have:=gB.2 ha;have:=gB.2 ((h a).1 ha);omega
 ·rw[List.count_eq_zero.2 ha,List.count_eq_zero.2 λe=>ha ((h a).2 e)]
section maps
structure Fy(P:Program)(kt:TypeId)(K:Type)[DecidableEq K] where
 κ:K->vV
 desc:TypeDesc
 und:P.underlying kt=some desc
 same:∀ a b,Instr.sameNow desc (κ a) (κ b)=some (decide (a=b))
 check:∀ e a w,(Instr.checkKey e 10000 kt (κ a)).run P w=.ok () w
 bits:∀ a,Instr.sameBits 10000 (κ a) (κ a)=true
variable {P:Program} {kt:TypeId} {K:Type} [DecidableEq K]
abbrev Ce(K:Type):=K × vV × Nat
def Fy.y1(E:Fy P kt K)(x:Ce K):MapEntry:={ key:=E.κ x.1,val:=x.2.1,born:=x.2.2 }
def Fy.arr(E:Fy P kt K)(l:List (Ce K)):Array MapEntry:=(l.map E.y1).toArray
def Cp(l:List (Ce K))(k:K):Option vV:=(l.find? λx=>decide (k=x.1)).map (·.2.1)
def Iv(l:List (Ce K))(k:K)(v:vV)(n:Nat):List (Ce K):=
 match l with
 |[]=>[(k,v,n)]
 |x::r=>if k=x.1 then (k,v,x.2.2)::r else x::Iv r k v n
def Kb(l:List (Ce K))(k:K):List (Ce K):=
 match l with
 |[]=>[]
 |x::r=>if k=x.1 then r else x::Kb r k
theorem Fy.findNow(E:Fy P kt K)(k:K):∀ (l:List (Ce K)) (i:Nat),
  Instr.findNow E.desc (E.κ k) (l.map E.y1) i=some ((l.findIdx? λx=>decide (k=x.1)).bind λj=>(l[j]?).map λx=>(i+j,x.2.1))
 |[],i=>rfl
 |x::r,i=>by
  simp only[bP,Instr.findNow,Fy.y1,E.same,iC]
  by_cases h:k=x.1
  ·simp[h]
  ·simp only[h,decide_false,Fy.findNow E k r (i+1)]
   cases hj:r.findIdx? (λx=>decide (k=x.1))with
   |none=>simp
   |some j=>simp[Nat.add_assoc,jE 1 j]
theorem SV(E:Fy P kt K)(k:K)(l:List (Ce K))(w:vW):(Instr.findKey kt (E.κ k) (E.arr l).toList).run P w=.ok ((l.findIdx? λx=>decide (k=x.1)).bind λj=>(l[j]?).map λx=>(j,x.2.1)) w:=by
 simp[Instr.findKey,Fy.arr,bS,Result.andThen,run_underlying E.und,E.findNow k l 0]
theorem aX(l:List (Ce K))(k:K):Cp l k=(l.findIdx? λx=>decide (k=x.1)).bind λj=>(l[j]?).map (·.2.1):=by
 induction l with
 |nil=>rfl
 |cons x r ih =>simp only[Cp,fQ,iC];by_cases h:k=x.1;{simp[h]};simp only[h,decide_false];simp only[Cp]at ih;rw[ih];cases r.findIdx? (λx=>decide (k=x.1))<;>simp
theorem Wx(E:Fy P kt K){t e:TypeId}(ht:P.underlying t=some (.map kt e)){w:vW}{b:Nat}{l:List (Ce K)}{clock:Nat}
  (hb:Ae w b (.map (E.arr l) clock)) {z:vV} (hz:(zeroValue e).run P w=.ok z w) (k:K) (ok:Bool) :
  (Instr.lookup t (.map (some b)) (E.κ k) ok).run P w=.ok (if ok then .tuple #[(Cp l k).getD z,.bool (Cp l k).isSome]else (Cp l k).getD z) w:=by
 have H:(getObj b).run P w=.ok (.map (E.arr l) clock) w:=by simp[getObj,Sem.run,show w.heap[b]?=_ from hb]
 have q:=SV E k l w;simp only[Instr.lookup,bS,Result.andThen,run_underlying ht,H,E.check,q];rw[aX];cases hj:l.findIdx? (λx=>decide (k=x.1))with
 |none=>rw[hj]at q;cases ok<;>simp[bS,Result.andThen,hz,q]
 |some j =>obtain⟨A,_⟩:=gC.1 hj;rw[hj]at q;cases ok<;>simp[bS,Result.andThen,A,q]
theorem Fy.modify(E:Fy P kt K)(k:K)(v:vV)(n:Nat):∀ (l:List (Ce K)) (j:Nat),l.findIdx? (λx=>decide (k=x.1))=some j ->
  ((l.map E.y1).toArray.modify j λe=>{ e with key:=E.κ k,val:=v })=E.arr (Iv l k v n)
 |[],j,h=>by simp at h
 |x::r,j,h=>by
  rw[iC]at h
  by_cases hk:k=x.1
  ·simp only[hk,decide_true,if_true,Option.some.injEq]at h
   subst h;simp[Fy.arr,Iv,hk,Fy.y1,List.modify_toArray]
  ·simp only[hk,decide_false,cH,if_false,dH]at h
   obtain⟨i,q,rfl⟩:=h
   have:=Fy.modify E k v n r i q
   simp only[Fy.arr,List.modify_toArray]at this;simp only[Fy.arr,Iv,hk,if_false,bP,List.modify_toArray,List.modify_succ_cons];simpa using this
theorem Yq(E:Fy P kt K){t e:TypeId}(ht:P.underlying t=some (.map kt e)){w:vW}{b:Nat}{l:List (Ce K)}{clock:Nat}
  (hb:Ae w b (.map (E.arr l) clock)) (k:K) (v:vV) :
  (Instr.mapUpdate t (.map (some b)) (E.κ k) v).run P w=.ok () (w.putObj b (.map (E.arr (Iv l k v clock)) (if (Cp l k).isSome then clock else clock+1))):=by
 have hg:(getObj b).run P w=.ok (.map (E.arr l) clock) w:=by simp[getObj,Sem.run,show w.heap[b]?=_ from hb]
 have H:∀ o,(setObj b o).run P w=.ok () (w.putObj b o):=by intro o;simp[setObj,Sem.run,show w.heap[b]?=_ from hb,World.putObj]
 have hf:=SV E k l w;simp only[Instr.mapUpdate,bS,Result.andThen,run_underlying ht,hg,E.check,hf];rw[aX];cases hj:l.findIdx? (λx=>decide (k=x.1))with
 |none =>(have hp:(E.arr l).push { key:=E.κ k,val:=v,born:=clock }=E.arr (Iv l k v clock):=by(have:∀ l:List (Ce K),l.findIdx? (λx=>decide (k=x.1))=none->Iv l k v clock=l++[(k,v,clock)]:=by intro l;induction l with| nil=>intro _;rfl| cons x r ih =>intro h;rw[iC]at h;by_cases hk:k=x.1;{simp[hk]at h};simp only[hk,decide_false,cH,if_false,Option.map_eq_none_iff]at h;simp[Iv,hk,ih h]);rw[this l hj];simp[Fy.arr,Fy.y1]);simp[H,hp]
 |some j =>obtain⟨q,O,_⟩:=gC.1 hj;(have X:k=l[j].1:=by simpa using O);(have Z:=Fy.modify E k v clock l j hj;have A:(((E.arr l)[j]?).map (·.key)).getD (E.κ k)=E.κ k:=by simp[Fy.arr,q,Fy.y1, <-X]);simp only[Option.bind_some,bB q,fP,Option.isSome_some,if_true];simp only[bS,Result.andThen,A,Instr.keyThatStays,E.bits,if_true];simp only[Fy.arr]at Z H ⊢;rw[<-Z];simp[Sem.run,H]
theorem TB(E:Fy P kt K){t e:TypeId}(ht:P.underlying t=some (.map kt e)){w:vW}{b:Nat}{l:List (Ce K)}{clock:Nat}
  (hb:Ae w b (.map (E.arr l) clock)) (k:K) (kt' r:TypeId) :
  (Builtin.delete_ #[t,kt'] r #[.map (some b),E.κ k]).run P w=.ok (.tuple #[]) (w.putObj b (.map (E.arr (Kb l k)) clock)):=by
 have H:(getObj b).run P w=.ok (.map (E.arr l) clock) w:=by simp[getObj,Sem.run,show w.heap[b]?=_ from hb]
 have A:∀ o,(setObj b o).run P w=.ok () (w.putObj b o):=by intro o;simp[setObj,Sem.run,show w.heap[b]?=_ from hb,World.putObj]
 have O:=SV E k l w;have X:∀ l:List (Ce K),l.findIdx? (λx=>decide (k=x.1))=none->Kb l k=l:=by intro l;induction l with| nil=>intro _;rfl| cons x r ih =>intro h;rw[iC]at h;by_cases hk:k=x.1;{simp[hk]at h};simp only[hk,decide_false,cH,if_false,Option.map_eq_none_iff]at h;simp[Kb,hk,ih h]
 have Z:∀ (l:List (Ce K)) (j:Nat),l.findIdx? (λx=>decide (k=x.1))=some j->l.eraseIdx j=Kb l k:=by intro l;induction l with| nil=>intro j h;simp at h| cons x r ih =>intro j h;rw[iC]at h;by_cases hk:k=x.1;{simp only[hk,decide_true,if_true,Option.some.injEq]at h;subst h;simp[Kb,hk]};simp only[hk,decide_false,cH,if_false,dH]at h;obtain⟨i,hi,rfl⟩:=h;simp[Kb,hk,ih i hi]
 simp only[Builtin.delete_,bS,Result.andThen,run_underlying ht,List.getElem?_toArray,List.getElem?_cons_zero,List.getElem?_cons_succ,H,E.check,O];cases hj:l.findIdx? (λx=>decide (k=x.1))with
 |none=>simp[A,X l hj,Sem.run,bS,Result.andThen]
 |some j =>obtain⟨q,_⟩:=gC.1 hj;(have he:(E.arr l).eraseIdxIfInBounds j=E.arr (Kb l k):=by(rw[<-Z l j hj];have hm:∀ (l:List (Ce K)) (j:Nat),(l.map E.y1).eraseIdx j=(l.eraseIdx j).map E.y1:=by intro l;induction l with| nil=>intro j;rfl| cons x r ih=>intro j;cases j with| zero=>rfl| succ j=>simp[ih j]);simp[Fy.arr,Array.eraseIdxIfInBounds,q,hm]);simp[q,A,he,Sem.run,bS,Result.andThen]
theorem SP(E:Fy P kt K){t e:TypeId}(ht:P.underlying t=some (.map kt e)){w:vW}{b:Nat}{l:List (Ce K)}{clock:Nat}(hb:Ae w b (.map (E.arr l) clock))(r:TypeId):(Builtin.len_ #[t] r #[.map (some b)]).run P w=.ok (.int .i64 l.length) w:=by
 have q:(getObj b).run P w=.ok (.map (E.arr l) clock) w:=by simp[getObj,Sem.run,show w.heap[b]?=_ from hb]
 simp[Builtin.len_,bS,Result.andThen,run_underlying ht,q,Fy.arr,goInt]
def Fq(l:List (Ce K))(seen:Array Nat):List (Ce K):=l.filter λx => !seen.contains x.2.2
theorem UL(E:Fy P kt K){t e:TypeId}(ht:P.underlying t=some (.map kt e)){w:vW}{b:Nat}{l:List (Ce K)}{clock:Nat}(hb:Ae w b (.map (E.arr l) clock)):(Instr.range t (.map (some b))).run P w=.ok w (w.alloc (.mapIter (some b) clock #[] clock)):=by
 have q:(getObj b).run P w=.ok (.map (E.arr l) clock) w:=by simp[getObj,Sem.run,show w.heap[b]?=_ from hb]
 simp[Instr.range,bS,Result.andThen,run_underlying ht,q]
theorem UQ(E:Fy P kt K){w:vW}{b r:Nat}{l:List (Ce K)}{clock:Nat}{seen:Array Nat}(hb:Ae w b (.map (E.arr l) clock))
  (hr:Ae w r (.mapIter (some b) clock seen clock)) (hlt:∀ x∈l,x.2.2<clock) (T:TypeId) :
  (Fq l seen=[]/\(Instr.next r false T).run P w=.ok (.tuple #[false]) w) \/
  (∃ x∈Fq l seen,∃ w',(Instr.next r false T).run P w=.ok (.tuple #[true,E.κ x.1,x.2.1]) w' /\
   Ae w' r (.mapIter (some b) clock (seen.push x.2.2) clock)/\Ad (λz=>z=r) w w'):=by
 have hg:∀ w0,Ae w0 b (.map (E.arr l) clock)->(getObj b).run P w0=.ok (.map (E.arr l) clock) w0:=λw0 hb=>by simp[getObj,Sem.run,show w0.heap[b]?=_ from hb]
 have a0:(getObj r).run P w=.ok (.mapIter (some b) clock seen clock) w:=by simp[getObj,Sem.run,show w.heap[r]?=_ from hr]
 have A:(!seen.isEmpty&&!(E.arr l).isEmpty&&(E.arr l).all λx=>decide (x.born ≥ clock))=false:=by cases l with| nil=>simp[Fy.arr]| cons x rest =>have:=hlt x (bN ..);(have h2:(E.arr (x::rest)).all (λx=>decide (x.born ≥ clock))=false:=by rw[dK];intro hc;rw[Array.all_eq_true_iff_forall_mem]at hc;have:=hc (E.y1 x) (by simp[Fy.arr]);simp[Fy.y1]at this;omega);rw[h2];simp
 have q:(E.arr l).filter (λe => !seen.contains e.born)=E.arr (Fq l seen):=by simp only[Fy.arr,Fq,List.filter_toArray,List.filter_map];rfl
 have H:(E.arr (Fq l seen)).filter (λx=>decide (x.born<clock))=E.arr (Fq l seen):=by simp only[Fy.arr,List.filter_toArray,List.filter_map];congr 2;rw[fN];intro x hx;have:x∈l:=(cE.1 hx).1;exact decide_eq_true (hlt x this)
 have O:(E.arr (Fq l seen)).filter (λx=>decide (x.born ≥ clock))=#[]:=by simp only[Fy.arr,List.filter_toArray,List.filter_map];(have:(Fq l seen).filter ((λx=>decide (x.born ≥ clock)) ∘ E.y1)=[]:=by rw[List.filter_eq_nil_iff];intro x hx;have h1:x∈l:=(cE.1 hx).1;have h2:=hlt x h1;show ¬ decide (x.2.2 ≥ clock)=true;simp only[ge_iff_le,decide_eq_true_eq];omega);rw[this];rfl
 by_cases h0:Fq l seen=[]
 ·left;refine⟨h0,?_⟩;simp only[Instr.next,bS,Result.andThen,a0,hg w hb,A,cH,if_false,q,H,O,h0];simp[Fy.arr,choose,Sem.run,Question.forced,bS,Result.andThen]
 ·right;(have hs:∀ w0 o,Ae w0 r (.mapIter (some b) clock seen clock)->(setObj r o).run P w0=.ok () (w0.putObj r o):=by intro w0 o h;simp[setObj,Sem.run,show w0.heap[r]?=_ from h,World.putObj]);(have a2:(E.arr (Fq l seen)).isEmpty=false:=by simp only[Fy.arr,List.isEmpty_toArray,List.isEmpty_map];cases hh:Fq l seen with| nil=>exact absurd hh h0| cons _ _=>rfl);(have X:0<(Fq l seen).length:=gG.2 h0;have Z:∀ (i:Nat) (hi:i<(Fq l seen).length) (w0:vW),Ae w0 r (.mapIter (some b) clock seen clock) ->Sem.run P (match (#[]++(E.arr (Fq l seen)++#[]).map some)[i]? with| some (some e)=>do setObj r (.mapIter (some b) clock (seen.push e.born) clock);pure (Value.tuple #[true,e.key,e.val])| some none=>pure (Value.tuple #[false])| none=>stuck "Next: no such candidate") w0 =.ok (.tuple #[true,E.κ (Fq l seen)[i].1,(Fq l seen)[i].2.1]) (w0.putObj r (.mapIter (some b) clock (seen.push (Fq l seen)[i].2.2) clock)):=by(intro i hi w0 a3;have e1:(#[]++(E.arr (Fq l seen)++#[]).map some)[i]?=some (some (E.y1 (Fq l seen)[i])):=by simp[Fy.arr,hi]);rw[e1];simp[bS,Result.andThen,hs w0 _ a3,Fy.y1,Sem.run]);(have a1:(#[]++(E.arr (Fq l seen)++#[]).map some).size=(Fq l seen).length:=by simp[Fy.arr]);simp only[Instr.next,bS,Result.andThen,a0,hg w hb,A,cH,if_false,q,H,O,a2];by_cases h1:(Fq l seen).length<=1;{refine⟨(Fq l seen)[0],dR _,_,?_,hr.put_same _,Ad.z7 w r _⟩;have hp:=Z 0 X w hr;simp only[choose,Sem.run,Question.forced,a1,h1,decide_true,if_true];exact hp};have hi:w.tape w.drawn (.mapNext (Fq l seen).length) % (Fq l seen).length<(Fq l seen).length:=Nat.mod_lt _ X;refine⟨(Fq l seen)[w.tape w.drawn (.mapNext (Fq l seen).length) % (Fq l seen).length],dR _,_,?_,hr.drew.put_same _,((Ad.refl _ w).drew).trans (Ad.z7 w.drew r _)⟩;have hp:=Z _ hi w.drew hr;simp only[choose,Sem.run,Question.forced,a1,h1,decide_false,cH,if_false,Question.cut];exact hp
theorem UK(E:Fy P kt K){w:vW}{b r:Nat}{l:List (Ce K)}{clock since:Nat}{seen:Array Nat}(hb:Ae w b (.map (E.arr l) clock))
  {x:Ce K} (q:x∈l) (hr:Ae w r (.mapIter (some b) since (seen.push x.2.2) clock)) (hnd:(l.map (·.2.2)).Nodup) :
  (Instr.entry r).run P w=.ok (.tuple #[E.κ x.1,x.2.1]) w:=by
 have Z:(getObj b).run P w=.ok (.map (E.arr l) clock) w:=by simp[getObj,Sem.run,show w.heap[b]?=_ from hb]
 have A:(getObj r).run P w=.ok (.mapIter (some b) since (seen.push x.2.2) clock) w:=by simp[getObj,Sem.run,show w.heap[r]?=_ from hr]
 have hf:(E.arr l).find? (λe=>e.born == x.2.2)=some (E.y1 x):=by(have:∀ l:List (Ce K),x∈l->(l.map (·.2.2)).Nodup->(l.map E.y1).find? (λe=>e.born == x.2.2)=some (E.y1 x):=by intro l;induction l with| nil=>intro h;cases h| cons y r ih =>intro q H;simp only[bP,dL]at H;rw[bP,fQ];rcases bU.1 q with rfl|q;{simp[Fy.y1]};have O:y.2.2≠x.2.2:=λe=>H.1 (e ▸ gF (f:=λz:Ce K=>z.2.2) q);(have X:((E.y1 y).born == x.2.2)=false:=by simpa [Fy.y1]using O);rw[X];exact ih q H.2);simpa [Fy.arr]using this l q hnd
 simp[Instr.entry,bS,Result.andThen,A,Z,hf,Fy.y1]
end maps
theorem m0{P:Program}{kt:TypeId}{q:IntKind}(h:P.underlying kt=some (.int q))(e:Bool)(a:Int)(w:vW)(n:Nat):(Instr.checkKey e (n+1) kt (.int q a)).run P w=.ok () w:=by
 simp[Instr.checkKey,bS,Result.andThen,run_underlying h]
theorem m1{P:Program}{kt:TypeId}(h:P.underlying kt=some .string)(e:Bool)(a:vB)(w:vW)(n:Nat):(Instr.checkKey e (n+1) kt a).run P w=.ok () w:=by
 simp[Instr.checkKey,bS,Result.andThen,run_underlying h]
theorem C5(q:IntKind)(a:Int)(n:Nat):Instr.sameBits n (.int q a) (.int q a)=true:=by
 cases n<;>simp[Instr.sameBits]
theorem sM(a b:vB):(a == b)=decide (a=b):=by
 show ByteArray.beq a b=_;cases a;cases b;simp only[ByteArray.beq,ByteArray.mk.injEq];rw[Bool.eq_iff_iff];simp
theorem C6(a:vB)(n:Nat):Instr.sameBits n a a=true:=by
 cases n<;>simp[Instr.sameBits,sM]
def wC{P:Program}{kt:TypeId}{q:IntKind}(h:P.underlying kt=some (.int q)):Fy P kt Int where
 κ:=λn=>.int q n
 desc:=.int q
 und:=h
 same:=λa b=>by simp[Instr.sameNow];rfl
 check:=λe a w=>m0 h e a w 9999
 bits:=λa=>C5 q a 10000
theorem OO(w:vW)(T:TypeId)(news:List vV):∀ j u,news[j]?=some u->(w.alloc (.cells news.toArray T)).cell? ((w:Addr).add j)=some u:=by
 intro j u e;rw[Addr.add_lit,bX];exact (Ae.new w (.cells news.toArray T)).z1 e
theorem z5{v:vV}(h:v.oneCell'=true):v.cells=#[v]:=by
 cases v<;>first|rfl|(simp[Value.oneCell']at h)
theorem lC{P:Program}(a:Addr)(W:vW)(v:vV):(storeCells a [v]).run P W=(store a v).run P W:=by
 have e:a.add 0=a:=by unfold Addr.add;simp
 simp only[storeCells,bS,e];cases (store a v).run P W<;>rfl
theorem Ir{w:vW}{e:TypeId}{size:Nat}{v:vV}{n:Nat}{xs:List vV}{B:Nat}(h:w.ownsRow B e size v n xs):∃ a c,v=.slice a n c:=by
 obtain⟨_,⟨e,rfl⟩|⟨g,c,_,e,_⟩⟩:=h
 ·exact⟨none,0,e⟩
 ·exact⟨_,c,e⟩
section append
variable {P:Program} (w:vW)
theorem SG{t ty e:TypeId}{i:TypeInfo}{z:vV}{size bytes:Nat}(ht:P.underlying t=some (.slice e))(hi:P.info? e=some i)(hz:i.zero=some z)
  (hsize:i.size=size) (hby:i.bytes=bytes) (hzs:z.cells.size=size) (hsz:0<size)
  {v:vV} {n:Nat} {xs:List vV} (hown:w.ownsRow 0 e size v n xs)
  {a:Addr} {m c:Nat} {news:List vV} (hl:news.length=m*size) (hnews:∀ j u,news[j]?=some u->w.cell? (a.add j)=some u) (Z:∀ u∈news,u.oneCell'=true)
  (h63:n+m<=maxLen) (hbytes:(n+m)*bytes<=140737488355328) :
  ∃ q w',(Builtin.append_ #[t,t] ty #[v,.slice (some a) m c]).run P w=.ok q w'/\w'.ownsRow 0 e size q (n+m) (xs++news)/\Ad (λb=>v.ownBlock=some b) w w' /\
   (q.ownBlock=v.ownBlock\/∀ b,q.ownBlock=some b->(w:Nat)<=b):=by
 have up:∀ {B:Nat} {w':vW} {q:vV} {k:Nat} {X:List vV},w'.ownsRow B e size q k X->w'.ownsRow 0 e size q k X:=by rintro B w' q k X ⟨Z,h2|⟨g,A,a0,h2,_,h3⟩⟩;{exact⟨Z,.inl h2⟩};exact⟨Z,.inr ⟨g,A,a0,h2,cD _,h3⟩⟩
 have lo:∀ {B:Nat} {w':vW} {q:vV} {k:Nat} {X:List vV},w'.ownsRow B e size q k X->∀ b,q.ownBlock=some b->B<=b:=by intro B w' q k X h b hb;exact (World.ownsRow.lt h b hb).1
 have H:=hown
 obtain⟨a1,⟨rfl,rfl⟩|⟨g,A,a0,rfl,_,hg,a2,a3,a4,a5⟩⟩:=hown
 ·obtain⟨q,w',hr,K,r2,_⟩:=run_append_own (P:=P) w (w:Nat) t ty e i z size bytes ht hi hz hsize hby hzs hsz qe 0 xs ⟨a1,.inl ⟨rfl,rfl⟩⟩ a m c news hl hnews Z h63 hbytes (bO _);exact⟨q,w',hr,up K,Ad.y3 r2 λr e _=>e,.inr (lo K)⟩
 ·by_cases hroom:n+m<=A;{obtain⟨w',hr,K,r2⟩:=run_append_fits (P:=P) w 0 t ty e i size ht hi hsize g n A xs H a m c news hl hnews Z hroom;exact⟨_,w',hr,K,Ad.y3 r2 λr e _=>e,.inl rfl⟩};have O:∀ j u,xs[j]?=some u->w.cell? ((g:Addr).add j)=some u:=World.ownsRow.cells H rfl;obtain⟨q,w',hr,K,r2⟩:=run_append_arg_grows (P:=P) w t ty e i z size bytes ht hi hz hsize hby hzs hsz g n A xs a1 O a m c news hl hnews vO h63 hbytes;exact⟨q,w',hr,up K,Ad.y3 r2 (λr e _=>by cases e),.inr (lo K)⟩
theorem FR{ops:Array Oper}{rest:List Oper}{o:Oper}{a:Act}{Q:Exit->Act->vW->Prop}(hgd:o.guard=none)(s x:Operand)(t:TypeId)
  (ho:o.op=.call { callee:=.builtin .append,args:=#[s,x],argTypes:=#[t,t] })
  (e:TypeId) (i:TypeInfo) (z:vV) (size bytes:Nat) (ht:P.underlying t=some (.slice e)) (hi:P.info? e=some i) (hz:i.zero=some z)
  (hsize:i.size=size) (hby:i.bytes=bytes) (hzs:z.cells.size=size) (hsz:0<size)
  (v:vV) (n:Nat) (xs:List vV) (hs:a.eval s=v) (hown:w.ownsRow 0 e size v n xs)
  (ad:Addr) (m c:Nat) (news:List vV) (hx:a.eval x=.slice (some ad) m c) (hl:news.length=m*size) (hnews:∀ j u,news[j]?=some u->w.cell? (ad.add j)=some u) (h1:∀ u∈news,u.oneCell'=true)
  (h63:n+m<=maxLen) (hbytes:(n+m)*bytes<=140737488355328)
  (h:∀ q w',w'.ownsRow 0 e size q (n+m) (xs++news)->Ad (λb=>v.ownBlock=some b) w w'->(q.ownBlock=v.ownBlock\/∀ b,q.ownBlock=some b->(w:Nat)<=b)->wpList P ops Q rest (a.put o.dst q) w'):wpList P ops Q (o::rest) a w:=by
 refine wpList_plain hgd λK H=>?_
 obtain⟨q,w',A,O,X,Z⟩:=SG (P:=P) w (t:=t) (ty:=o.type) ht hi hz hsize hby hzs hsz hown (c:=c) hl hnews h1 h63 hbytes
 unfold Oper.wp;simp[execOp,ho,resolve,invoke,builtin,hs,hx,A,Result.andThen];exact H _ _ (h q w' O X Z)
theorem JN{F:Fence}{nf:Nat}{ops:Array Oper}{rest:List Oper}{o:Oper}{a:Act}{Q:Exit->Act->vW->Prop}(hgd:o.guard=none)(s x:Operand)(t:TypeId)
  (ho:o.op=.call { callee:=.builtin .append,args:=#[s,x],argTypes:=#[t,t] })
  (e:TypeId) (i:TypeInfo) (z:vV) (size bytes:Nat) (ht:P.underlying t=some (.slice e)) (hi:P.info? e=some i) (hz:i.zero=some z)
  (hsize:i.size=size) (hby:i.bytes=bytes) (hzs:z.cells.size=size) (hsz:0<size)
  (v:vV) (n:Nat) (xs:List vV) (hs:a.eval s=v) (hown:w.ownsRow 0 e size v n xs)
  (ad:Addr) (m c:Nat) (news:List vV) (hx:a.eval x=.slice (some ad) m c) (hl:news.length=m*size) (hnews:∀ j u,news[j]?=some u->w.cell? (ad.add j)=some u) (h1:∀ u∈news,u.oneCell'=true)
  (h63:n+m<=maxLen) (hbytes:(n+m)*bytes<=140737488355328)
  (h:∀ q w',w'.ownsRow 0 e size q (n+m) (xs++news)->Ad (λb=>v.ownBlock=some b) w w'->(q.ownBlock=v.ownBlock\/∀ b,q.ownBlock=some b->(w:Nat)<=b)->wpListIn F nf P ops Q rest (a.put o.dst q) w'):wpListIn F nf P ops Q (o::rest) a w:=by
 refine wpListIn_plain hgd λK O=>?_
 obtain⟨q,w',A,X,Z,r3⟩:=SG (P:=P) w (t:=t) (ty:=o.type) ht hi hz hsize hby hzs hsz hown (c:=c) hl hnews h1 h63 hbytes
 have H:o.semAt F.round a.eval=execOp a.eval o:=by cases hr:F.round with| none=>rfl| some l=>exact Oper.semAt_some l _ o (by rw[ho];intro c hc;cases hc)
 unfold Oper.wpIn;rw[H]
 refine⟨λf hf=>?_,?_⟩
 ·simp[Oper.about,ho,resolve,Target.leads]at hf
 ·simp[execOp,ho,resolve,invoke,builtin,hs,hx,A,Result.andThen,Oper.uponIn];exact O _ _ (h q w' X Z r3)
end append
def MG(l:vN):vV:=.string ⟨l.toArray⟩
theorem l1(a b:vN):((⟨a.toArray⟩:vB) ==⟨b.toArray⟩)=decide (a=b):=by
 rw[sM];simp
def wD{P:Program}{kt:TypeId}(h:P.underlying kt=some .string):Fy P kt (vN) where
 κ:=MG
 desc:=.string
 und:=h
 same:=λa b=>by simp only[Instr.sameNow,MG,l1]
 check:=λe a w=>m1 h e _ w 9999
 bits:=λa=>C6 _ 10000
end
