/- Parts of the proof, one behind the other: DropA, DropB, DropC, DropD. Each is under no condition but those that it states. -/
import Derived.Test.YtpaacnhboilkkaaGreatDoorPt40
import Derived.Test.YtpaacnhboilkkaaGreatDoorPt34
namespace Go.Proofs.YtpaacnhboilkkaaGreatDoor
set_option linter.unusedSimpArgs false
set_option linter.unusedVariables false
set_option maxRecDepth 100000
set_option maxHeartbeats 16000000
section
open Go Go.RowKit
attribute [local go_sem] Oper.semAt_some
def refsS(S:List Nd5):List ByteArray:=S.flatMap fun y=>y.2.2.refs
structure Cnt(S:List Nd5):Prop where
 used:∀ x∈S,x.2.2.used=(cK (refsS S) x.1:Int)
 shut:∀ r∈refsS S,r.data.toList∈S.map (·.1)
 held:∀ x∈S,0≤x.2.2.held
 r16:∀ x∈S,x.2.2.refs.length≤16
def heldS(S:List Nd5):Int:=(S.map fun x=>x.2.2.held).sum
theorem Cnt.none:Cnt []:=⟨by simp,by simp[refsS],by simp,by simp⟩
theorem refsS_len{S:List Nd5}(h:∀ x∈S,x.2.2.refs.length≤16):(refsS S).length≤16 * S.length:=by
 induction S with
 | nil=>simp[refsS]
 | cons x r ih =>
  have h1:=ih fun y hy=>h y (List.mem_cons_of_mem _ hy)
  have h2:=h x List.mem_cons_self
  have e:refsS (x :: r)=x.2.2.refs++refsS r:=by simp[refsS]
  rw[e,List.length_append,List.length_cons];omega
theorem cK_le(T:List ByteArray)(k:Key):cK T k≤T.length:=by
 unfold cK;have:=List.count_le_length (a:=k) (l:=T.map (·.data.toList));rwa [List.length_map]at this
def FullS(S:List Nd5):Prop:=∀ x∈S,0 < x.2.2.used+x.2.2.held
end
section
open Go Go.RowKit
theorem addS_refs{S G:List Nd5}{M:List ByteArray}{top:ByteArray}:refsS (addS S G M top)=refsS S++(frK S M).flatMap (refsO G):=by
 rw[addS_is]
 have h:=both_refs ((frK S M).flatMap (refsO G)) (shaB top) (S++picks G (frK S M))
 unfold refsS
 rw[h,List.flatMap_append, ←picks_refs]
theorem addS_keys2{S G:List Nd5}{M:List ByteArray}{top:ByteArray}:(addS S G M top).map (·.1)=(S++picks G (frK S M)).map (·.1):=by rw[addS_is,both_keys]
theorem cnt_add{S G:List Nd5}{L M:List ByteArray}{top:ByteArray}(hc:Cnt S)(hG:G.map kvI=readG L)(hf:Fair G)(hP:Path2 S G (shaB top) M (frK S M).length):Cnt (addS S G M top):=by
 have hTM:∀ r∈(frK S M).flatMap (refsO G),r∈M:=fun r hr=>by
  have:=hP.is
  rw[List.take_length]at this
  rw[this];exact List.mem_cons_of_mem _ hr
 refine⟨fun x hx=>?_,fun r hr=>?_,fun x hx=>?_,fun x hx=>?_⟩
 ·rw[addS_refs,cK_app]
  rw[addS_is]at hx
  obtain⟨z,hz,rfl⟩:=List.mem_map.1 hx
  show z.2.2.used+((cK ((frK S M).flatMap (refsO G)) z.1:Nat):Int)=((cK (refsS S) z.1+cK ((frK S M).flatMap (refsO G)) z.1:Nat):Int)
  rcases List.mem_append.1 hz with hz | hz
  ·have:=hc.used z hz;omega
  ·obtain⟨hzG,f,hf1,e1⟩:=picks_mem hz
   obtain⟨t,ht,_,e⟩:=given_is hG hzG
   have h0:cK (refsS S) z.1=0:=cK_none fun r hr er=>by
    have:=hc.shut r hr
    rw[er,e1, ←has_iff,(frK_mem.1 hf1).2]at this
    cases this
   have hu:z.2.2.used=0:=by rw[e];rfl
   omega
 ·rw[addS_keys2]
  rw[addS_refs]at hr
  rcases List.mem_append.1 hr with hr | hr
  ·rw[List.map_append];exact List.mem_append_left _ (hc.shut r hr)
  ·exact has_iff.1 (s1_has2 hP (hTM r hr))
 ·rw[addS_is]at hx
  obtain⟨z,hz,rfl⟩:=List.mem_map.1 hx
  show 0≤z.2.2.held+((cK [shaB top] z.1:Nat):Int)
  rcases List.mem_append.1 hz with hz | hz
  ·have:=hc.held z hz;omega
  ·obtain⟨t,ht,_,e⟩:=given_is hG (picks_mem hz).1
   have hu:z.2.2.held=0:=by rw[e];rfl
   omega
 ·rw[addS_is]at hx
  obtain⟨z,hz,rfl⟩:=List.mem_map.1 hx
  show z.2.2.refs.length≤16
  rcases List.mem_append.1 hz with hz | hz
  ·exact hc.r16 z hz
  ·exact hf.refs z (picks_mem hz).1
theorem full_add{S G:List Nd5}{L M:List ByteArray}{top:ByteArray}(hc:Cnt S)(hfl:FullS S)(hG:G.map kvI=readG L)(hP:Path2 S G (shaB top) M (frK S M).length):FullS (addS S G M top):=fun x hx=>by
 rw[addS_is]at hx
 obtain⟨z,hz,rfl⟩:=List.mem_map.1 hx
 show 0 < z.2.2.used+((cK ((frK S M).flatMap (refsO G)) z.1:Nat):Int)+(z.2.2.held+((cK [shaB top] z.1:Nat):Int))
 rcases List.mem_append.1 hz with hz | hz
 ·have:=hfl z hz;omega
 ·obtain⟨hzG,f,hf1,e1⟩:=picks_mem hz
  obtain⟨t,ht,_,e⟩:=given_is hG hzG
  have hu:z.2.2.used=0:=by rw[e];rfl
  have hh:z.2.2.held=0:=by rw[e];rfl
  have hm:=(frK_mem.1 hf1).1
  have:=hP.is
  rw[List.take_length]at this
  rw[this]at hm
  rcases List.mem_cons.1 hm with h | h
  ·have:1≤cK [shaB top] z.1:=by rw[e1,h];exact cK_pos (by simp)
   omega
  ·have:1≤cK ((frK S M).flatMap (refsO G)) z.1:=by rw[e1];exact cK_pos h
   omega
theorem sum_both(T:List ByteArray)(r:ByteArray)(S:List Nd5):heldS (S.map (bothU T r))=heldS S+((S.map (·.1)).count r.data.toList:Int):=by
 induction S with
 | nil=>simp[heldS]
 | cons x l ih =>
  have e:∀ (a:Nd5) b,heldS (a :: b)=a.2.2.held+heldS b:=fun a b=>by unfold heldS;rw[List.map_cons,List.sum_cons]
  rw[List.map_cons,e,e,ih,List.map_cons,List.count_cons]
  have h1:(bothU T r x).2.2.held=x.2.2.held+((cK [r] x.1:Nat):Int):=rfl
  have h2:cK [r] x.1=if x.1=r.data.toList then 1 else 0:=by
   have:=cK_cons r [] x.1
   rw[this];simp[cK]
  rw[h1,h2]
  by_cases hx:x.1=r.data.toList
  ·rw[if_pos hx,if_pos (by simp[hx])];push_cast;omega
  ·rw[if_neg hx,if_neg (by simpa using hx)];push_cast;omega
theorem sum_app(A B:List Nd5):heldS (A++B)=heldS A+heldS B:=by unfold heldS;rw[List.map_append,List.sum_append]
theorem sum_zero:∀ {B:List Nd5},(∀ x∈B,x.2.2.held=0)→heldS B=0
 | [],_=>rfl
 | x :: r,h=>by
  have e:heldS (x :: r)=x.2.2.held+heldS r:=by unfold heldS;rw[List.map_cons,List.sum_cons]
  rw[e,h x List.mem_cons_self,sum_zero fun y hy=>h y (List.mem_cons_of_mem _ hy)];rfl
theorem count_one:∀ {l:List Key},l.Nodup→∀ {k:Key},k∈l→l.count k=1
 | [],_,_,hk=>by cases hk
 | x :: r,h,k,hk=>by
  rw[List.nodup_cons]at h
  rw[List.count_cons]
  by_cases e:x=k
  ·subst e
   rw[List.count_eq_zero_of_not_mem h.1];simp
  ·have hk:k∈r:=(List.mem_cons.1 hk).resolve_left fun e2=>e e2.symm
   rw[count_one h.2 hk];simp[e]
theorem sum_add{S G:List Nd5}{L M:List ByteArray}{top:ByteArray}(hn:((addS S G M top).map (·.1)).Nodup)(hG:G.map kvI=readG L)(hP:Path2 S G (shaB top) M (frK S M).length):heldS (addS S G M top)=heldS S+1:=by
 have hroot:(shaB top).data.toList∈(S++picks G (frK S M)).map (·.1):=has_iff.1 (s1_has2 hP (by rw[hP.is];exact List.mem_cons_self))
 rw[addS_keys2]at hn
 rw[addS_is,sum_both,sum_app,sum_zero (B:=picks G (frK S M)) (fun x hx=>by
  obtain⟨t,ht,_,e⟩:=given_is hG (picks_mem hx).1
  rw[e];rfl),count_one hn hroot]
 omega
theorem len_add{S G:List Nd5}{M:List ByteArray}{top:ByteArray}:(addS S G M top).length≤S.length+(frK S M).length:=by
 rw[addS_is,List.length_map,List.length_append]
 have:(picks G (frK S M)).length≤(frK S M).length:=List.length_filterMap_le _ _
 omega
theorem held_add{S G:List Nd5}{L M:List ByteArray}{top:ByteArray}{n:Int}(h:∀ x∈S,x.2.2.held≤n)(h0:0≤n)(hG:G.map kvI=readG L):∀ x∈addS S G M top,x.2.2.held≤n+1:=fun x hx=>by
 rw[addS_is]at hx
 obtain⟨z,hz,rfl⟩:=List.mem_map.1 hx
 show z.2.2.held+((cK [shaB top] z.1:Nat):Int)≤n+1
 have h1:=cK_le [shaB top] z.1
 rw[List.length_singleton]at h1
 rcases List.mem_append.1 hz with hz | hz
 ·have:=h z hz;omega
 ·obtain⟨t,ht,_,e⟩:=given_is hG (picks_mem hz).1
  have hu:z.2.2.held=0:=by rw[e];rfl
  omega
end
end Go.Proofs.YtpaacnhboilkkaaGreatDoor
