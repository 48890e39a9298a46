/- Lemmas; each is under no condition but those that it states. -/
import Derived.Test.YtcpnjmcipainpaaGreatDoorPr36
namespace Go.Proofs.YtcpnjmcipainpaaGreatDoor
set_option linter.unusedSimpArgs false
set_option linter.unusedVariables false
set_option maxRecDepth 100000
set_option maxHeartbeats 16000000
open Go Go.RowKit
section
attribute [local go_sem] Oper.semAt_some
def jga(S:List Nd5):List vB:=S.flatMap fun y=>y.2.2.refs
structure Cnt(S:List Nd5):Prop where
 used:∀ x∈S,x.2.2.used=(cK (jga S) x.1:Int)
 shut:∀ r∈jga S,r.data.toList∈S.map (·.1)
 held:∀ x∈S,0<=x.2.2.held
 r16:∀ x∈S,x.2.2.refs.length<=16
def jeH(S:List Nd5):Int:=(S.map fun x=>x.2.2.held).sum
theorem Cnt.none:Cnt []:=⟨by simp,by simp[jga],by simp,by simp⟩
theorem jrt{S:List Nd5}(h:∀ x∈S,x.2.2.refs.length<=16):(jga S).length<=16 * S.length:=by
 induction S with
 | nil=>simp[jga]
 | cons x r ih =>
  have h1:=ih fun y hy=>h y (List.mem_cons_of_mem _ hy);have h2:=h x List.mem_cons_self;have e:jga (x :: r)=x.2.2.refs++jga r:=by simp[jga]
  rw[e,List.length_append,List.length_cons];omega
theorem jw3(T:List vB)(k:Key):cK T k<=T.length:=by
 unfold cK;have:=List.count_le_length (a:=k) (l:=T.map (·.data.toList));rwa [List.length_map]at this
def juE(S:List Nd5):Prop:=∀ x∈S,0 < x.2.2.used+x.2.2.held
end
theorem jkp{S G:List Nd5}{M:List vB}{top:vB}:jga (addS S G M top)=jga S++(frK S M).flatMap (jb3 G):=by
 rw[jda];have h:=jpE ((frK S M).flatMap (jb3 G)) (shaB top) (S++jcN G (frK S M));unfold jga;rw[h,List.flatMap_append, <-ji2]
theorem jdV{S G:List Nd5}{M:List vB}{top:vB}:(addS S G M top).map (·.1)=(S++jcN G (frK S M)).map (·.1):=by rw[jda,jpD]
theorem ju6{S G:List Nd5}{L M:List vB}{top:vB}(hc:Cnt S)(hG:G.map kvI=readG L)(hf:Fair G)(hP:jfp S G (shaB top) M (frK S M).length):Cnt (addS S G M top):=by
 have hTM:∀ r∈(frK S M).flatMap (jb3 G),r∈M:=fun r hr=>by
  have:=hP.is
  rw[List.take_length]at this;rw[this];exact List.mem_cons_of_mem _ hr
 refine⟨fun x hx=>?_,fun r hr=>?_,fun x hx=>?_,fun x hx=>?_⟩
 ·rw[jkp,jw2]
  rw[jda]at hx
  obtain⟨z,hz,rfl⟩:=List.mem_map.1 hx
  show z.2.2.used+((cK ((frK S M).flatMap (jb3 G)) z.1:Nat):Int)=((cK (jga S) z.1+cK ((frK S M).flatMap (jb3 G)) z.1:Nat):Int);rcases List.mem_append.1 hz with hz | hz
  ·have:=hc.used z hz;omega
  ·obtain⟨hzG,f,hf1,e1⟩:=jbW hz
   obtain⟨t,ht,_,e⟩:=jcV hG hzG
   have h0:cK (jga S) z.1=0:=ju4 fun r hr er=>by
    have:=hc.shut r hr
    rw[er,e1, <-jes,(jfD.1 hf1).2]at this;cases this
   have hu:z.2.2.used=0:=by rw[e];rfl
   omega
 ·rw[jdV]
  rw[jkp]at hr;rcases List.mem_append.1 hr with hr | hr
  ·rw[List.map_append];exact List.mem_append_left _ (hc.shut r hr)
  ·exact jes.1 (jih hP (hTM r hr))
 ·rw[jda]at hx
  obtain⟨z,hz,rfl⟩:=List.mem_map.1 hx
  show 0<=z.2.2.held+((cK [shaB top] z.1:Nat):Int);rcases List.mem_append.1 hz with hz | hz
  ·have:=hc.held z hz;omega
  ·obtain⟨t,ht,_,e⟩:=jcV hG (jbW hz).1
   have hu:z.2.2.held=0:=by rw[e];rfl
   omega
 ·rw[jda]at hx
  obtain⟨z,hz,rfl⟩:=List.mem_map.1 hx
  show z.2.2.refs.length<=16;rcases List.mem_append.1 hz with hz | hz
  ·exact hc.r16 z hz
  ·exact hf.refs z (jbW hz).1
theorem jsX{S G:List Nd5}{L M:List vB}{top:vB}(hc:Cnt S)(hfl:juE S)(hG:G.map kvI=readG L)(hP:jfp S G (shaB top) M (frK S M).length):juE (addS S G M top):=fun x hx=>by
 rw[jda]at hx
 obtain⟨z,hz,rfl⟩:=List.mem_map.1 hx
 show 0 < z.2.2.used+((cK ((frK S M).flatMap (jb3 G)) z.1:Nat):Int)+(z.2.2.held+((cK [shaB top] z.1:Nat):Int));rcases List.mem_append.1 hz with hz | hz
 ·have:=hfl z hz;omega
 ·obtain⟨hzG,f,hf1,e1⟩:=jbW hz
  obtain⟨t,ht,_,e⟩:=jcV hG hzG
  have hu:z.2.2.used=0:=by rw[e];rfl
  have hh:z.2.2.held=0:=by rw[e];rfl
  have hm:=(jfD.1 hf1).1
  have:=hP.is
  rw[List.take_length]at this;rw[this]at hm;rcases List.mem_cons.1 hm with h | h
  ·have:1<=cK [shaB top] z.1:=by rw[e1,h];exact juk (by simp)
   omega
  ·have:1<=cK ((frK S M).flatMap (jb3 G)) z.1:=by rw[e1];exact juk h
   omega
theorem jtZ(T:List vB)(r:vB)(S:List Nd5):jeH (S.map (jky T r))=jeH S+((S.map (·.1)).count r.data.toList:Int):=by
 induction S with
 | nil=>simp[jeH]
 | cons x l ih =>
  have e:∀ (a:Nd5) b,jeH (a :: b)=a.2.2.held+jeH b:=fun a b=>by unfold jeH;rw[List.map_cons,List.sum_cons]
  rw[List.map_cons,e,e,ih,List.map_cons,List.count_cons];have h1:(jky T r x).2.2.held=x.2.2.held+((cK [r] x.1:Nat):Int):=rfl;have h2:cK [r] x.1=if x.1=r.data.toList then 1 else 0:=by
   have:=jjn r [] x.1
   rw[this];simp[cK]
  rw[h1,h2]
  by_cases hx:x.1=r.data.toList
  ·rw[if_pos hx,if_pos (by simp[hx])];push_cast;omega
  ·rw[if_neg hx,if_neg (by simpa using hx)];push_cast;omega
theorem jv9(A B:List Nd5):jeH (A++B)=jeH A+jeH B:=by unfold jeH;rw[List.map_append,List.sum_append]
theorem jnU:∀ {B:List Nd5},(∀ x∈B,x.2.2.held=0)->jeH B=0
 | [],_=>rfl
 | x :: r,h=>by
  have e:jeH (x :: r)=x.2.2.held+jeH r:=by unfold jeH;rw[List.map_cons,List.sum_cons]
  rw[e,h x List.mem_cons_self,jnU fun y hy=>h y (List.mem_cons_of_mem _ hy)];rfl
theorem jkH:∀ {l:List Key},l.Nodup->∀ {k:Key},k∈l->l.count k=1
 | [],_,_,hk=>by cases hk
 | x :: r,h,k,hk=>by
  rw[List.nodup_cons]at h;rw[List.count_cons]
  by_cases e:x=k
  ·subst e
   rw[List.count_eq_zero_of_not_mem h.1];simp
  ·have hk:k∈r:=(List.mem_cons.1 hk).resolve_left fun e2=>e e2.symm
   rw[jkH h.2 hk];simp[e]
theorem jv8{S G:List Nd5}{L M:List vB}{top:vB}(hn:((addS S G M top).map (·.1)).Nodup)(hG:G.map kvI=readG L)(hP:jfp S G (shaB top) M (frK S M).length):jeH (addS S G M top)=jeH S+1:=by
 have hroot:(shaB top).data.toList∈(S++jcN G (frK S M)).map (·.1):=jes.1 (jih hP (by rw[hP.is];exact List.mem_cons_self));rw[jdV]at hn;rw[jda,jtZ,jv9,jnU (B:=jcN G (frK S M)) (fun x hx=>by
  obtain⟨t,ht,_,e⟩:=jcV hG (jbW hx).1
  rw[e];rfl),jkH hn hroot]
 omega
theorem jqx{S G:List Nd5}{M:List vB}{top:vB}:(addS S G M top).length<=S.length+(frK S M).length:=by
 rw[jda,List.length_map,List.length_append]
 have:(jcN G (frK S M)).length<=(frK S M).length:=List.length_filterMap_le _ _
 omega
theorem js3{S G:List Nd5}{L M:List vB}{top:vB}{n:Int}(h:∀ x∈S,x.2.2.held<=n)(h0:0<=n)(hG:G.map kvI=readG L):∀ x∈addS S G M top,x.2.2.held<=n+1:=fun x hx=>by
 rw[jda]at hx
 obtain⟨z,hz,rfl⟩:=List.mem_map.1 hx
 show z.2.2.held+((cK [shaB top] z.1:Nat):Int)<=n+1;have h1:=jw3 [shaB top] z.1;rw[List.length_singleton]at h1;rcases List.mem_append.1 hz with hz | hz
 ·have:=h z hz;omega
 ·obtain⟨t,ht,_,e⟩:=jcV hG (jbW hz).1
  have hu:z.2.2.held=0:=by rw[e];rfl
  omega
end Go.Proofs.YtcpnjmcipainpaaGreatDoor
