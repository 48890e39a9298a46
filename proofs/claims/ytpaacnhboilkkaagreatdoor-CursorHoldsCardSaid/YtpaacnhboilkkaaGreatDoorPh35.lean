/- Parts of the proof, one behind the other: NodeR, NodeS, NodeU, IterV, RlpZb, RlpZc, RlpZd, jaf, NodeV. Each is under no condition but those that it states. -/
import Derived.Test.YtpaacnhboilkkaaGreatDoorPh33
import Derived.Test.YtpaacnhboilkkaaGreatDoorPh34
import Derived.Test.YtpaacnhboilkkaaGreatDoorPh21
import Derived.Test.YtpaacnhboilkkaaGreatDoorPh11
import Derived.Test.YtpaacnhboilkkaaGreatDoorPh18
import Derived.Test.YtpaacnhboilkkaaGreatDoorPh20
import Derived.Test.YtpaacnhboilkkaaGreatDoorPh10
import Derived.Test.YtpaacnhboilkkaaGreatDoorPh22
import Derived.Test.YtpaacnhboilkkaaGreatDoorPh23
import Derived.RangeFuncCalls
namespace Go.Proofs.YtpaacnhboilkkaaGreatDoor
set_option linter.unusedSimpArgs false
set_option linter.unusedVariables false
set_option maxRecDepth 100000
set_option maxHeartbeats 16000000
section
open Go Go.RowKit
end
section
open Go Go.RowKit
attribute [local go_sem] Oper.semAt_some
end
section
open Go Go.RowKit
end
section
open Go Go.RowKit
attribute [local go_sem] Oper.semAt_some
end
section
open Go Go.RowKit
end
section
open Go Go.RowKit
attribute [local go_sem] Oper.semAt_some
theorem juH{y h:ByteArray}(hh:ji7 y=some h):jfw y:=by
 unfold ji7 at hh;cases hc:cutN y with
 | none=>rw[hc]at hh;cases hh
 | some r =>
  rw[hc]at hh;have hh:jfv y r=some h:=hh;unfold jfv at hh;rw[Option.filter_eq_some_iff]at hh
  obtain⟨h1,h2⟩:=hh
  have h2:h.size=32:=by simpa using h2
  unfold jeZ at h1
  by_cases hr:r.1=false∧r.2.1+r.2.2=y.size
  case neg=>rw[if_neg hr]at h1;cases h1
  rw[if_pos hr]at h1;have h1:=Option.some.inj h1
  obtain⟨b,o,n⟩:=r
  obtain⟨hb,hs⟩:=hr
  have hb:b=false:=hb;have hs:o+n=y.size:=hs;subst hb
  refine⟨h,h2,?_⟩
  have hn:n=32:=by
   have e:=congrArg ByteArray.size h1;rw[ByteArray.size_extract]at e;simp only at e;omega
  obtain⟨⟨l⟩⟩:=y
  cases l with
  | nil=>exact absurd (ji5 hc).1 (by decide)
  | cons a t =>
   have hc:cutN ⟨(a :: t).toArray⟩=some (false,o,n):=hc;rw[jf0]at hc
   obtain⟨m,hm⟩:∃ m,m=(if a.toNat < 192 then a.toNat - 128 else a.toNat - 192):=⟨_,rfl⟩
   rw[←hm]at hc
   by_cases h4:a.toNat < 128
   ·rw[if_pos h4]at hc
    have:=(Prod.mk.inj (Prod.mk.inj (Option.some.inj hc)).2).2;omega
   rw[if_neg h4]at hc
   by_cases h5:m≤55
   ·rw[if_pos h5]at hc
    split at hc
    ·have e1:=(Prod.mk.inj (Option.some.inj hc)).1
     have e2:=(Prod.mk.inj (Prod.mk.inj (Option.some.inj hc)).2).1;have e3:=(Prod.mk.inj (Prod.mk.inj (Option.some.inj hc)).2).2;have e1:¬ 192≤a.toNat:=of_decide_eq_false e1;rw[if_pos (by omega)]at hm;have ha:a=160:=UInt8.toNat_inj.1 (by show a.toNat=160;omega);have ht:h=⟨t.toArray⟩:=by
      rw[←h1, ←e2,hn];apply ByteArray.ext;apply Array.ext';have hs':o+n=t.length+1:=hs;rw[ByteArray.data_extract,Array.toList_extract,List.extract_eq_take_drop];show ((a :: t).drop 1).take (1+32 - 1)=t;rw[List.drop_succ_cons,List.drop_zero,List.take_of_length_le (by omega)]
     unfold jaO;rw[if_neg (by omega),h2,ht,ha];apply ByteArray.ext;apply Array.ext';rw[ByteArray.data_append,Array.toList_append];rfl
    ·cases hc
   ·rw[if_neg h5]at hc
    split at hc
    ·rename_i n' hl
     split at hc
     ·have e3:=(Prod.mk.inj (Prod.mk.inj (Option.some.inj hc)).2).2
      have:=(jd7 hl).2.2.2.1
      omega
     ·cases hc
    ·cases hc
def GetE(s:ByteArray):Prop:=∀ w,ErrT w→Calls Tryz.prog 95 #[.string s] w (jvL w)
end
end Go.Proofs.YtpaacnhboilkkaaGreatDoor
