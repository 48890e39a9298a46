/- Parts of the proof, one behind the other: HashA, RowT, InA, RefSj. Each is under no condition but those that it states. -/
import Derived.Test.YtcpnjmcipainpaaGreatDoorPb23
import Derived.Test.YtcpnjmcipainpaaGreatDoorPb26
import Derived.Test.YtcpnjmcipainpaaGreatDoorPb25
import Derived.Test.YtcpnjmcipainpaaGreatDoorPb5
namespace Go.Proofs.YtcpnjmcipainpaaGreatDoor
set_option linter.unusedSimpArgs false
set_option linter.unusedVariables false
set_option maxRecDepth 100000
set_option maxHeartbeats 16000000
section
open Go Go.RowKit
attribute [local go_sem] Oper.semAt_some
end
section
open Go Go.RowKit
def inB(l:List ByteArray)(s:ByteArray):Bool:=memB l s
theorem jmJ{l:List ByteArray}{s:ByteArray}(h:s∈l):inB l s=true:=(jez l s).2 h
theorem jnZ{l:List ByteArray}{s:ByteArray}(h:s ∉ l):inB l s=false:=by
 rw[Bool.eq_false_iff];exact fun e=>h ((jez l s).1 e)
def joC(w:World)(l:List ByteArray)(s:ByteArray)(iv:Value)(wr:World):Prop:=∃ i:Nat,i≤l.length∧iv=.int .i64 i∧Ext w wr∧s ∉ l.take i
theorem in_c(w:World)(v:Value)(l:List ByteArray)(s:ByteArray)(hv:RdS w v l)(hn:l.length≤1000000) :
  Calls Tryz.prog 66 #[v,.string s] w fun e w'=>e=.returned (.bool (inB l s))∧Ext w w':=by
 obtain⟨a,c,hsl,hcl⟩:=hv.slice
 have HV:=Hd hv;subst hsl;clear hv hcl
 obtain⟨R,hR⟩:∃ R,R=inB l s:=⟨_,rfl⟩
 rw[←hR];have HR:=Hd hR;clear hR;go_enter Tryz.func66,Tryz.ntmps66;go_wp2_with fail
 go_loopw [5] (fun iv wr=>joC w l s iv wr) (fun iv _=>l.length - (intOf iv).toNat)
 case atStart=>exact⟨0,by omega,rfl,ExtR w,by simp⟩
 case round =>
  obtain⟨i,hi,rfl,hE,hno⟩:=hrel
  have HE:=Hd hE;have HNO:=Hd hno;clear hE hno
  by_cases hlt:i < l.length
  ·have b1:(i:Int) < (l.length:Int):=by omega
   obtain⟨x,hx⟩:∃ x,l[i]?=some x:=⟨_,List.getElem?_eq_getElem hlt⟩
   rcases HV.o with⟨_,_,_,h0⟩ |⟨b,o,c1,hh,hb,hc,hcell⟩
   ·rw[h0]at hlt;cases hlt
   cases hh;have q1:=jab (hcell i x hx) HE.o;have HX:=Hd hx;clear hcell hb hc hx;have hkb:=jih x s
   by_cases hxs:x=s
   ·rw[decide_eq_true hxs]at hkb
    have HF:=Hd (show R=true by rw[HR.o];exact jmJ (by rw[←hxs];exact List.mem_of_getElem? HX.o));clear hxs;go_wp2_with fail
    go_ret
    exact⟨by rw[HF.o];rfl,HE.o⟩
   ·rw[decide_eq_false hxs]at hkb
    have HG:=Hd (show s ∉ l.take (i+1) by
     rw[List.take_add_one,HX.o];intro hm;rcases List.mem_append.1 hm with hm | hm
     ·exact HNO.o hm
     ·simp at hm;exact hxs hm.symm)
    clear hxs;go_wp2_with fail
    go_roundw
    case rel=>exact⟨i+1,by omega,by go_num,HE.o,HG.o⟩
    case measure=>simp[intOf];omega
  ·have b1:¬(i:Int) < (l.length:Int):=by omega
   have HF:=Hd (show R=false by rw[HR.o];refine jnZ ?_;have:=HNO.o;rwa [List.take_of_length_le (by omega)]at this);go_wp2_with fail
   go_ret
   exact⟨by rw[HF.o];rfl,HE.o⟩
end
section
open Go Go.RowKit
attribute [local go_sem] Oper.semAt_some
def jgm(l:List Pair)(B:List Pair→PT):Prop:=∀ (w0 w:World) (lv v:Value) (n:Nat) (acc:List ByteArray),RdP w lv l→SRow w0 w v n acc→acc.length+(jaH (ja4 B l)).length≤900000 →
 Calls Tryz.prog 88 #[lv,v] w fun e w'=>∃ u n',e=.returned u∧SRow w0 w' u n' (belF B l acc)∧jah (fun b=>v.ownBlock=some b) w w'∧(u.ownBlock=v.ownBlock∨∀ b,u.ownBlock=some b→w.heap.size≤b)
theorem jhW(l:List Pair)(B:List Pair→PT)(hl:l.length < 2):jgm l B:=by
 intro w0 w lv v n acc hv hR _;have hb:belF B l acc=acc:=by unfold belF ja4;rw[if_pos (by omega)];rfl
 rw[hb]
 obtain⟨a0,c0,hsl⟩:=hv.sl
 subst hsl
 obtain⟨a1,c1,hsl⟩:=hR.sl
 subst hsl;have HR:=Hd hR;have b0:(l.length:Int) < 2:=by omega
 clear hv hb hR;go_enter Tryz.func88,Tryz.ntmps88;go_wp2_with fail
 go_ret
 exact⟨_,_,rfl,HR.o,jah.refl _ _,.inl rfl⟩
end
end Go.Proofs.YtcpnjmcipainpaaGreatDoor
