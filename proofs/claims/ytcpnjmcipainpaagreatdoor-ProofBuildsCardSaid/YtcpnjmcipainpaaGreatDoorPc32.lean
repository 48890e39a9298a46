/- Parts of the proof, one behind the other: RefPi, RefPj. Each is under no condition but those that it states. -/
import Derived.Test.YtcpnjmcipainpaaGreatDoorPc31
import Derived.Test.YtcpnjmcipainpaaGreatDoorPc6
namespace Go.Proofs.YtcpnjmcipainpaaGreatDoor
set_option linter.unusedSimpArgs false
set_option linter.unusedVariables false
set_option maxRecDepth 100000
set_option maxHeartbeats 16000000
section
open Go Go.RowKit
attribute [local go_sem] Oper.semAt_some
def beL(l:List UInt8):Nat:=l.foldl (fun a b=>a * 256+b.toNat) 0
theorem jnZ(l:List UInt8)(b:UInt8):beL (l++[b])=beL l * 256+b.toNat:=by unfold beL;rw[List.foldl_append];rfl
theorem jrh:∀ (l:List UInt8),beL l < 256 ^ l.length:=fun l=>by
 suffices h:∀ (l:List UInt8) (a k:Nat),a < 256 ^ k→l.foldl (fun a b=>a * 256+b.toNat) a < 256 ^ (k+l.length)from by
  have:=h l 0 0 (by decide)
  rwa [Nat.zero_add]at this
 intro l;induction l with
 | nil=>intro a k h;simpa using h
 | cons x r ih =>
  intro a k h;have hx:=x.toNat_lt
  have:=ih (a * 256+x.toNat) (k+1) (by rw[Nat.pow_succ];omega)
  rw[List.foldl_cons,List.length_cons,show k+(r.length+1)=k+1+r.length by omega];exact this
def RNum(w:World)(s:ByteArray)(v i:Value)(wr:World):Prop:=∃ k:Nat,k≤s.size∧i=.int .i64 k∧v=.int .u64 (beL (s.data.toList.take k))∧Ext w wr
theorem ji2(w:World)(s:ByteArray)(hs:s.size≤8):Calls Tryz.prog 270 #[.string s] w fun e w'=>e=.returned (.int .u64 (beL s.data.toList))∧Ext w w':=by
 obtain⟨R,hR⟩:∃ R,R=beL s.data.toList:=⟨_,rfl⟩
 rw[←hR];have HR:=Hd hR;clear hR;go_enter Tryz.func270,Tryz.ntmps270;go_wp2_with fail
 go_loopw [3,4] (fun v i wr=>RNum w s v i wr) (fun _ i _=>s.size - (intOf i).toNat)
 case atStart=>exact⟨0,Nat.zero_le _,rfl,rfl,ExtR w⟩
 case round =>
  obtain⟨k,hk,rfl,rfl,hE⟩:=hrel
  have HE:=Hd hE;clear hE
  by_cases hlt:k < s.size
  ·have b1:(k:Int) < (s.size:Int):=by omega
   have hst:beL (s.data.toList.take (k+1))=beL (s.data.toList.take k) * 256+s[k].toNat:=by
    have e:s.data.toList[k]?=some s[k]:=by rw[List.getElem?_eq_getElem (by exact hlt)];rfl
    rw[List.take_add_one,e, ←jnZ];rfl
   have hlt2:=jrh (s.data.toList.take k);rw[List.length_take]at hlt2;have hlt3:beL (s.data.toList.take k) < 72057594037927936:=Nat.lt_of_lt_of_le hlt2 (Nat.le_trans (Nat.pow_le_pow_right (by decide) (by omega:min k s.data.toList.length≤7)) (by decide));have hxb:=s[k].toNat_lt
   obtain⟨n,hn⟩:∃ n,n=beL (s.data.toList.take k):=⟨_,rfl⟩
   rw[←hn]at hst hlt3 ⊢;have HST:=Hd hst;have w1:(n:Int) * 256 < 18446744073709551616:=by omega
   have w2:(0:Int)≤(n:Int) * 256:=by omega
   have w3:(n:Int) * 256+(s[k].toNat:Int) < 18446744073709551616:=by omega
   have w4:((n:Int) * 256) % 18446744073709551616=(n:Int) * 256:=by omega
   have w5:((n:Int) * 256+(s[k].toNat:Int)) % 18446744073709551616=(n:Int) * 256+(s[k].toNat:Int):=by omega
   clear hlt2 hst hn;go_wp2_with fail
   go_roundw
   case rel=>exact⟨k+1,by omega,by go_num,by rw[HST.o];push_cast;rfl,HE.o⟩
   case measure=>simp[intOf];omega
  ·have HF:=Hd (show beL (s.data.toList.take k)=R by rw[HR.o,List.take_of_length_le (by have:s.data.toList.length=s.size:=rfl;omega)])
   rw[HF.o];go_wp2_with fail
   go_ret
   exact⟨rfl,HE.o⟩
theorem jhh(s:ByteArray)(k:Nat):(s.extract 1 (1+k)).data.toList=(s.data.toList.take (1+k)).drop 1:=by
 rw[ByteArray.data_extract]
 obtain⟨⟨l⟩⟩:=s
 cases l with
 | nil=>simp
 | cons x r=>rw[Nat.add_comm 1 k];simp
theorem jrg(l:List UInt8):beL l=beN l:=rfl
def HdV(r:Bool × Nat × Nat):Value:=.tuple #[.bool r.1,.int .i64 (r.2.1:Int),.int .u64 (r.2.2:Int),.bool true]
theorem jnm(w:World)(s:ByteArray)(r:Bool × Nat × Nat)(hs:s.size≤1000000)(h:cutN s=some r):Calls Tryz.prog 265 #[.string s] w fun e w'=>e=.returned (HdV r)∧Ext w w':=by
 unfold cutN at h;split at h
 case isFalse=>cases h
 rename_i h0
 have hne:s.toList.isEmpty=false:=ja2 h0;have b1:(0:Int) < (s.size:Int):=by omega
 have hcl:=s[0].toNat_lt
 obtain⟨c,hc⟩:∃ c,c=s[0].toNat:=⟨_,rfl⟩
 have hci:(s[0].toNat:Int)=(c:Int):=by rw[hc]
 rw[←hc]at h hcl;simp only at h
 by_cases h1:c < 128
 ·rw[if_pos h1]at h
  obtain rfl:=Option.some.inj h;have d1:(c:Int) < 128:=by omega
  have d2:¬(192:Int)≤(c:Int):=by omega
  clear h hc h1;go_enter Tryz.func265,Tryz.ntmps265;go_wp2_with fail
  exact bodyPost_ret (v:=HdV (false,0,1)) (by kernel_rfl) rfl ⟨rfl,ExtR w⟩
 rw[if_neg h1]at h;have d1:¬(c:Int) < 128:=by omega
 by_cases h2:c < 192
 ·rw[if_pos h2]at h
  simp only at h;have d2:¬(192:Int)≤(c:Int):=by omega
  by_cases h3:c - 128≤55
  ·rw[if_pos h3]at h
   split at h
   case isFalse=>cases h
   obtain rfl:=Option.some.inj h;have d3:(c:Int)≤128+55:=by omega
   have d3':(c:Int)≤183:=by omega
   have hcs:(((c - 128:Nat)):Int)=(c:Int) - 128:=by omega
   have hw1:(0:Int)≤(c:Int) - 128:=by omega
   have hw2:(c:Int) - 128 < 18446744073709551616:=by omega
   have hw3:((c:Int) - 128) % 18446744073709551616=(c:Int) - 128:=by omega
   have HV:=Hd (show HdV (false,1,c - 128)=.tuple #[.bool false,.int .i64 1,.int .u64 ((c:Int) - 128),.bool true] by unfold HdV;rw[hcs];rfl);rw[HV.o];clear h hc h1 h2 h3 hcs;go_enter Tryz.func265,Tryz.ntmps265;go_wp2_with fail
   exact bodyPost_ret (v:=.tuple #[.bool false,.int .i64 1,.int .u64 ((c:Int) - 128),.bool true]) (by kernel_rfl) rfl ⟨rfl,ExtR w⟩
  ·rw[if_neg h3]at h
   obtain⟨k,hk⟩:∃ k,k=c - 128 - 55:=⟨_,rfl⟩
   rw[←hk]at h;cases hL:lenB s (1+k)with
   | none=>rw[hL]at h;cases h
   | some n =>
   rw[hL]at h;simp only at h;split at h
   case isFalse=>cases h
   obtain rfl:=Option.some.inj h
   obtain⟨hl1,_,hl3,_,hl5⟩:=jcJ hL
   have hk8:k≤8:=by omega
   have HNB:=Hd (fun w1=>ji2 w1 (s.extract 1 (1+k)) (by rw[ByteArray.size_extract];omega));rw[jhh,jrg,hl3]at HNB;have d3:¬(c:Int)≤128+55:=by omega
   have d3':¬(c:Int)≤183:=by omega
   have hck:(c:Int)=(k:Int)+183:=by omega
   have d4:¬(s.size:Int) < 1+(k:Int):=by omega
   have hcc:(c:Int) - 128 - 55=(k:Int):=by omega
   have d5:(1:Int)≤1+(k:Int):=by omega
   have d6:1+(k:Int)≤(s.size:Int):=by omega
   have d7:(1+(k:Int)).toNat=1+k:=by omega
   have d8:(0:Int)≤1+(k:Int):=by omega
   have HV:=Hd (show HdV (false,1+k,n)=.tuple #[.bool false,.int .i64 (1+(k:Int)),.int .u64 (n:Int),.bool true] by unfold HdV;simp);rw[HV.o];clear h hc h1 h2 h3 hk hL hl1 hl3 hck;go_enter Tryz.func265,Tryz.ntmps265;go_wp2_with fail
   refine (HNB.o _).mono ?_;rintro e w1 ⟨rfl,hE⟩;have HE:=Hd hE;clear hE;go_wp2_with fail
   exact bodyPost_ret (v:=.tuple #[.bool false,.int .i64 (1+(k:Int)),.int .u64 (n:Int),.bool true]) (by kernel_rfl) rfl ⟨rfl,HE.o⟩
 ·rw[if_neg h2]at h
  simp only at h;have d2:(192:Int)≤(c:Int):=by omega
  by_cases h3:c - 192≤55
  ·rw[if_pos h3]at h
   split at h
   case isFalse=>cases h
   obtain rfl:=Option.some.inj h;have d3:(c:Int)≤192+55:=by omega
   have d3':(c:Int)≤247:=by omega
   have hcs:(((c - 192:Nat)):Int)=(c:Int) - 192:=by omega
   have hw1:(0:Int)≤(c:Int) - 192:=by omega
   have hw2:(c:Int) - 192 < 18446744073709551616:=by omega
   have hw3:((c:Int) - 192) % 18446744073709551616=(c:Int) - 192:=by omega
   have HV:=Hd (show HdV (true,1,c - 192)=.tuple #[.bool true,.int .i64 1,.int .u64 ((c:Int) - 192),.bool true] by unfold HdV;rw[hcs];rfl);rw[HV.o];clear h hc h1 h2 h3 hcs;go_enter Tryz.func265,Tryz.ntmps265;go_wp2_with fail
   exact bodyPost_ret (v:=.tuple #[.bool true,.int .i64 1,.int .u64 ((c:Int) - 192),.bool true]) (by kernel_rfl) rfl ⟨rfl,ExtR w⟩
  ·rw[if_neg h3]at h
   obtain⟨k,hk⟩:∃ k,k=c - 192 - 55:=⟨_,rfl⟩
   rw[←hk]at h;cases hL:lenB s (1+k)with
   | none=>rw[hL]at h;cases h
   | some n =>
   rw[hL]at h;simp only at h;split at h
   case isFalse=>cases h
   obtain rfl:=Option.some.inj h
   obtain⟨hl1,_,hl3,_,hl5⟩:=jcJ hL
   have hk8:k≤8:=by omega
   have HNB:=Hd (fun w1=>ji2 w1 (s.extract 1 (1+k)) (by rw[ByteArray.size_extract];omega));rw[jhh,jrg,hl3]at HNB;have d3:¬(c:Int)≤192+55:=by omega
   have d3':¬(c:Int)≤247:=by omega
   have hck:(c:Int)=(k:Int)+247:=by omega
   have d4:¬(s.size:Int) < 1+(k:Int):=by omega
   have hcc:(c:Int) - 192 - 55=(k:Int):=by omega
   have d5:(1:Int)≤1+(k:Int):=by omega
   have d6:1+(k:Int)≤(s.size:Int):=by omega
   have d7:(1+(k:Int)).toNat=1+k:=by omega
   have d8:(0:Int)≤1+(k:Int):=by omega
   have HV:=Hd (show HdV (true,1+k,n)=.tuple #[.bool true,.int .i64 (1+(k:Int)),.int .u64 (n:Int),.bool true] by unfold HdV;simp);rw[HV.o];clear h hc h1 h2 h3 hk hL hl1 hl3 hck;go_enter Tryz.func265,Tryz.ntmps265;go_wp2_with fail
   refine (HNB.o _).mono ?_;rintro e w1 ⟨rfl,hE⟩;have HE:=Hd hE;clear hE;go_wp2_with fail
   exact bodyPost_ret (v:=.tuple #[.bool true,.int .i64 (1+(k:Int)),.int .u64 (n:Int),.bool true]) (by kernel_rfl) rfl ⟨rfl,HE.o⟩
end
end Go.Proofs.YtcpnjmcipainpaaGreatDoor
