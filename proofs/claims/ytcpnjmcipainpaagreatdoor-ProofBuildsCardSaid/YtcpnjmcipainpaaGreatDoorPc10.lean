/- Parts of the proof, one behind the other: NibbleC. Each is under no condition but those that it states. -/
import Derived.Test.YtcpnjmcipainpaaGreatDoorPc9
import Derived.Test.YtcpnjmcipainpaaGreatDoorPc6
namespace Go.Proofs.YtcpnjmcipainpaaGreatDoor
set_option linter.unusedSimpArgs false
set_option linter.unusedVariables false
set_option maxRecDepth 100000
set_option maxHeartbeats 16000000
section
open Go Go.RowKit
def jcZ(leaf odd:Bool):UInt8:=(if leaf then 2 else 0)+(if odd then 1 else 0)
theorem jp3(leaf odd:Bool):jrr leaf odd=((jcZ leaf odd).toNat:Int):=by cases leaf <;> cases odd <;> rfl
def oddB(p:ByteArray):Bool:=p.size % 2 == 1
def jbQ(p:ByteArray)(leaf:Bool):List UInt8:=jcZ leaf (oddB p) ::(if oddB p then []else [0])
def putB(p:ByteArray)(leaf:Bool):ByteArray:=jef ⟨(jbQ p leaf++p.data.toList).toArray⟩
theorem jrF(w:World)(p:ByteArray)(b:Nat)(hp:w.cell? ⟨b,0,none⟩=some (.string p)):Calls Tryz.prog 248 #[.pointer (some ⟨b,0,none⟩)] w fun e w'=>e=.returned (.bool (oddB p))∧w=w':=by
 have e:oddB p=decide ((p.size:Int) % 2=1):=by
  unfold oddB
  by_cases h:p.size % 2=1
  ·have h2:(p.size:Int) % 2=1:=by omega
   simp[h,h2]
  ·have h2:¬(p.size:Int) % 2=1:=by omega
   simp only[h2,decide_false];simp;omega
 go_enter Tryz.func248,Tryz.ntmps248;go_wp2_with fail
 go_ret
 exact⟨by rw[e];rfl,rfl⟩
theorem Tryz.run_lit1(w:World)(b:UInt8):(convert 92 9 (.slice (some ⟨w.heap.size,0,none⟩) 1 1)).run Tryz.prog (w.alloc (.cells #[.int .u8 (b.toNat:Int)] 5))=.ok (.string ⟨#[b]⟩) (w.alloc (.cells #[.int .u8 (b.toNat:Int)] 5)):=by
 refine run_convert_bytes_back (w.alloc (.cells #[.int .u8 (b.toNat:Int)] 5)) _ _ _ ⟨w.heap.size,0,none⟩ 1 [b] Tryz.uBytes Tryz.uU8 Tryz.uStr (fun j hj=>?_);have h0:j=0:=by simp at hj;omega
 subst h0;exact (Blk.new w _).cell (by rfl)
theorem jrL(w:World)(p:ByteArray)(leaf:Bool)(hs:p.size≤900000)(hv:jaA p=true):Calls Tryz.prog 232 #[.string p,.bool leaf] w fun e w'=>e=.returned (.tuple #[.string (putB p leaf),.bool true])∧Ext w w':=by
 have HV:=Hd hv;clear hv;go_enter Tryz.func232,Tryz.ntmps232;go_wp2_with fail
 refine (jnJ _ p (by omega)).mono ?_;rintro e w1 ⟨rfl,hw1⟩;rw[HV.o]
 obtain⟨g,hg⟩:∃ g,g=w.heap.size:=⟨_,rfl⟩
 have q1:w1.cell? ⟨g,0,none⟩=some (.string p):=by rw[hw1,hg];exact (Blk.new w _).cell (by rfl)
 have hE:Ext w w1:=by rw[hw1];exact (ExtR w).alloc _
 rw[←hg];have HE:=Hd hE;clear hE hw1 hg;go_wp2_with fail
 refine (jrF w1 p g q1).mono ?_;rintro e w2 ⟨rfl,rfl⟩
 obtain⟨od,hod⟩:∃ o,o=oddB p:=⟨_,rfl⟩
 rw[←hod];have HOD:=Hd hod;clear hod;go_wp2_with fail
 refine (jrs w1 leaf od).mono ?_;rintro e w2 ⟨rfl,rfl⟩;rw[jp3]
 obtain⟨fb,hfb⟩:∃ f,f=jcZ leaf od:=⟨_,rfl⟩
 rw[←hfb];have hcv:=Tryz.run_lit1 w2 fb;have hq3:=jab q1 ((ExtR w2).alloc (.cells #[Value.int .u8 (fb.toNat:Int)] 5));have hE3:Ext w (w2.alloc (.cells #[Value.int .u8 (fb.toNat:Int)] 5)):=HE.o.alloc _;have HE3:=Hd hE3;have HFB:=Hd hfb;clear hE3 HE hfb q1;go_wp2_with fail
 clear hcv
 obtain⟨w3,hw3⟩:∃ x,x=w2.alloc (.cells #[Value.int .u8 (fb.toNat:Int)] 5):=⟨_,rfl⟩
 rw[←hw3]at hq3 HE3 ⊢;clear hw3;refine (jrF w3 p g hq3).mono ?_;rintro e w4 ⟨rfl,rfl⟩;rw[←HOD.o];cases od with
 | true =>
  go_wp2_with fail
  have hps:((⟨#[fb]⟩:ByteArray)++p).size≤1000000:=by rw[ByteArray.size_append];show 1+p.size≤_;omega
  refine (jm6 _ _ hps).mono ?_;rintro e w5 ⟨rfl,hE5⟩;have hX:=HE3.o.trans hE5;have hput:jef ((⟨#[fb]⟩:ByteArray)++p)=putB p leaf:=by
   unfold putB jbQ;rw[←HOD.o, ←HFB.o,if_pos rfl]
   congr 1
  rw[hput];go_wp2_with fail
  exact bodyPost_ret (v:=.tuple #[.string (putB p leaf),.bool true]) (by kernel_rfl) rfl ⟨rfl,hX⟩
 | false =>
  go_wp2_with fail
  have hps:((⟨#[fb]⟩:ByteArray)++⟨#[0]⟩++p).size≤1000000:=by rw[ByteArray.size_append,ByteArray.size_append];show 1+1+p.size≤_;omega
  refine (jm6 _ _ hps).mono ?_;rintro e w5 ⟨rfl,hE5⟩;have hX:=HE3.o.trans hE5;have hput:jef ((⟨#[fb]⟩:ByteArray)++⟨#[0]⟩++p)=putB p leaf:=by
   unfold putB jbQ;rw[←HOD.o, ←HFB.o,if_neg (by decide)]
   congr 1
  rw[hput];go_wp2_with fail
  exact bodyPost_ret (v:=.tuple #[.string (putB p leaf),.bool true]) (by kernel_rfl) rfl ⟨rfl,hX⟩
end
end Go.Proofs.YtcpnjmcipainpaaGreatDoor
