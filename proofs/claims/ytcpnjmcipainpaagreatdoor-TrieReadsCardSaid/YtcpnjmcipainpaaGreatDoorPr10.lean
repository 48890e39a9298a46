/- Lemmas; each is under no condition but those that it states. -/
import Derived.Test.YtcpnjmcipainpaaGreatDoorPr9
import Derived.Test.YtcpnjmcipainpaaGreatDoorPr6
namespace Go.Proofs.YtcpnjmcipainpaaGreatDoor
set_option linter.unusedSimpArgs false
set_option linter.unusedVariables false
set_option maxRecDepth 100000
set_option maxHeartbeats 16000000
open Go Go.RowKit
def jdO(leaf odd:Bool):UInt8:=(if leaf then 2 else 0)+(if odd then 1 else 0)
theorem jvh(leaf odd:Bool):jxk leaf odd=((jdO leaf odd).toNat:Int):=by cases leaf <;> cases odd <;> rfl
def oddB(p:vB):Bool:=p.size % 2 == 1
def jb7(p:vB)(leaf:Bool):List UInt8:=jdO leaf (oddB p) ::(if oddB p then []else [0])
def putB(p:vB)(leaf:Bool):vB:=jbr ⟨(jb7 p leaf++p.data.toList).toArray⟩
theorem jxB(w:World)(p:vB)(b:Nat)(hp:w.cell? ⟨b,0,none⟩=some (.string p)):vQ 248 #[.pointer (some ⟨b,0,none⟩)] w fun e w'=>e=.returned (.bool (oddB p))/\w=w':=by
 have e:oddB p=decide ((p.size:Int) % 2=1):=by
  unfold oddB
  by_cases h:p.size % 2=1
  ·have h2:(p.size:Int) % 2=1:=by omega
   simp[h,h2]
  ·have h2:¬(p.size:Int) % 2=1:=by omega
   simp only[h2,decide_false];simp;omega
 go_enter Tryz.func248,Tryz.ntmps248;go_wp2_with fail
 go_ret
 exact⟨by rw[e];rfl,rfl⟩
theorem Tryz.run_lit1(w:World)(b:UInt8):(convert 92 9 (.slice (some ⟨w.heap.size,0,none⟩) 1 1)).run Tryz.prog (w.alloc (.cells #[.int .u8 (b.toNat:Int)] 5))=.ok (.string ⟨#[b]⟩) (w.alloc (.cells #[.int .u8 (b.toNat:Int)] 5)):=by
 refine run_convert_bytes_back (w.alloc (.cells #[.int .u8 (b.toNat:Int)] 5)) _ _ _ ⟨w.heap.size,0,none⟩ 1 [b] Tryz.uBytes Tryz.uU8 Tryz.uStr (fun j hj=>?_);have h0:j=0:=by simp at hj;omega
 subst h0;exact (Blk.new w _).cell vF
theorem jxK(w:World)(p:vB)(leaf:Bool)(hs:p.size<=900000)(hv:jat p=true):vR 232 #[.string p,.bool leaf] w (.tuple #[.string (putB p leaf),.bool true]):=by
 have HV:=Hd hv;clear hv;go_enter Tryz.func232,Tryz.ntmps232;go_wp2_with fail
 refine vC (jkg _ p vO) fun w1 hw1=>?_;rw[HV.o]
 obtain⟨g,hg⟩:=vE w.heap.size
 have q1:w1.cell? ⟨g,0,none⟩=some (.string p):=by rw[hw1,hg];exact (Blk.new w _).cell vF
 have hE:Ext w w1:=by rw[hw1];exact (ExtR w).alloc _
 rw[<-hg];have HE:=Hd hE;clear hE hw1 hg;go_wp2_with fail
 refine (jxB w1 p g q1).mono ?_;rintro e w2 ⟨rfl,rfl⟩
 obtain⟨od,hod⟩:∃ o,o=oddB p:=⟨_,rfl⟩
 rw[<-hod];have HOD:=Hd hod;clear hod;go_wp2_with fail
 refine (jxl w1 leaf od).mono ?_;rintro e w2 ⟨rfl,rfl⟩;rw[jvh]
 obtain⟨fb,hfb⟩:∃ f,f=jdO leaf od:=⟨_,rfl⟩
 rw[<-hfb];have hcv:=Tryz.run_lit1 w2 fb;have hq3:=jaa q1 ((ExtR w2).alloc (.cells #[Value.int .u8 (fb.toNat:Int)] 5));have hE3:Ext w (w2.alloc (.cells #[Value.int .u8 (fb.toNat:Int)] 5)):=HE.o.alloc _;have HE3:=Hd hE3;have HFB:=Hd hfb;clear hE3 HE hfb q1;go_wp2_with fail
 clear hcv
 obtain⟨w3,hw3⟩:∃ x,x=w2.alloc (.cells #[Value.int .u8 (fb.toNat:Int)] 5):=⟨_,rfl⟩
 rw[<-hw3]at hq3 HE3 ⊢;clear hw3;refine (jxB w3 p g hq3).mono ?_;rintro e w4 ⟨rfl,rfl⟩;rw[<-HOD.o];cases od with
 | true =>
  go_wp2_with fail
  have hps:((⟨#[fb]⟩:vB)++p).size<=1000000:=by rw[ByteArray.size_append];show 1+p.size<=_;omega
  refine vC (jmx _ _ hps) fun w5 hE5=>?_;have hX:=HE3.o.trans hE5;have hput:jbr ((⟨#[fb]⟩:vB)++p)=putB p leaf:=by
   unfold putB jb7;rw[<-HOD.o, <-HFB.o,if_pos rfl]
   congr 1
  rw[hput];go_wp2_with fail
  exact bodyPost_ret (v:=.tuple #[.string (putB p leaf),.bool true]) vY rfl ⟨rfl,hX⟩
 | false =>
  go_wp2_with fail
  have hps:((⟨#[fb]⟩:vB)++⟨#[0]⟩++p).size<=1000000:=by rw[ByteArray.size_append,ByteArray.size_append];show 1+1+p.size<=_;omega
  refine vC (jmx _ _ hps) fun w5 hE5=>?_;have hX:=HE3.o.trans hE5;have hput:jbr ((⟨#[fb]⟩:vB)++⟨#[0]⟩++p)=putB p leaf:=by
   unfold putB jb7;rw[<-HOD.o, <-HFB.o,if_neg vI]
   congr 1
  rw[hput];go_wp2_with fail
  exact bodyPost_ret (v:=.tuple #[.string (putB p leaf),.bool true]) vY rfl ⟨rfl,hX⟩
end Go.Proofs.YtcpnjmcipainpaaGreatDoor
