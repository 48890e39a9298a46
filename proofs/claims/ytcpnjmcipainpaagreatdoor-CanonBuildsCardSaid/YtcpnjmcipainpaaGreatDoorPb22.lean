/- Parts of the proof, one behind the other: CanonB, CanonC, CanonD, CanonE, CanonF, CanonG, CanonH, CanonI, CanonJ, CanonK. Each is under no condition but those that it states. -/
import Derived.Test.YtcpnjmcipainpaaGreatDoorPb21
import Derived.Test.YtcpnjmcipainpaaGreatDoorPb5
namespace Go.Proofs.YtcpnjmcipainpaaGreatDoor
set_option linter.unusedSimpArgs false
set_option linter.unusedVariables false
set_option maxRecDepth 100000
set_option maxHeartbeats 16000000
section
open Go Go.RowKit
def jcX(xs:List Pair):List Value:=xs.flatMap fun p=>[.string p.1,.string p.2]
theorem jfw(xs:List Pair):(jcX xs).length=xs.length * 2:=by
 induction xs with
 | nil=>rfl
 | cons x r ih=>unfold jcX at *;rw[List.flatMap_cons,List.length_append,ih];simp;omega
theorem jbx(xs ys:List Pair):jcX (xs++ys)=jcX xs++jcX ys:=by simp[jcX]
theorem jda:∀ (xs:List Pair) (j:Nat) (p:Pair),xs[j]?=some p→(jcX xs)[j * 2]?=some (.string p.1)∧(jcX xs)[j * 2+1]?=some (.string p.2)
 | [],j,p,h=>by simp at h
 | x :: r,0,p,h=>by simp at h;subst h;exact⟨rfl,rfl⟩
 | x :: r,j+1,p,h=>by
  have:=jda r j p (by simpa using h)
  rw[show (j+1) * 2=j * 2+1+1 by omega];exact this
theorem Tryz.uRows:Tryz.prog.underlying 112=some (.slice 187):=by kernel_rfl
theorem Tryz.infoRow:(Tryz.prog.info? 187).map (fun i=>(i.zero,i.size,i.bytes))=some (some (.agg #[.string ⟨#[]⟩,.string ⟨#[]⟩]),2,32):=by kernel_rfl
theorem Tryz.sRows:jcw Tryz.prog 112 187 2 32:=jcw.mk' Tryz.uRows Tryz.infoRow rfl (by decide)
abbrev PRow(w0 w:World)(v:Value)(n:Nat)(xs:List Pair):Prop:=ORow 187 2 w0 w v n (jcX xs)
theorem PRow.rd{w0 w:World}{v:Value}{n:Nat}{xs:List Pair}(h:PRow w0 w v n xs):RdP w v xs:=by
 have hl:xs.length=n:=by have:=h.len;rw[jfw]at this;omega
 obtain⟨_,⟨rfl,h2⟩ |⟨g,cap,cur,rfl,h3,h4,h5,h6,h7⟩⟩:=h.own
 ·exact .inl ⟨none,0,rfl,List.eq_nil_of_length_eq_zero (by omega)⟩
 ·subst hl
  refine .inr ⟨g,0,cap,rfl,(Array.getElem?_eq_some_iff.1 h4).1,h5,fun j x hx=>?_⟩;have hj:=(List.getElem?_eq_some_iff.1 hx).1
  obtain⟨e1,e2⟩:=jda xs j x hx
  exact⟨by rw[Nat.zero_add,h.own.cellAt (j * 2) (by omega),e1],by rw[Nat.zero_add,h.own.cellAt (j * 2+1) (by omega),e2]⟩
theorem Tryz.enterPath:∀ args w,(callFunc 90 args).run Tryz.prog w=.ok (.enter 90 args) w:=fun _ _=>by kernel_rfl
def jbb(l:List Pair):List Pair:=l.map fun p=>(jcg p.1,p.2)
def jmj(w:World)(l:List Pair)(v i:Value)(wr:World):Prop:=∃ k:Nat,k≤l.length∧i=.int .i64 k∧PRow w wr v k ((jbb l).take k)
theorem jmS{w:World}{T:TypeId}{sz:Nat}{w0:World}{v:Value}{n:Nat}{xs:List Value}(h:ORow T sz w0 w v n xs):¬ v.ownBlock=some w.heap.size:=fun e=>by have:=h.lt _ e;omega
theorem jl6(w:World)(v:Value)(l:List Pair)(hv:RdP w v l)(hn:l.length≤1000000)(hs:∀ p∈l,p.1.size≤1000000):Calls Tryz.prog 79 #[v] w fun e w'=>∃ u,e=.returned u∧PRow w w' u l.length (jbb l):=by
 obtain⟨a,c,hsl⟩:=hv.sl
 have HV:=Hd hv;have HS:=Hd hs;subst hsl;clear hv hs
 obtain⟨i0,hi,hz0,hz1,hz2⟩:=info_parts Tryz.infoRow
 obtain⟨w1,hmk0,hown,hgr⟩:=run_make_own (P:=Tryz.prog) (w:=w) w.heap.size 112 187 i0 _ 2 Tryz.uRows hi hz0 hz1 .i64 .i64 l.length (by rw[hz2];omega) (by unfold maxLen;omega) (Nat.le_refl _)
 have HO:=Hd hown;have HG:=Hd hgr;clear hown hgr;go_enter Tryz.func79,Tryz.ntmps79;go_wp2_with fail
 go_loopw [3,11] (fun v i wr=>jmj w l v i wr) (fun _ i _=>l.length - (intOf i).toNat)
 case atStart=>exact⟨0,Nat.zero_le _,rfl,ORow.made w HO.o HG.o⟩
 case round =>
  obtain⟨k,hk,rfl,hR⟩:=hrel
  obtain⟨a2,c2,rfl⟩:=hR.sl
  have HR:=Hd hR;clear hR
  by_cases hlt:k < l.length
  ·rcases HV.o with⟨_,_,_,h0⟩ |⟨b,o,c',hh,hb,hc,hcell⟩
   ·rw[h0]at hlt;cases hlt
   cases hh
   obtain⟨p,hp⟩:∃ p,l[k]?=some p:=⟨_,List.getElem?_eq_getElem hlt⟩
   obtain⟨q1,q2⟩:=hcell k p hp
   have q1:=jab q1 HR.o.ext;have q2:=jab q2 HR.o.ext;have hsp:=HS.o p (List.mem_of_getElem? hp)
   obtain⟨x,y⟩:=p
   simp only at q1 q2 hsp;have b1:(k:Int) < (l.length:Int):=by omega
   have hrl:(jbb l).take (k+1)=(jbb l).take k++[(jcg x,y)]:=by
    rw[List.take_add_one];unfold jbb;rw[List.getElem?_map,hp];rfl
   have HRL:=Hd hrl;have HSP:=Hd hsp;have Q0:=Hd (show (wr.alloc (.cells #[.string x,.string y] 95)).cell? ⟨wr.heap.size,0,none⟩=some (.string x)from(Blk.new wr _).cell (by rfl));have Q1:=Hd (show (wr.alloc (.cells #[.string x,.string y] 95)).cell? ⟨wr.heap.size,1,none⟩=some (.string y)from(Blk.new wr _).cell (by rfl));have NB:=Hd (jmS HR.o);clear hcell hp hsp hrl;go_wp2_with fail
   refine jaG [0,1,2,3,4,5,6,7,8,9] [7,8] Ext (jah (fun b=>(Value.slice a2 k c2).ownBlock=some b)) ExtR ExtT (fun x y z h k=>jah.trans h k) (fun x y h=>h.mono (fun _ _ h=>h.elim)) (by kernel_rfl) (by kernel_rfl) (by kernel_rfl) ?_;iterate 2 (refine jao _ rfl (by kernel_rfl) rfl rfl (fun K hK=>?_);go_big_quiet_op;refine hK _ ?_;clear hK K)
   refine jaP ⟨wr.heap.size,0,none⟩ _ rfl (by kernel_rfl) rfl rfl (fun w2 h2=>jaa Tryz.uStr rfl (jaw (by exact Q0.o) h2 NB.o)) ?_;simp only[Act.put,sA,sB,sC];refine jeV _ 90 #[.string x] (.string (jcg x)) rfl (by kernel_rfl) rfl (fun w1=>jan Tryz.enterPath (by kernel_rfl)) (fun w1 h1=>jkf w1 x HSP.o) ?_;simp only[Act.put,sA,sB,sC]
   (refine jao _ rfl (by kernel_rfl) rfl rfl (fun K hK=>?_);go_big_quiet_op;refine hK _ ?_;clear hK K)
   refine jaP ⟨wr.heap.size,1,none⟩ _ rfl (by kernel_rfl) rfl rfl (fun w2 h2=>jaa Tryz.uStr rfl (jaw (by exact Q1.o) h2 NB.o)) ?_;simp only[Act.put,sA,sB,sC]
   (refine jao _ rfl (by kernel_rfl) rfl rfl (fun K hK=>?_);go_big_quiet_op;refine hK _ ?_;clear hK K)
   refine jaK _ rfl (by kernel_rfl) rfl (fun w2 he K hK=>?_);have HR2:=Hd (HR.o.mono ((((ExtR wr).alloc _).trans (jaj _)).trans he));clear he HR;go_simp;refine hK _ _ ((jah.refl _ w2).alloc _) ?_;clear hK K;refine jaK _ rfl (by kernel_rfl) rfl (fun w3 he K hK=>?_);have HR3:=Hd (HR2.o.mono (((ExtR w2).alloc _).trans he));have hB:∀ j u,([.string (jcg x),.string y]:List Value)[j]?=some u→w3.cell? ((⟨w2.heap.size,0,none⟩:Addr).add j)=some u:=fun j u hj=>jab (jaS (Blk.new w2 (.cells [Value.string (jcg x),.string y].toArray 187)) j u hj) he;refine jep Tryz.sRows HR3.o (.tmp 15) (.tmp 22) rfl rfl hB (by intro u hu;simp at hu;rcases hu with rfl | rfl <;> rfl) rfl rfl (by unfold maxLen;omega) (by omega) (fun v' w4 r1 r2 r3=>hK _ _ r2 ?_);have r1':PRow w w4 v' (k+1) ((jbb l).take (k+1)):=by
    unfold PRow;rw[HRL.o,jbx];exact r1
   have HR4:=Hd r1';clear hK K he r1 r2 r3 r1' hB HR2 HR3
   obtain⟨a4,c4,rfl⟩:=HR4.o.sl
   simp only[Act.put,sA,sB,sC]
   (refine jao _ rfl (by kernel_rfl) rfl rfl (fun K hK=>?_);go_big_quiet_op;refine hK _ ?_;clear hK K)
   refine jbt (by kernel_rfl) (fun w5 he=>?_);have HR5:=Hd (HR4.o.mono he);clear he HR4;go_wp2_with fail
   go_roundw
   case rel=>exact⟨k+1,by omega,by go_num,HR5.o⟩
   case measure=>simp[intOf];omega
  ·have hkl:k=l.length:=by omega
   subst hkl;go_wp2;go_ret;have h:=HR.o;rw[List.take_of_length_le (by simp[jbb])]at h
   exact⟨_,rfl,h⟩
def jaC(d:Nat)(l:List Pair):List Pair:=l.map fun p=>(p.1.extract d p.1.size,p.2)
def jma(w:World)(d:Nat)(l:List Pair)(v i:Value)(wr:World):Prop:=∃ k:Nat,k≤l.length∧i=.int .i64 k∧PRow w wr v k ((jaC d l).take k)
theorem jhg(w:World)(v:Value)(d:Nat)(l:List Pair)(hv:RdP w v l)(hn:l.length≤1000000)(hs:∀ p∈l,d≤p.1.size∧p.1.size≤1000000):Calls Tryz.prog 126 #[v,.int .i64 d] w fun e w'=>∃ u,e=.returned u∧PRow w w' u l.length (jaC d l):=by
 obtain⟨a,c,hsl⟩:=hv.sl
 have HV:=Hd hv;have HS:=Hd hs;subst hsl;clear hv hs
 obtain⟨i0,hi,hz0,hz1,hz2⟩:=info_parts Tryz.infoRow
 obtain⟨w1,hmk0,hown,hgr⟩:=run_make_own (P:=Tryz.prog) (w:=w) w.heap.size 112 187 i0 _ 2 Tryz.uRows hi hz0 hz1 .i64 .i64 l.length (by rw[hz2];omega) (by unfold maxLen;omega) (Nat.le_refl _)
 have HO:=Hd hown;have HG:=Hd hgr;clear hown hgr;go_enter Tryz.func126,Tryz.ntmps126;go_wp2_with fail
 go_loopw [5,13] (fun v i wr=>jma w d l v i wr) (fun _ i _=>l.length - (intOf i).toNat)
 case atStart=>exact⟨0,Nat.zero_le _,rfl,ORow.made w HO.o HG.o⟩
 case round =>
  obtain⟨k,hk,rfl,hR⟩:=hrel
  obtain⟨a2,c2,rfl⟩:=hR.sl
  have HR:=Hd hR;clear hR
  by_cases hlt:k < l.length
  ·rcases HV.o with⟨_,_,_,h0⟩ |⟨b,o,c',hh,hb,hc,hcell⟩
   ·rw[h0]at hlt;cases hlt
   cases hh
   obtain⟨p,hp⟩:∃ p,l[k]?=some p:=⟨_,List.getElem?_eq_getElem hlt⟩
   obtain⟨q1,q2⟩:=hcell k p hp
   have q1:=jab q1 HR.o.ext;have q2:=jab q2 HR.o.ext;have hsp:=HS.o p (List.mem_of_getElem? hp)
   obtain⟨x,y⟩:=p
   simp only at q1 q2 hsp;have b1:(k:Int) < (l.length:Int):=by omega
   have b2:(d:Int)≤(x.size:Int):=by omega
   have hrl:(jaC d l).take (k+1)=(jaC d l).take k++[(x.extract d x.size,y)]:=by
    rw[List.take_add_one];unfold jaC;rw[List.getElem?_map,hp];rfl
   have HRL:=Hd hrl;have Q0:=Hd (show (wr.alloc (.cells #[.string x,.string y] 187)).cell? ⟨wr.heap.size,0,none⟩=some (.string x)from(Blk.new wr _).cell (by rfl));have Q1:=Hd (show (wr.alloc (.cells #[.string x,.string y] 187)).cell? ⟨wr.heap.size,1,none⟩=some (.string y)from(Blk.new wr _).cell (by rfl));have NB:=Hd (jmS HR.o);clear hcell hp hsp hrl;go_wp2_with fail
   refine jaG [0,1,2,3,4,5,6,7,8,9,10] [8,9] Ext (jah (fun b=>(Value.slice a2 k c2).ownBlock=some b)) ExtR ExtT (fun x y z h k=>jah.trans h k) (fun x y h=>h.mono (fun _ _ h=>h.elim)) (by kernel_rfl) (by kernel_rfl) (by kernel_rfl) ?_;iterate 2 (refine jao _ rfl (by kernel_rfl) rfl rfl (fun K hK=>?_);go_big_quiet_op;refine hK _ ?_;clear hK K)
   refine jaP ⟨wr.heap.size,0,none⟩ _ rfl (by kernel_rfl) rfl rfl (fun w2 h2=>jaa Tryz.uStr rfl (jaw (by exact Q0.o) h2 NB.o)) ?_;simp only[Act.put,sA,sB,sC];iterate 3 (refine jao _ rfl (by kernel_rfl) rfl rfl (fun K hK=>?_);go_big_quiet_op;refine hK _ ?_;clear hK K)
   refine jaP ⟨wr.heap.size,1,none⟩ _ rfl (by kernel_rfl) rfl rfl (fun w2 h2=>jaa Tryz.uStr rfl (jaw (by exact Q1.o) h2 NB.o)) ?_;simp only[Act.put,sA,sB,sC]
   (refine jao _ rfl (by kernel_rfl) rfl rfl (fun K hK=>?_);go_big_quiet_op;refine hK _ ?_;clear hK K)
   refine jaK _ rfl (by kernel_rfl) rfl (fun w2 he K hK=>?_);have HR2:=Hd (HR.o.mono ((((ExtR wr).alloc _).trans (jaj _)).trans he));clear he HR;go_simp;refine hK _ _ ((jah.refl _ w2).alloc _) ?_;clear hK K;refine jaK _ rfl (by kernel_rfl) rfl (fun w3 he K hK=>?_);have HR3:=Hd (HR2.o.mono (((ExtR w2).alloc _).trans he));have hB:∀ j u,([.string (x.extract d x.size),.string y]:List Value)[j]?=some u→w3.cell? ((⟨w2.heap.size,0,none⟩:Addr).add j)=some u:=fun j u hj=>jab (jaS (Blk.new w2 (.cells [Value.string (x.extract d x.size),.string y].toArray 187)) j u hj) he;refine jep Tryz.sRows HR3.o (.tmp 17) (.tmp 25) rfl rfl hB (by intro u hu;simp at hu;rcases hu with rfl | rfl <;> rfl) rfl rfl (by unfold maxLen;omega) (by omega) (fun v' w4 r1 r2 r3=>hK _ _ r2 ?_);have r1':PRow w w4 v' (k+1) ((jaC d l).take (k+1)):=by
    unfold PRow;rw[HRL.o,jbx];exact r1
   have HR4:=Hd r1';clear hK K he r1 r2 r3 r1' hB HR2 HR3
   obtain⟨a4,c4,rfl⟩:=HR4.o.sl
   simp only[Act.put,sA,sB,sC]
   (refine jao _ rfl (by kernel_rfl) rfl rfl (fun K hK=>?_);go_big_quiet_op;refine hK _ ?_;clear hK K)
   refine jbt (by kernel_rfl) (fun w5 he=>?_);have HR5:=Hd (HR4.o.mono he);clear he HR4;go_wp2_with fail
   go_roundw
   case rel=>exact⟨k+1,by omega,by go_num,HR5.o⟩
   case measure=>simp[intOf];omega
  ·have hkl:k=l.length:=by omega
   subst hkl;go_wp2;go_ret;have h:=HR.o;rw[List.take_of_length_le (by simp[jaC])]at h
   exact⟨_,rfl,h⟩
def jdR(i:Nat)(p:Pair):Bool:=match p.1.data.toList with | []=>false | a :: _=>a.toNat == i
theorem jlB{x y:ByteArray}(i:Nat)(h:0 < x.size):jdR i (x,y)=(x[0].toNat == i):=by
 obtain⟨⟨l⟩⟩:=x
 cases l with
 | nil=>exact absurd h (Nat.lt_irrefl 0)
 | cons a r=>rfl
theorem jkZ(a b:Nat):((a:Int) ==(b:Int))=(a == b):=by
 by_cases h:a=b
 ·subst h;simp
 ·have h2:¬(a:Int)=(b:Int):=by omega
  rw[beq_eq_false_iff_ne.2 h,beq_eq_false_iff_ne.2 h2]
theorem joa(w:World)(x y:ByteArray)(gi i:Nat)(hs:x.size≤1000000)(hi:i < 256)(hc:w.cell? ⟨gi,0,none⟩=some (.int .i64 (i:Int))):Calls Tryz.prog 128 #[.agg #[.string x,.string y],.pointer (some ⟨gi,0,none⟩)] w fun e w'=>e=.returned (.bool (jdR i (x,y)))∧Ext w w':=by
 have Q0:=Hd (show (w.alloc (.cells #[.string x,.string y] 187)).cell? ⟨w.heap.size,0,none⟩=some (.string x)from(Blk.new w _).cell (by rfl));have QI:=Hd (jab hc ((ExtR w).alloc (.cells #[.string x,.string y] 187)));clear hc
 by_cases h0:x.size=0
 ·have:=jdE h0
  subst this;have E:=Hd (show jdR i (⟨#[]⟩,y)=false from rfl);go_enter Tryz.func128,Tryz.ntmps128;go_wp2_with fail
  refine jad [0,1,2,3,4,5,6,7,8,9,10,11] Ext ExtR ExtT (by kernel_rfl) (by kernel_rfl) (by kernel_rfl) ?_
  (refine jac _ rfl (by kernel_rfl) rfl rfl (fun K hK=>?_);go_big_quiet_op;refine hK _ ?_;clear hK K)
  refine jai ⟨w.heap.size,0,none⟩ _ rfl (by kernel_rfl) rfl rfl (fun w2 h2=>jaa Tryz.uStr rfl (jab (by exact Q0.o) h2)) ?_;simp only[Act.put,sA,sB,sC];iterate 2 (refine jac _ rfl (by kernel_rfl) rfl rfl (fun K hK=>?_);go_big_quiet_op;refine hK _ ?_;clear hK K)
  iterate 6 (refine jaU _ rfl (by kernel_rfl) rfl ?_;simp only[Act.put,sA,sB,sC])
  iterate 2 (refine jac _ rfl (by kernel_rfl) rfl rfl (fun K hK=>?_);go_big_quiet_op;refine hK _ ?_;clear hK K)
  refine jas (by kernel_rfl) (fun w3 he=>?_);have HE3:=Hd ((((ExtR w).alloc (.cells #[.string ⟨#[]⟩,.string y] 187)).trans (jaj _)).trans he);clear he;go_wp2_with fail
  go_ret
  exact⟨by rw[E.o];rfl,HE3.o⟩
 ·have hpos:0 < x.size:=by omega
  have hne:=ja8 (s:=x) hpos;have c0:(0:Int) < (x.size:Int):=by omega
  have c1:=x[0].toNat_lt;have E:=Hd (jlB (y:=y) i hpos);have he2:((x[0].toNat:Int) ==(i:Int))=(x[0].toNat == i):=jkZ _ _;have HE2:=Hd he2;clear he2;go_enter Tryz.func128,Tryz.ntmps128;go_wp2_with fail
  refine jad [0,1,2,3,4,5,6,7,8,9,10,11] Ext ExtR ExtT (by kernel_rfl) (by kernel_rfl) (by kernel_rfl) ?_
  (refine jac _ rfl (by kernel_rfl) rfl rfl (fun K hK=>?_);go_big_quiet_op;refine hK _ ?_;clear hK K)
  refine jai ⟨w.heap.size,0,none⟩ _ rfl (by kernel_rfl) rfl rfl (fun w2 h2=>jaa Tryz.uStr rfl (jab (by exact Q0.o) h2)) ?_;simp only[Act.put,sA,sB,sC];iterate 3 (refine jac _ rfl (by kernel_rfl) rfl rfl (fun K hK=>?_);go_big_quiet_op;refine hK _ ?_;clear hK K)
  refine jai ⟨w.heap.size,0,none⟩ _ rfl (by kernel_rfl) rfl rfl (fun w2 h2=>jaa Tryz.uStr rfl (jab (by exact Q0.o) h2)) ?_;simp only[Act.put,sA,sB,sC];iterate 2 (refine jac _ rfl (by kernel_rfl) rfl rfl (fun K hK=>?_);go_big_quiet_op;refine hK _ ?_;clear hK K)
  refine jai ⟨gi,0,none⟩ _ rfl (by kernel_rfl) rfl rfl (fun w2 h2=>jaa Tryz.uInt rfl (jab (by exact QI.o) h2)) ?_;simp only[Act.put,sA,sB,sC];iterate 3 (refine jac _ rfl (by kernel_rfl) rfl rfl (fun K hK=>?_);go_big_quiet_op;refine hK _ ?_;clear hK K)
  refine jas (by kernel_rfl) (fun w3 he=>?_);have HE4:=Hd ((((ExtR w).alloc (.cells #[.string x,.string y] 187)).trans (jaj _)).trans he);clear he;rw[HE2.o, ←E.o]
  obtain⟨bb,hbb⟩:∃ bb,bb=jdR i (x,y):=⟨_,rfl⟩
  rw[←hbb];have HBB:=Hd hbb;clear hbb;go_wp2_with fail
  go_ret
  exact⟨by rw[←HBB.o];rfl,HE4.o⟩
def cutL(i:Nat)(l:List Pair):List Pair:=l.filter (jdR i)
theorem jk9(i:Nat)(l:List Pair){k:Nat}{p:Pair}(h:l[k]?=some p):cutL i (l.take (k+1))=cutL i (l.take k)++(if jdR i p then [p]else []):=by
 unfold cutL;rw[List.take_add_one,h,List.filter_append,Option.toList_some,List.filter_cons];simp
def jnp(w:World)(i:Nat)(l:List Pair)(v j:Value)(wr:World):Prop:=∃ k n:Nat,k≤l.length∧n≤k∧j=.int .i64 k∧PRow w wr v n (cutL i (l.take k))
theorem jnI(w:World)(v:Value)(gi i:Nat)(l:List Pair)(hv:RdP w v l)(hn:l.length≤1000000)(hs:∀ p∈l,p.1.size≤1000000)(hi:i < 256)(hc:w.cell? ⟨gi,0,none⟩=some (.int .i64 (i:Int))):Calls Tryz.prog 127 #[v,.func (.func 128) #[] #[.pointer (some ⟨gi,0,none⟩)]] w fun e w'=>∃ u n,e=.returned u∧PRow w w' u n (cutL i l):=by
 obtain⟨a,c,hsl⟩:=hv.sl
 have HV:=Hd hv;have HS:=Hd hs;have HC:=Hd hc;subst hsl;clear hv hs hc;go_enter Tryz.func127,Tryz.ntmps127;go_wp2_with fail
 go_loopw [5,10] (fun v j wr=>jnp w i l v j wr) (fun _ j _=>l.length - (intOf j).toNat)
 case atStart=>exact⟨0,0,Nat.zero_le _,Nat.zero_le _,rfl,ORow.nil _ _ (ExtR w)⟩
 case round =>
  obtain⟨k,n,hk,hnk,rfl,hR⟩:=hrel
  obtain⟨a2,c2,rfl⟩:=hR.sl
  have HR:=Hd hR;clear hR
  by_cases hlt:k < l.length
  ·rcases HV.o with⟨_,_,_,h0⟩ |⟨b,o,c',hh,hb,hc,hcell⟩
   ·rw[h0]at hlt;cases hlt
   cases hh
   obtain⟨p,hp⟩:∃ p,l[k]?=some p:=⟨_,List.getElem?_eq_getElem hlt⟩
   obtain⟨q1,q2⟩:=hcell k p hp
   have q1:=jab q1 HR.o.ext;have q2:=jab q2 HR.o.ext;have hsp:=HS.o p (List.mem_of_getElem? hp);have hct:=jk9 i l hp
   obtain⟨x,y⟩:=p
   simp only at q1 q2 hsp;have b1:(k:Int) < (l.length:Int):=by omega
   have HCT:=Hd hct;clear hcell hp hct;go_wp2_with fail
   refine (joa _ x y gi i hsp hi (jab HC.o (HR.o.ext.trans ((ExtR wr).alloc _)))).mono ?_;rintro e w3 ⟨rfl,hE⟩;have hX:=((ExtR wr).alloc (.cells #[.string x,.string y] 187)).trans hE;have HR3:=Hd (HR.o.mono hX);have hB3:=(Blk.new wr (.cells #[.string x,.string y] 187)).keeps hE (fun h=>h);have p0:=hB3.cell (i:=0) (v:=.string x) (by rfl);have p1:=hB3.cell (i:=1) (v:=.string y) (by rfl);clear hX hE hB3 q1 q2 HR;cases hpk:jdR i (x,y)with
   | true =>
    rw[hpk,if_pos rfl]at HCT;go_wp2_with (at_builtin;refine jaZ Tryz.sRows (HR3.o.mono ((ExtR w3).alloc _)) (.tmp 17) (.tmp 19) rfl rfl rfl (jaS (Blk.new w3 _)) (news:=[.string x,.string y]) (by intro u hu;simp at hu;rcases hu with rfl | rfl <;> rfl) rfl rfl ?c1 ?c2 (fun v' w' r1 r2 r3=>?_))
    case c1=>unfold maxLen;omega
    case c2=>omega
    have r1':PRow w w' v' (n+1) (cutL i (l.take (k+1))):=by unfold PRow;rw[HCT.o,jbx];exact r1
    obtain⟨a5,c5,rfl⟩:=r1'.sl
    have HR5:=Hd r1';clear r1 r2 r3 r1' HR3;go_wp2_with fail
    go_roundw
    case rel=>exact⟨k+1,n+1,by omega,by omega,by go_num,HR5.o⟩
    case measure=>simp[intOf];omega
   | false =>
    rw[hpk,if_neg (by simp),List.append_nil]at HCT;go_wp2_with fail
    go_roundw
    case rel=>exact⟨k+1,n,by omega,by omega,by go_num,by rw[HCT.o];exact HR3.o⟩
    case measure=>simp[intOf];omega
  ·have hkl:k=l.length:=by omega
   subst hkl;go_wp2;go_ret;have h:=HR.o;rw[List.take_length]at h
   exact⟨_,_,rfl,h⟩
theorem jfc{P:Program}{t e ty:TypeId}{i:TypeInfo}(ht:P.underlying t=some (.slice e))(hi:P.info? e=some i)(base:Option Addr)(n c:Nat)(hle:n≤c)(c2:Nat)(w:World) :
  (Builtin.append_ #[t,t] ty #[.slice base n c,.slice none 0 c2]).run P w=.ok (.slice base n c) w:=by
 have hs:(sizeOf e).run P w=.ok i.size w:=by simp[sizeOf,typeInfo,hi]
 have hl:∀ w,(Builtin.lenOf (.slice none 0 c2)).run P w=.ok 0 w:=fun w=>rfl;cases base <;> simp[Builtin.append_,Sem.run_bind,Result.andThen,run_underlying ht,hs,hl,Sem.run_pure,Builtin.firstCells,hle,storeCells]
inductive PT where
 | mk (text:ByteArray) (below:List PT)
def PT.text:PT→ByteArray | .mk t _=>t
def PT.kids:PT→List PT | .mk _ ks=>ks
def ptrV(b:Nat):Value:=.pointer (some ⟨b,0,none⟩)
def RdQ(A:Nat→Prop)(W:World)(v:Value)(bs:List Nat):Prop:=
 (v=.slice none 0 0∧bs=[])∨∃ g c,v=.slice (some ⟨g,0,none⟩) bs.length c∧bs≠[]∧A g∧g < W.heap.size∧bs.length≤c∧∀ (j:Nat) b,bs[j]?=some b→W.cell? ⟨g,j,none⟩=some (ptrV b)
mutual
def jbg(A:Nat→Prop):PT→Nat→World→Prop
 | .mk t ks,b,W=>A b∧∃ v bs,Blk W b (.cells #[.string t,v] 159)∧RdQ A W v bs∧jaE A ks bs W
def jaE(A:Nat→Prop):List PT→List Nat→World→Prop
 | [],bs,_=>bs=[]
 | k :: ks,bs,W=>∃ b r,bs=b :: r∧jbg A k b W∧jaE A ks r W
end
theorem RdQ.keeps{A:Nat→Prop}{F:BSet}{W W':World}{v:Value}{bs:List Nat}(h:RdQ A W v bs)(k:jah F W W')(hF:∀ x,A x→¬ F x):RdQ A W' v bs:=by
 rcases h with h |⟨g,c,h1,h2,h3,h4,h5,h6⟩
 ·exact .inl h
 ·exact .inr ⟨g,c,h1,h2,h3,Nat.lt_of_lt_of_le h4 k.size,h5,fun j b hb=>jaw (h6 j b hb) k (hF g h3)⟩
theorem RdQ.mono{A A':Nat→Prop}{W:World}{v:Value}{bs:List Nat}(h:RdQ A W v bs)(hA:∀ x,A x→x < W.heap.size→A' x):RdQ A' W v bs:=by
 rcases h with h |⟨g,c,h1,h2,h3,h4,h5,h6⟩
 ·exact .inl h
 ·exact .inr ⟨g,c,h1,h2,hA g h3 h4,h4,h5,h6⟩
mutual
theorem jbg.keeps{A:Nat→Prop}{F:BSet}{W W':World}(k:jah F W W')(hF:∀ x,A x→¬ F x):∀ (T:PT) (b:Nat),jbg A T b W→jbg A T b W'
 | .mk t ks,b,h=>by
  unfold jbg at *
  obtain⟨h1,v,bs,h2,h3,h4⟩:=h
  exact⟨h1,v,bs,h2.keeps k (hF b h1),h3.keeps k hF,jaE.keeps k hF ks bs h4⟩
theorem jaE.keeps{A:Nat→Prop}{F:BSet}{W W':World}(k:jah F W W')(hF:∀ x,A x→¬ F x):∀ (ks:List PT) (bs:List Nat),jaE A ks bs W→jaE A ks bs W'
 | [],bs,h=>by unfold jaE at *;exact h
 | x :: ks,bs,h=>by
  unfold jaE at *
  obtain⟨b,r,h1,h2,h3⟩:=h
  exact⟨b,r,h1,jbg.keeps k hF x b h2,jaE.keeps k hF ks r h3⟩
end
mutual
theorem jbg.mono{A A':Nat→Prop}{W:World}(hA:∀ x,A x→x < W.heap.size→A' x):∀ (T:PT) (b:Nat),jbg A T b W→jbg A' T b W
 | .mk t ks,b,h=>by
  unfold jbg at *
  obtain⟨h1,v,bs,h2,h3,h4⟩:=h
  exact⟨hA b h1 h2.lt,v,bs,h2,h3.mono hA,jaE.mono hA ks bs h4⟩
theorem jaE.mono{A A':Nat→Prop}{W:World}(hA:∀ x,A x→x < W.heap.size→A' x):∀ (ks:List PT) (bs:List Nat),jaE A ks bs W→jaE A' ks bs W
 | [],bs,h=>by unfold jaE at *;exact h
 | x :: ks,bs,h=>by
  unfold jaE at *
  obtain⟨b,r,h1,h2,h3⟩:=h
  exact⟨b,r,h1,jbg.mono hA x b h2,jaE.mono hA ks r h3⟩
end
theorem jaE.append{A:Nat→Prop}{W:World}:∀ (ks:List PT) (bs:List Nat) (ks':List PT) (bs':List Nat),jaE A ks bs W→jaE A ks' bs' W→jaE A (ks++ks') (bs++bs') W
 | [],bs,ks',bs',h,h'=>by unfold jaE at h;subst h;exact h'
 | x :: ks,bs,ks',bs',h,h'=>by
  unfold jaE at h
  obtain⟨b,r,rfl,h2,h3⟩:=h
  show jaE A (x ::(ks++ks')) (b ::(r++bs')) W;unfold jaE
  exact⟨b,r++bs',rfl,h2,jaE.append ks r ks' bs' h3 h'⟩
theorem Tryz.uParts:Tryz.prog.underlying 157=some (.slice 110):=by kernel_rfl
theorem Tryz.infoPtr:(Tryz.prog.info? 110).map (fun i=>(i.zero,i.size,i.bytes))=some (some (.pointer none),1,8):=by kernel_rfl
theorem Tryz.sParts:jcw Tryz.prog 157 110 1 8:=jcw.mk' Tryz.uParts Tryz.infoPtr rfl (by decide)
abbrev QRow(w0 w:World)(v:Value)(bs:List Nat):Prop:=ORow 110 1 w0 w v bs.length (bs.map ptrV)
structure jb9(w0 W:World)(b m:Nat)(t:ByteArray)(ks:List PT)(u:Value)(bs:List Nat):Prop where
 blk:Blk W b (.cells #[.string t,u] 159)
 new:w0.heap.size≤b
 row:QRow w0 W u bs
 nil:bs=[]→u=.slice none 0 0
 nb:¬ u.ownBlock=some b
 bm:m≠b
 mb:¬ u.ownBlock=some m
 mn:w0.heap.size≤m
 ml:m < W.heap.size
 ks:jaE (fun x=>w0.heap.size≤x∧x≠b∧x≠m∧¬ u.ownBlock=some x) ks bs W
theorem jb9.ext{w0 W W':World}{b m:Nat}{t:ByteArray}{ks:List PT}{u:Value}{bs:List Nat}(h:jb9 w0 W b m t ks u bs)(e:Ext W W'):jb9 w0 W' b m t ks u bs:=
 ⟨h.blk.keeps e (fun h=>h),h.new,h.row.mono e,h.nil,h.nb,h.bm,h.mb,h.mn,Nat.lt_of_lt_of_le h.ml e.size,jaE.keeps e (fun _ _ h=>h) _ _ h.ks⟩
theorem jb9.other{w0 W W':World}{b m:Nat}{t:ByteArray}{ks:List PT}{u:Value}{bs:List Nat}(h:jb9 w0 W b m t ks u bs)(e:jah (fun x=>x=m) W W'):jb9 w0 W' b m t ks u bs:=
 ⟨h.blk.keeps e (fun e=>h.bm e.symm),h.new,h.row.keeps e (fun x hx e=>h.mb (by have e:x=m:=e;rw[←e];exact hx)) (fun x hx e=>by have e:x=m:=e;have:=h.mn;omega),h.nil,h.nb,h.bm,h.mb,h.mn,Nat.lt_of_lt_of_le h.ml e.size,
  jaE.keeps e (fun x hx e=>hx.2.2.1 e) _ _ h.ks⟩
theorem jb9.setText{w0 W:World}{b m:Nat}{t:ByteArray}{ks:List PT}{u:Value}{bs:List Nat}(h:jb9 w0 W b m t ks u bs)(t':ByteArray):jb9 w0 (W.setCell ⟨b,0,none⟩ (.string t')) b m t' ks u bs:=
 have K:=jah.oneSet W ⟨b,0,none⟩ (.string t')
 ⟨h.blk.set_same (i:=0) (.string t'),h.new,h.row.keeps K (fun x hx e=>h.nb (by have e:x=b:=e;rw[←e];exact hx)) (fun x hx e=>by have e:x=b:=e;have:=h.new;omega),h.nil,h.nb,h.bm,h.mb,h.mn,Nat.lt_of_lt_of_le h.ml K.size,jaE.keeps K (fun x hx e=>hx.2.1 e) _ _ h.ks⟩
theorem jb9.part{w0 W:World}{b m:Nat}{t:ByteArray}{ks:List PT}{u:Value}{bs:List Nat}(h:jb9 w0 W b m t ks u bs):jbg (fun x=>w0.heap.size≤x) (.mk t ks) b W:=by
 unfold jbg
 refine⟨h.new,u,bs,h.blk,?_,jaE.mono (fun x hx _=>hx.1) _ _ h.ks⟩
 by_cases h0:bs=[]
 ·exact .inl ⟨h.nil h0,h0⟩
 ·obtain⟨_,⟨rfl,h2⟩ |⟨g,cap,cur,rfl,h3,h4,h5,h6,h7⟩⟩:=h.row.own
  ·exact absurd (List.eq_nil_of_length_eq_zero (by omega)) h0
  ·refine .inr ⟨g,cap,rfl,h0,h.row.new g rfl,(Array.getElem?_eq_some_iff.1 h4).1,h5,fun j b hb=>?_⟩
   have hj:=(List.getElem?_eq_some_iff.1 hb).1;rw[h.row.own.cellAt j (by omega),List.getElem?_map,hb];rfl
def jb3(T:PT):List PT:=if T.text.size < 32 then []else [T]
structure jmd(T:PT):Prop where
 size:T.text.size≤100000
 small:T.text.size < 32→T.kids=[]
 nohash:T.text.size < 32→∃ q,cutN T.text=some q∧jf0 T.text q=none
theorem jlp(W:World)(b:Nat)(a:Option Addr)(c:Nat):Calls Tryz.prog 125 #[ptrV b,.slice a 0 c] W fun e w'=>e=.returned (.string ⟨#[]⟩)∧w'=W:=by
 unfold ptrV;go_enter Tryz.func125,Tryz.ntmps125;go_wp2_with fail
 go_ret
 exact⟨rfl,rfl⟩
theorem jht{P:Program}{a:Act}{w w':World}{v:Value}{d:Option Tmp}{args:Array Operand}{ats:Array TypeId}{ty:TypeId}{pos:String}{af:Array Edge}{g:Option (Nat × Bool)}{vs:Array Value}(h:(Builtin.append_ ats ty vs).run P w=.ok v w')(hv:args.map a.eval=vs) :
  (execOp a.eval ⟨d,.call { callee:=.builtin .append,args:=args,argTypes:=ats },ty,pos,af,g⟩).run P w=.ok (.value v) w':=by
 subst hv;simp[execOp,resolve,invoke,Go.builtin,Act.eval,Sem.run_bind,Result.andThen,Sem.run_pure,h]
theorem jb9.add{w0 W w1 w2:World}{b m:Nat}{t:ByteArray}{ks:List PT}{u u':Value}{bs:List Nat}{k:Nat}{T:PT}(h:jb9 w0 W b m t ks u bs)(hk:jbg (fun x=>w1.heap.size≤x) T k W)(h1:b < w1.heap.size)(h1m:m < w1.heap.size)(h2:∀ x,u.ownBlock=some x→x < w1.heap.size)(h3:w0.heap.size≤w1.heap.size)
  (r1:QRow w0 w2 u' (bs++[k])) (r2:jah (fun x=>u.ownBlock=some x) W w2) (r3:u'.ownBlock=u.ownBlock∨∀ x,u'.ownBlock=some x→W.heap.size≤x) :
  jb9 w0 (w2.setCell ⟨b,1,none⟩ u') b m t (ks++[T]) u' (bs++[k]):=by
 have K:jah (fun x=>x=b∨u.ownBlock=some x) W (w2.setCell ⟨b,1,none⟩ u'):=(r2.mono (fun x _ hx=>.inr hx)).setCell (.inl (.inl rfl)) _;have hlt:=h.blk.lt;have nb':¬ u'.ownBlock=some b:=fun e=>by
  rcases r3 with r3 | r3
  ·exact h.nb (r3 ▸ e)
  ·have:=r3 b e;omega
 have hav:∀ x,x < W.heap.size→¬ u.ownBlock=some x→¬ u'.ownBlock=some x:=fun x hx hu e=>by
  rcases r3 with r3 | r3
  ·exact hu (r3 ▸ e)
  ·have:=r3 x e;omega
 refine⟨?_,h.new,r1.keeps (jah.oneSet w2 ⟨b,1,none⟩ u') (fun x hx e=>nb' (by have e:x=b:=e;rw[←e];exact hx)) (fun x hx e=>by have e:x=b:=e;have:=h.new;omega),fun e=>absurd e (by simp),nb',h.bm,hav m h.ml h.mb,h.mn,Nat.lt_of_lt_of_le h.ml K.size,?_⟩
 ·have:=(h.blk.keeps r2 h.nb).set_same (i:=1) u'
  exact this
 ·refine jaE.append _ _ _ _ ?_ ?_
  ·refine jaE.keeps K (fun x hx e=>?_) _ _ (jaE.mono (A':=fun x=>w0.heap.size≤x∧x≠b∧¬ u.ownBlock=some x∧x≠m∧¬ u'.ownBlock=some x) (fun x hx hlt=>⟨hx.1,hx.2.1,hx.2.2.2,hx.2.2.1,hav x hlt hx.2.2.2⟩) _ _ h.ks) |> jaE.mono (fun x hx _=>⟨hx.1,hx.2.1,hx.2.2.2.1,hx.2.2.2.2⟩) _ _
   rcases e with e | e
   ·exact hx.2.1 e
   ·exact hx.2.2.1 e
  ·unfold jaE
   refine⟨k,[],rfl,?_,by unfold jaE;rfl⟩
   have hk1:jbg (fun x=>w0.heap.size≤x∧x≠b∧¬ u.ownBlock=some x∧x≠m∧¬ u'.ownBlock=some x) T k W:=jbg.mono (fun x hx hlt=>⟨by omega,by omega,fun e=>by have:=h2 x e;omega,by omega,hav x hlt (fun e=>by have:=h2 x e;omega)⟩) _ _ hk;refine jbg.mono (fun x hx _=>⟨hx.1,hx.2.1,hx.2.2.2.1,hx.2.2.2.2⟩) _ _ (jbg.keeps K (fun x hx e=>?_) _ _ hk1);rcases e with e | e
   ·exact hx.2.1 e
   ·exact hx.2.2.1 e
theorem jb9.same{w0 W:World}{b m:Nat}{t:ByteArray}{ks:List PT}{u:Value}{bs:List Nat}(h:jb9 w0 W b m t ks u bs):jb9 w0 (W.setCell ⟨b,1,none⟩ u) b m t ks u bs:=
 have K:=jah.oneSet W ⟨b,1,none⟩ u
 ⟨h.blk.set_same (i:=1) u,h.new,h.row.keeps K (fun x hx e=>h.nb (by have e:x=b:=e;rw[←e];exact hx)) (fun x hx e=>by have e:x=b:=e;have:=h.new;omega),h.nil,h.nb,h.bm,h.mb,h.mn,Nat.lt_of_lt_of_le h.ml K.size,jaE.keeps K (fun x hx e=>hx.2.1 e) _ _ h.ks⟩
theorem jbg.open{A:Nat→Prop}{T:PT}{b:Nat}{W:World}(h:jbg A T b W):A b∧∃ v bs,Blk W b (.cells #[.string T.text,v] 159)∧RdQ A W v bs∧jaE A T.kids bs W:=by
 cases T with
 | mk t ks=>unfold jbg at h;exact h
theorem RdQ.sl{A:Nat→Prop}{W:World}{v:Value}{bs:List Nat}(h:RdQ A W v bs):∃ a c,v=.slice a bs.length c:=by
 rcases h with⟨h1,h2⟩ |⟨g,c,h1,_⟩
 ·exact⟨none,0,by rw[h1,h2];rfl⟩
 ·exact⟨_,c,h1⟩
theorem jl3{w0 W:World}(hc:jbU W){b m:Nat}{t:ByteArray}{ks:List PT}{u:Value}{bs:List Nat}(h:jb9 w0 W b m t ks u bs)(hbs:bs.length≤100)(v:Value)(l:List Pair)(hv:RdP W v l)(hl:l≠[])(hln:l.length≤1000000)(T:PT)(hT:jmd T)
  (hb:Calls Tryz.prog 78 #[v] W fun e w'=>∃ k,e=.returned (ptrV k)∧jbg (fun x=>W.heap.size≤x) T k w'∧Ext W w') :
  Calls Tryz.prog 125 #[ptrV b,v] W fun e w'=>∃ u' bs',e=.returned (.string (refB T.text))∧jb9 w0 w' b m t (ks++jb3 T) u' bs'∧bs'.length≤bs.length+1∧Ext w0 w'∧jah (fun x=>x=b∨u.ownBlock=some x) W w':=by
 obtain⟨av,cv,rfl⟩:=hv.sl
 have hl0:l.length≠0:=fun e=>hl (List.eq_nil_of_length_eq_zero e);have c0:((l.length:Int) == 0)=false:=by simp;exact hl
 have c1:¬(l.length:Int)=0:=by omega
 have HB:=Hd hb;have H:=Hd h;have HC:=Hd hc;have HT:=Hd hT
 obtain⟨s,hs⟩:∃ s,s=T.text:=⟨_,rfl⟩
 have hrf:refB T.text=refB s:=by rw[hs]
 rw[hrf];have HS:=Hd hs;clear hb h hc hT hv hl hl0 hs hrf;unfold ptrV;go_enter Tryz.func125,Tryz.ntmps125;go_wp2_with fail
 refine HB.o.mono ?_;rintro e w1 ⟨k,rfl,hk,hE⟩;have HK:=Hd hk
 obtain⟨hkA,vk,bk,hkB,hkQ,hkP⟩:=hk.open
 have q0:w1.cell? ⟨k,0,none⟩=some (.string s):=by rw[HS.o];exact hkB.cell (by rfl)
 have H1:=Hd (H.o.ext hE);have HE:=Hd hE;have HC1:=Hd (HC.o.ext hE);have HKB:=Hd hkB;have HKQ:=Hd hkQ;have HKP:=Hd hkP;clear hE hk hkB hkQ hkP;unfold ptrV;go_wp2_with fail
 refine (jo3 w1 s HC1.o).mono ?_;rintro e w2 ⟨rfl,hE⟩;have HE2:=Hd hE;have H2:=Hd (H1.o.ext hE)
 by_cases hsm:s.size < 32
 ·have hTs:T.text.size < 32:=by rw[←HS.o];exact hsm
  obtain⟨q,hq1,hq2⟩:=HT.o.nohash hTs
  rw[←HS.o]at hq1 hq2;have hr:refB s=s:=by unfold refB;rw[if_pos hsm]
  rw[hr];have hnil:=HT.o.small hTs;have hkp:=HKP.o;rw[hnil]at hkp;unfold jaE at hkp;have hkq:=HKQ.o;rw[hkp]at hkq;have hvk:vk=.slice none 0 0:=by
   rcases hkq with⟨h1,_⟩ |⟨g,c,_,h2,_⟩
   ·exact h1
   ·exact absurd rfl h2
  have hheld:ks++jb3 T=ks:=by unfold jb3;rw[if_pos hTs,List.append_nil]
  have HHELD:=Hd hheld;have HREF:=Hd hr;have HQ1:=Hd hq1;have HQ2:=Hd hq2;have hkb2:=HKB.o.keeps hE (fun h=>h);rw[hvk]at hkb2;have QK:=Hd (hkb2.cell (i:=1) (v:=.slice none 0 0) (by rfl));clear hE hq1 hq2 hr hnil hkp hkq hvk hkb2 hheld;go_wp2_with fail
  refine (jfH w2 s q (by omega) HQ1.o).mono ?_;rintro e w3 ⟨rfl,hE⟩;rw[HQ2.o];have H3:=Hd (H2.o.ext hE);have QK3:=Hd (jab QK.o hE);have HX3:=Hd ((HE.o.trans HE2.o).trans hE);clear hE
  obtain⟨au,cu,hu⟩:=H3.o.row.sl
  subst hu;unfold optV;simp only;go_wp2_with fail
  have hul:bs.length≤cu:=by
   obtain⟨_,⟨hx,h2⟩ |⟨g,cap,cur,hx,h3,h4,h5,h6,h7⟩⟩:=H3.o.row.own
   ·have:=Value.slice.inj hx;omega
   ·have:=Value.slice.inj hx;omega
  refine jau [0,1,2,3,4,5,6,7,8,9,10,11,12] [12] Ext ExtR ExtT (by kernel_rfl) (by kernel_rfl) (by kernel_rfl) ?_;iterate 2 (refine jak _ rfl (by kernel_rfl) rfl rfl (fun K hK=>?_);go_big_quiet_op;refine hK _ ?_;clear hK K)
  refine jc0 _ (.pointer (some ⟨b,0,none⟩)) rfl (by kernel_rfl) rfl (fun w1=>by kernel_rfl) ?_;simp only[Act.put,sA,sB,sC]
  (refine jak _ rfl (by kernel_rfl) rfl rfl (fun K hK=>?_);go_big_quiet_op;refine hK _ ?_;clear hK K)
  refine jaF ⟨b,1,none⟩ _ rfl (by kernel_rfl) rfl rfl (fun w1 h1=>jaa Tryz.uParts rfl (jab (by exact H3.o.blk.cell (i:=1) (v:=.slice au bs.length cu) (by rfl)) h1)) ?_;simp only[Act.put,sA,sB,sC]
  (refine jak _ rfl (by kernel_rfl) rfl rfl (fun K hK=>?_);go_big_quiet_op;refine hK _ ?_;clear hK K)
  refine jc0 _ (.pointer (some ⟨k,0,none⟩)) rfl (by kernel_rfl) rfl (fun w1=>by kernel_rfl) ?_;simp only[Act.put,sA,sB,sC]
  (refine jak _ rfl (by kernel_rfl) rfl rfl (fun K hK=>?_);go_big_quiet_op;refine hK _ ?_;clear hK K)
  refine jaF ⟨k,1,none⟩ _ rfl (by kernel_rfl) rfl rfl (fun w1 h1=>jaa Tryz.uParts rfl (jab (by exact QK3.o) h1)) ?_;simp only[Act.put,sA,sB,sC]
  obtain⟨i0,z0,hi0,_⟩:=Tryz.sParts.hi
  refine jc0 _ (.slice au bs.length cu) rfl (by kernel_rfl) rfl (fun w1=>jht (jfc Tryz.uParts hi0 au bs.length cu hul 0 w1) (by kernel_rfl)) ?_;simp only[Act.put,sA,sB,sC];refine jc0 _ (.pointer (some ⟨b,0,none⟩)) rfl (by kernel_rfl) rfl (fun w1=>by kernel_rfl) ?_;simp only[Act.put,sA,sB,sC]
  (refine jak _ rfl (by kernel_rfl) rfl rfl (fun K hK=>?_);go_big_quiet_op;refine hK _ ?_;clear hK K)
  refine jbh _ rfl (by kernel_rfl) rfl (fun w4 he K hK=>?_);have h4:=H3.o.ext ((jaj w3).trans he);have q1:w4.cell? ⟨b,1,none⟩=some (.slice au bs.length cu):=h4.blk.cell (i:=1) (by rfl);have f1:w4.frozen? ⟨b,1,none⟩=false:=h4.blk.frozen;have H4:=Hd h4;have HX4:=Hd (HX3.o.trans ((jaj w3).trans he));clear he h4;go_simp;refine hK _ _ ?_;clear hK K q1 f1;have H5:=Hd H4.o.same;refine ja6 (by kernel_rfl) (fun w5 he=>?_);have H6:=Hd (H5.o.ext he);have HX6:=Hd ((((HX4.o.mono (G:=fun x=>x=b∨(Value.slice au bs.length cu).ownBlock=some x) (fun _ _ h=>h.elim)).setCell (p:=⟨b,1,none⟩) (.inl (.inl rfl)) (.slice au bs.length cu)).trans (he.mono (fun _ _ h=>h.elim))));clear he H5 H4;go_wp2_with fail
  go_ret
  exact⟨_,bs,by rw[HREF.o];rfl,by rw[HHELD.o];exact H6.o,by omega,H6.o.row.ext,HX6.o⟩
 ·have hTs:¬ T.text.size < 32:=by rw[←HS.o];exact hsm
  obtain⟨r,hr⟩:∃ r,r=refB s:=⟨_,rfl⟩
  have hr2:r=jam (shaB s):=by rw[hr];unfold refB;rw[if_neg hsm]
  obtain⟨q,hq1,hq2⟩:=jgK (shaB s) (jcl s)
  rw[←hr2]at hq1 hq2;have hrs:r.size≤1000000000:=by have:=jaA (shaB s);have:=jcl s;rw[hr2];omega
  have hheld:ks++jb3 T=ks++[T]:=by unfold jb3;rw[if_neg hTs]
  rw[←hr];have HHELD:=Hd hheld;have HREF:=Hd hr;have HQ1:=Hd hq1;have HQ2:=Hd hq2;have HKW:=Hd (jbg.keeps hE (fun _ _ h=>h) _ _ HK.o);clear hE hq1 hq2 hr hr2 hheld hTs;go_wp2_with fail
  refine (jfH w2 r q hrs HQ1.o).mono ?_;rintro e w3 ⟨rfl,hE⟩;rw[HQ2.o];have h3:=H2.o.ext hE;have HKW3:=Hd (jbg.keeps hE (fun _ _ h=>h) _ _ HKW.o);have hX3:=(HE.o.trans HE2.o).trans hE
  obtain⟨au,cu,hu⟩:=h3.row.sl
  subst hu;have q1:w3.cell? ⟨b,1,none⟩=some (.slice au bs.length cu):=h3.blk.cell (i:=1) (by rfl);have H3:=Hd h3;have hb1:=H.o.blk.lt;have hb2:=H.o.row.lt;have HB2:=Hd hb2;have hb3:=H.o.row.ext.size;have HX3:=Hd hX3;clear hE h3 hX3 hb2;unfold optV;simp only;go_wp2_with (at_builtin;refine jaZ Tryz.sParts (H3.o.row.mono ((ExtR w3).alloc _)) (.tmp 29) (.tmp 31) rfl rfl rfl (jaS (Blk.new w3 _)) (news:=[ptrV k]) (by intro u hu;simp at hu;rw[hu];rfl) rfl rfl (by unfold maxLen;omega) (by omega) (fun v' w4 r1 r2 r3=>?_);obtain⟨a5,c5,hv5⟩:=r1.sl;subst hv5;have hB4:=(H3.o.blk.alloc _).keeps r2 H3.o.nb;have qb:w4.cell? ⟨b,1,none⟩=some (.slice au bs.length cu):=hB4.cell (i:=1) (by rfl);have fb:w4.frozen? ⟨b,1,none⟩=false:=hB4.frozen)
  have e1:QRow w0 w4 (.slice a5 (bs.length+1) c5) (bs++[k]):=by
   unfold QRow;rw[List.length_append,List.map_append];exact r1
  have h5:=jb9.add (w1:=W) (H3.o.ext ((ExtR w3).alloc _)) (jbg.keeps ((ExtR w3).alloc _) (fun _ _ h=>h) _ _ HKW3.o) hb1 H.o.ml HB2.o hb3 e1 r2 r3;have hK5:jah (fun x=>x=b∨(Value.slice au bs.length cu).ownBlock=some x) W (w4.setCell ⟨b,1,none⟩ (.slice a5 (bs.length+1) c5)):=
   ((((HX3.o.alloc _).mono (G:=fun x=>x=b∨(Value.slice au bs.length cu).ownBlock=some x) (fun _ _ h=>h.elim)).trans (r2.mono (fun _ _ h=>.inr h)))).setCell (.inl (.inl rfl)) _
  go_ret
  exact⟨_,bs++[k],by rw[←HREF.o];rfl,by rw[HHELD.o];exact h5,by simp,h5.row.ext,hK5⟩
abbrev Lt(a b:List UInt8):Prop:=Op.bytesLess a b=true
theorem jbq{a b:UInt8}{x y:List UInt8}:Lt (a :: x) (b :: y)↔a < b∨(a=b∧Lt x y):=by
 unfold Lt;rw[Op.bytesLess];simp
theorem jbn(a:List UInt8):¬ Lt a []:=by
 unfold Lt;cases a <;> simp[Op.bytesLess]
theorem jbY:∀ (a b:List UInt8),a.take (jaX a b)=b.take (jaX a b)∧jaX a b≤a.length∧jaX a b≤b.length
 | [],b=>by simp[jaX]
 | x :: r,[]=>by simp[jaX]
 | x :: r,y :: t=>by
  unfold jaX;split
  ·rename_i h
   obtain⟨h1,h2,h3⟩:=jbY r t
   subst h;simp only[List.take_succ_cons,List.length_cons,h1]
   exact⟨trivial,by omega,by omega⟩
  ·simp
theorem jhq(a b:List UInt8):jaX (a.drop (jaX a b)) (b.drop (jaX a b))=0:=by
 obtain⟨h1,h2,h3⟩:=jbY a b
 have:=jcd a b (jaX a b) h1 h2 h3
 omega
theorem jjl:∀ (k:Nat) (a m b:List UInt8),Lt a m→Lt m b→a.take k=b.take k→k≤a.length→k≤b.length→m.take k=a.take k∧k≤m.length
 | 0,a,m,b,_,_,_,_,_=>by simp
 | k+1,[],m,b,_,_,_,h,_=>by simp at h
 | k+1,x :: a,m,[],_,_,_,_,h=>by simp at h
 | k+1,x :: a,[],y :: b,h,_,_,_,_=>absurd h (jbn _)
 | k+1,x :: a,z :: m,y :: b,h1,h2,h3,h4,h5=>by
  simp only[List.take_succ_cons,List.cons.injEq]at h3
  obtain⟨rfl,h3⟩:=h3
  have hz:x=z:=by
   rcases jbq.1 h1 with h | h
   ·rcases jbq.1 h2 with h' | h'
    ·exact absurd (UInt8.lt_trans h h') (UInt8.lt_irrefl x)
    ·rw[h'.1]at h;exact absurd h (UInt8.lt_irrefl x)
   ·exact h.1
  subst hz;have e1:Lt a m:=by
   rcases jbq.1 h1 with h | h
   ·exact absurd h (UInt8.lt_irrefl x)
   ·exact h.2
  have e2:Lt m b:=by
   rcases jbq.1 h2 with h | h
   ·exact absurd h (UInt8.lt_irrefl x)
   ·exact h.2
  obtain⟨i1,i2⟩:=jjl k a m b e1 e2 h3 (by simpa using h4) (by simpa using h5)
  simp only[List.take_succ_cons,i1,List.length_cons]
  exact⟨trivial,by omega⟩
theorem jjZ:∀ (k:Nat) (a b:List UInt8),Lt a b→a.take k=b.take k→k≤a.length→k≤b.length→Lt (a.drop k) (b.drop k)
 | 0,a,b,h,_,_,_=>h
 | k+1,[],b,_,_,h,_=>by simp at h
 | k+1,x :: a,[],h,_,_,_=>absurd h (jbn _)
 | k+1,x :: a,y :: b,h,h1,h2,h3=>by
  simp only[List.take_succ_cons,List.cons.injEq]at h1;rcases jbq.1 h with h | h
  ·rw[h1.1]at h;exact absurd h (UInt8.lt_irrefl y)
  ·exact jjZ k a b h.2 h1.2 (by simpa using h2) (by simpa using h3)
abbrev Pair.l(p:Pair):List UInt8:=p.1.data.toList
structure jaT(f:Nat)(l:List Pair):Prop where
 size:∀ p∈l,p.1.size≤f∧p.1.size≤12∧jaO p.1=true∧0 < p.2.size∧p.2.size≤80
 rise:l.Pairwise fun p q=>Lt p.l q.l
theorem jdd(b:ByteArray)(k n:Nat)(h:b.size≤n):(b.extract k n).data.toList=b.data.toList.drop k:=by
 rw[ByteArray.data_extract,Array.toList_extract,List.extract_eq_take_drop,List.take_of_length_le];rw[List.length_drop];have:b.data.toList.length=b.size:=rfl;omega
theorem jh3(b:ByteArray)(k:Nat):(b.extract k b.size).size=b.size - k:=by rw[ByteArray.size_extract];omega
theorem jhf{b:ByteArray}(h:jaO b=true)(k n:Nat):jaO (b.extract k n)=true:=by
 unfold jaO at *;rw[List.all_eq_true]at *;intro x hx;refine h x ?_;rw[ByteArray.data_extract,Array.toList_extract,List.extract_eq_take_drop]at hx;exact List.mem_of_mem_drop (List.mem_of_mem_take hx)
def pd:Pair:=(⟨#[]⟩,⟨#[]⟩)
def comK(l:List Pair):Nat:=jaQ (l.getD 0 pd).1 (l.getD (l.length - 1) pd).1
theorem jcI{l:List Pair}{R:Pair→Pair→Prop}(h:l.Pairwise R){i j:Nat}{p q:Pair}(hij:i < j)(hi:l[i]?=some p)(hj:l[j]?=some q):R p q:=by
 obtain⟨h1,rfl⟩:=List.getElem?_eq_some_iff.1 hi
 obtain⟨h2,rfl⟩:=List.getElem?_eq_some_iff.1 hj
 exact List.pairwise_iff_getElem.1 h i j h1 h2 hij
theorem jbJ{f:Nat}{l:List Pair}(h:jaT f l)(h2:2≤l.length):∀ p∈l,p.l.take (comK l)=(l.getD 0 pd).l.take (comK l)∧comK l≤p.1.size:=by
 intro p hp
 obtain⟨i,hi⟩:=List.getElem?_of_mem hp
 have hil:=(List.getElem?_eq_some_iff.1 hi).1
 obtain⟨a,ha⟩:∃ a,l[0]?=some a:=⟨_,List.getElem?_eq_getElem (by omega)⟩
 obtain⟨b,hb⟩:∃ b,l[l.length - 1]?=some b:=⟨_,List.getElem?_eq_getElem (by omega)⟩
 have ga:l.getD 0 pd=a:=by rw[List.getD_eq_getElem?_getD,ha];rfl
 have gb:l.getD (l.length - 1) pd=b:=by rw[List.getD_eq_getElem?_getD,hb];rfl
 have hk:comK l=jaX a.l b.l:=by unfold comK jaQ;rw[ga,gb]
 obtain⟨k1,k2,k3⟩:=jbY a.l b.l
 rw[hk,ga]
 by_cases h0:i=0
 ·subst h0;rw[ha]at hi;obtain rfl:=Option.some.inj hi;exact⟨rfl,k2⟩
 ·by_cases hn:i=l.length - 1
  ·subst hn;rw[hb]at hi;obtain rfl:=Option.some.inj hi;exact⟨k1.symm,k3⟩
  ·exact jjl _ a.l p.l b.l (jcI h.rise (by omega) ha hi) (jcI h.rise (by omega) hi hb) k1 k2 k3
theorem jdM{f:Nat}{l:List Pair}(k:Nat)(h:jaT f l)(hk:∀ p∈l,∀ q∈l,p.l.take k=q.l.take k)(hs:∀ p∈l,k≤p.1.size):jaT (f - k) (jaC k l):=by
 refine⟨fun p hp=>?_,?_⟩
 ·obtain⟨q,hq,rfl⟩:=List.mem_map.1 hp
  obtain⟨h1,h2,h3,h4,h5⟩:=h.size q hq
  refine⟨?_,?_,jhf h3 _ _,h4,h5⟩
  ·show (q.1.extract k q.1.size).size≤_;rw[jh3];omega
  ·show (q.1.extract k q.1.size).size≤_;rw[jh3];omega
 ·unfold jaC
  rw[List.pairwise_map];refine List.Pairwise.imp_of_mem (fun {p q} hp hq hlt=>?_) h.rise;show Lt (p.1.extract k p.1.size).data.toList (q.1.extract k q.1.size).data.toList;rw[jdd _ _ _ (Nat.le_refl _),jdd _ _ _ (Nat.le_refl _)];exact jjZ k _ _ hlt (hk p hp q hq) (hs p hp) (hs q hq)
theorem jdL{i:Nat}{l:List Pair}{p:Pair}(h:p∈cutL i l):p∈l∧∃ a r,p.l=a :: r∧a.toNat=i:=by
 obtain⟨h1,h2⟩:=List.mem_filter.1 h
 refine⟨h1,?_⟩
 unfold jdR at h2;cases hp:p.1.data.toList with
 | nil=>rw[hp]at h2;cases h2
 | cons a r=>rw[hp]at h2;exact⟨a,r,hp,by simpa using h2⟩
theorem jmq{f:Nat}{l:List Pair}(i:Nat)(h:jaT f l):jaT f (cutL i l):=
 ⟨fun p hp=>h.size p (jdL hp).1,List.Pairwise.filter _ h.rise⟩
theorem jeo{f:Nat}{l:List Pair}(i:Nat)(h:jaT f l):jaT (f - 1) (jaC 1 (cutL i l)):=by
 refine jdM 1 (jmq i h) (fun p hp q hq=>?_) (fun p hp=>?_)
 ·obtain⟨_,a,r,e1,e2⟩:=jdL hp
  obtain⟨_,b,t,e3,e4⟩:=jdL hq
  rw[e1,e3,UInt8.toNat_inj.1 (e2.trans e4.symm)];rfl
 ·obtain⟨_,a,r,e1,e2⟩:=jdL hp
  show 1≤p.1.data.toList.length;rw[show p.1.data.toList=a :: r from e1];simp
def ja1(B:List Pair→PT)(l:List Pair):jae:=
 if l.length=0 then jaL
 else if l.length=1 then ⟨1,(l.getD 0 pd).1,(l.getD 0 pd).2,jat 16⟩
 else if 0 < comK l then ⟨2,(l.getD 0 pd).1.extract 0 (comK l),⟨#[]⟩,refB (B (jaC (comK l) l)).text :: jat 15⟩
 else ⟨3,⟨#[]⟩,if (l.getD 0 pd).1.size=0 then (l.getD 0 pd).2 else ⟨#[]⟩,(List.range 16).map fun i=>if (cutL i l).length=0 then ⟨#[]⟩else refB (B (jaC 1 (cutL i l))).text⟩
def ja4(B:List Pair→PT)(l:List Pair):List PT:=
 if l.length≤1 then []
 else if 0 < comK l then jb3 (B (jaC (comK l) l))
 else (List.range 16).flatMap fun i=>if (cutL i l).length=0 then []else jb3 (B (jaC 1 (cutL i l)))
def jaf:Nat→List Pair→PT
 | 0,_=>.mk ⟨#[]⟩ []
 | f+1,l=>.mk (jaV (ja1 (jaf f) l)) (ja4 (jaf f) l)
theorem jaT.mono{f g:Nat}{l:List Pair}(h:jaT f l)(hg:f≤g):jaT g l:=⟨fun p hp=>by obtain⟨h1,h2⟩:=h.size p hp;exact⟨by omega,h2⟩,h.rise⟩
theorem je5:∀ (l:List ByteArray) (i j:Nat) (r:ByteArray),l[j]?=some r→r.size≠0→(i+j,r)∈jaq i l
 | [],i,j,r,h,_=>by simp at h
 | x :: l,i,0,r,h,h0=>by
  simp at h;subst h;unfold jaq;rw[if_neg h0];exact List.mem_cons_self ..
 | x :: l,i,j+1,r,h,h0=>by
  have:=je5 l (i+1) j r (by simpa using h) h0
  rw[show i+(j+1)=i+1+j by omega];unfold jaq;split
  ·exact this
  ·exact List.mem_cons_of_mem _ this
theorem jot{α:Type}{a b:α}{l:List α}(ha:a∈l)(hb:b∈l)(h:a≠b):2≤l.length:=by
 match l,ha,hb with
 | [x],ha,hb =>
  rw[List.mem_singleton]at ha hb;exact absurd (ha.trans hb.symm) h
 | x :: y :: r,_,_=>simp
theorem jn9{α:Type}{a:α}{l:List α}(ha:a∈l):1≤l.length:=by cases l <;> simp at ha ⊢
structure jfp(f:Nat)(T:PT)(n:jae):Prop where
 text:T.text=jaV n
 good:jbM (InlD f) n
 kind:n.kind≠0
 small:T.text.size < 32→T.kids=[]
theorem jfp.may{f:Nat}{T:PT}{n:jae}(h:jfp f T n):MayP (InlD (f+1)) (refB T.text)∧(T.text.size < 32→InlD (f+1) (refB T.text) n):=by
 by_cases hs:T.text.size < 32
 ·have e:refB T.text=jaV n:=by unfold refB;rw[if_pos hs,h.text]
  have hI:InlD (f+1) (refB T.text) n:=by rw[e];exact⟨h.good,rfl,by rw[←h.text];exact hs,h.kind⟩
  exact⟨.inr ⟨n,hI⟩,fun _=>hI⟩
 ·exact⟨.inl ⟨shaB T.text,jcl _,by unfold refB;rw[if_neg hs]⟩,fun h=>absurd h hs⟩
theorem MayP.pos{f:Nat}{r:ByteArray}(h:MayP (InlD f) r):r.size≠0:=by
 rcases h with h |⟨m,h⟩
 ·rw[h.size];omega
 ·exact (inlP f).pos r m h
theorem jfp.kid{f:Nat}{T:PT}{n:jae}(h:jfp f T n):jmd T:=by
 have h1:=h.good.one (inlP f)
 refine⟨by have:=jee n h1;rw[h.text];omega,h.small,fun hs=>?_⟩
 obtain⟨xs,h2,h3⟩:=jfK n h1 h.kind
 rw[h.text,h2];exact jgJ xs h3
theorem jok{T:PT}(h:¬ T.text.size < 32):(refB T.text).size=33:=by
 have:jdB (refB T.text):=⟨shaB T.text,jcl _,by unfold refB;rw[if_neg h]⟩
 exact this.size
theorem jfW:∀ (l:List ByteArray) (x:ByteArray),x∈l→x.size≤(catB l).size
 | y :: l,x,h=>by
  rw[jaJ];rcases List.mem_cons.1 h with rfl | h
  ·omega
  ·have:=jfW l x h;omega
theorem jif(xs:List ByteArray):(catB xs).size≤(jaR xs).size:=by unfold jaR;rw[ByteArray.size_append];omega
theorem jfD{k:Nat}{l:List Pair}{i:Nat}(h:i < l.length):(jaC k l).getD i pd=((l.getD i pd).1.extract k (l.getD i pd).1.size,(l.getD i pd).2):=by
 unfold jaC;rw[List.getD_eq_getElem?_getD,List.getElem?_map,List.getD_eq_getElem?_getD,List.getElem?_eq_getElem h];rfl
theorem ja2(k:Nat)(l:List Pair):(jaC k l).length=l.length:=by simp[jaC]
theorem jjB{l:List Pair}(h:0 < l.length):comK (jaC (comK l) l)=0:=by
 have e:comK (jaC (comK l) l)=jaX (((l.getD 0 pd).l).drop (comK l)) (((l.getD (l.length - 1) pd).l).drop (comK l)):=by
  conv=>lhs;unfold comK
  rw[ja2,jfD h,jfD (by omega)];unfold jaQ;simp only;rw[jdd _ _ _ (Nat.le_refl _),jdd _ _ _ (Nat.le_refl _)];rfl
 rw[e];exact jhq _ _
theorem jn6{p:Pair}(h:jaO p.1=true){a:UInt8}{r:List UInt8}(hp:p.l=a :: r):a.toNat < 16:=by
 have:a≤15:=of_decide_eq_true (List.all_eq_true.1 h a (by rw[show p.1.data.toList=a :: r from hp];exact List.mem_cons_self ..))
 have:=UInt8.le_iff_toNat_le.1 this
 have h15:(15:UInt8).toNat=15:=rfl;omega
theorem good:∀ (f:Nat) (l:List Pair),jaT f l→jbM (InlD f) (ja1 (jaf f) l)∧(l≠[]→jfp f (jaf (f+1) l) (ja1 (jaf f) l))∧(2≤l.length→comK l=0→(ja1 (jaf f) l).kind=3):=by
 intro f;induction f with
 | zero =>
  intro l h;have hl:l.length≤1:=by
   rcases Nat.lt_or_ge l.length 2 with h2 | h2
   ·omega
   ·obtain⟨a,ha⟩:∃ a,l[0]?=some a:=⟨_,List.getElem?_eq_getElem (by omega)⟩
    obtain⟨b,hb⟩:∃ b,l[1]?=some b:=⟨_,List.getElem?_eq_getElem (by omega)⟩
    have hlt:=jcI h.rise (by omega) ha hb
    have:=(h.size b (List.mem_of_getElem? hb)).1
    rw[show b.l=[]from List.eq_nil_of_length_eq_zero (by show b.1.size=0;omega)]at hlt;exact absurd hlt (jbn _)
  by_cases h0:l.length=0
  ·have e:ja1 (jaf 0) l=jaL:=by unfold ja1;rw[if_pos h0]
   rw[e]
   exact⟨.none,fun hn=>absurd (List.eq_nil_of_length_eq_zero h0) hn,fun h2=>by omega⟩
  ·have h1:l.length=1:=by omega
   obtain⟨p,hp⟩:∃ p,p=l.getD 0 pd:=⟨_,rfl⟩
   have e:ja1 (jaf 0) l=⟨1,p.1,p.2,jat 16⟩:=by unfold ja1;rw[if_neg h0,if_pos h1,hp]
   have hpm:p∈l:=by rw[hp,List.getD_eq_getElem?_getD,List.getElem?_eq_getElem (by omega)];exact List.getElem_mem _
   obtain⟨s1,s2,s3,s4,s5⟩:=h.size p hpm
   have hg:jbM (InlD 0) ⟨1,p.1,p.2,jat 16⟩:=.leaf p.1 p.2 (by simp[jae.pathOk,s2,s3]) s4 s5;rw[e]
   exact⟨hg,fun _=>⟨by unfold jaf;rw[e];rfl,hg,by simp,fun _=>by unfold jaf ja4;rw[if_pos (by omega)];rfl⟩,fun h2=>by omega⟩
 | succ f ih =>
  intro l h
  by_cases h0:l.length=0
  ·have e:ja1 (jaf (f+1)) l=jaL:=by unfold ja1;rw[if_pos h0]
   rw[e]
   exact⟨.none,fun hn=>absurd (List.eq_nil_of_length_eq_zero h0) hn,fun h2=>by omega⟩
  by_cases h1:l.length=1
  ·obtain⟨p,hp⟩:∃ p,p=l.getD 0 pd:=⟨_,rfl⟩
   have e:ja1 (jaf (f+1)) l=⟨1,p.1,p.2,jat 16⟩:=by unfold ja1;rw[if_neg h0,if_pos h1,hp]
   have hpm:p∈l:=by rw[hp,List.getD_eq_getElem?_getD,List.getElem?_eq_getElem (by omega)];exact List.getElem_mem _
   obtain⟨s1,s2,s3,s4,s5⟩:=h.size p hpm
   have hg:jbM (InlD (f+1)) ⟨1,p.1,p.2,jat 16⟩:=.leaf p.1 p.2 (by simp[jae.pathOk,s2,s3]) s4 s5;rw[e]
   exact⟨hg,fun _=>⟨by unfold jaf;rw[e];rfl,hg,by simp,fun _=>by unfold jaf ja4;rw[if_pos (by omega)];rfl⟩,fun h2=>by omega⟩
  have h2:2≤l.length:=by omega
  have hcom:=jbJ h h2
  obtain⟨a,ha⟩:∃ a,l[0]?=some a:=⟨_,List.getElem?_eq_getElem (by omega)⟩
  obtain⟨b,hb⟩:∃ b,l[l.length - 1]?=some b:=⟨_,List.getElem?_eq_getElem (by omega)⟩
  have ga:l.getD 0 pd=a:=by rw[List.getD_eq_getElem?_getD,ha];rfl
  have gb:l.getD (l.length - 1) pd=b:=by rw[List.getD_eq_getElem?_getD,hb];rfl
  have hlt:=jcI h.rise (by omega) ha hb
  obtain⟨sa1,sa2,sa3,sa4,sa5⟩:=h.size a (List.mem_of_getElem? ha)
  obtain⟨sb1,sb2,sb3,sb4,sb5⟩:=h.size b (List.mem_of_getElem? hb)
  by_cases hk:0 < comK l
  ·have hok:jaT f (jaC (comK l) l):=(jdM (comK l) h (fun p hp q hq=>(hcom p hp).1.trans (hcom q hq).1.symm) (fun p hp=>(hcom p hp).2)).mono (by omega)
   obtain⟨_,i2,i3⟩:=ih _ hok
   have hst:=i2 (fun e=>by have:=ja2 (comK l) l;rw[e]at this;simp at this;omega);have hk3:=i3 (by rw[ja2];omega) (jjB (by omega));have e:ja1 (jaf (f+1)) l=⟨2,a.1.extract 0 (comK l),⟨#[]⟩,refB (jaf (f+1) (jaC (comK l) l)).text :: jat 15⟩:=by unfold ja1;rw[if_neg h0,if_neg h1,if_pos hk,ga]
   have hka:=(hcom a (List.mem_of_getElem? ha)).2;have hsz:(a.1.extract 0 (comK l)).size=comK l:=by rw[ByteArray.size_extract];omega
   have hg:jbM (InlD (f+1)) (ja1 (jaf (f+1)) l):=by
    rw[e];refine .ext _ _ ?_ hst.may.1.pos ?_
    ·simp[jae.pathOk,hsz,jhf sa3];omega
    ·by_cases hs:(jaf (f+1) (jaC (comK l) l)).text.size < 32
     ·exact .inr ⟨_,hst.may.2 hs,hk3⟩
     ·exact .inl ⟨_,jcl _,by unfold refB;rw[if_neg hs]⟩
   refine⟨hg,fun _=>⟨rfl,hg,by rw[e];simp,fun hsm=>?_⟩,fun _ hk0=>by omega⟩
   have hbel:(jaf (f+1+1) l).kids=jb3 (jaf (f+1) (jaC (comK l) l)):=by
    show ja4 (jaf (f+1)) l=_;unfold ja4;rw[if_neg (by omega),if_pos hk]
   rw[hbel];unfold jb3;rw[if_pos];rcases Nat.lt_or_ge (jaf (f+1) (jaC (comK l) l)).text.size 32 with hx | hx
   ·exact hx
   ·have h33:=jok (T:=jaf (f+1) (jaC (comK l) l)) (by omega)
    have ht:(jaf (f+1+1) l).text=extB (ja1 (jaf (f+1)) l):=by show jaV (ja1 (jaf (f+1)) l)=_;rw[e];rfl
    rw[ht,e]at hsm
    have:=jif [jam (putB (a.1.extract 0 (comK l)) false),refB (jaf (f+1) (jaC (comK l) l)).text]
    have:=jfW [jam (putB (a.1.extract 0 (comK l)) false),refB (jaf (f+1) (jaC (comK l) l)).text] _ (List.mem_cons_of_mem _ (List.mem_cons_self ..))
    have hsm':(jaR [jam (putB (a.1.extract 0 (comK l)) false),refB (jaf (f+1) (jaC (comK l) l)).text]).size < 32:=hsm;omega
  ·obtain⟨rs,hrs⟩:∃ rs,rs=(List.range 16).map fun i=>if (cutL i l).length=0 then (⟨#[]⟩:ByteArray)else refB (jaf (f+1) (jaC 1 (cutL i l))).text:=⟨_,rfl⟩
   have e:ja1 (jaf (f+1)) l=⟨3,⟨#[]⟩,if a.1.size=0 then a.2 else ⟨#[]⟩,rs⟩:=by unfold ja1;rw[if_neg h0,if_neg h1,if_neg hk,ga,hrs]
   have hkid:∀ i,(cutL i l).length≠0→jfp f (jaf (f+1) (jaC 1 (cutL i l))) (ja1 (jaf f) (jaC 1 (cutL i l))):=fun i hi =>
    (ih _ (jeo i h)).2.1 (fun e=>by have:=ja2 1 (cutL i l);rw[e]at this;simp at this;omega)
   have hrl:rs.length=16:=by rw[hrs];simp
   have hri:∀ i,i < 16→rs[i]?=some (if (cutL i l).length=0 then (⟨#[]⟩:ByteArray)else refB (jaf (f+1) (jaC 1 (cutL i l))).text):=fun i hi=>by
    rw[hrs,List.getElem?_map,List.getElem?_range hi];rfl
   have hmay:∀ r∈rs,r.size≠0→MayP (InlD (f+1)) r:=by
    intro r hr hr0;rw[hrs]at hr
    obtain⟨i,_,rfl⟩:=List.mem_map.1 hr
    by_cases hi:(cutL i l).length=0
    ·rw[if_pos hi]at hr0;exact absurd rfl hr0
    ·rw[if_neg hi];exact (hkid i hi).may.1
   have hin:∀ (p:Pair) (x:UInt8) (r:List UInt8),p∈l→p.l=x :: r→∃ y,(x.toNat,y)∈jaq 0 rs:=by
    intro p x r hp hpx;have hx:=jn6 (h.size p hp).2.2.1 hpx;have hc:(cutL x.toNat l).length≠0:=by
     intro h0;have hm:p∈cutL x.toNat l:=List.mem_filter.2 ⟨hp,by unfold jdR;rw[show p.1.data.toList=x :: r from hpx];simp⟩;rw[List.eq_nil_of_length_eq_zero h0]at hm;cases hm
    have h5:=hri x.toNat hx;rw[if_neg hc]at h5
    have:=je5 rs 0 x.toNat _ h5 (hkid _ hc).may.1.pos
    rw[Nat.zero_add]at this
    exact⟨_,this⟩
   have hkc:comK l=jaX a.l b.l:=by unfold comK jaQ;rw[ga,gb]
   have hk0:jaX a.l b.l=0:=by omega
   have hcount:2≤min (if a.1.size=0 then a.2 else (⟨#[]⟩:ByteArray)).size 1+(jaq 0 rs).length:=by
    cases hal:a.l with
    | nil =>
     have ha0:a.1.size=0:=by show a.1.data.toList.length=0;rw[show a.1.data.toList=[]from hal];rfl
     rw[if_pos ha0];cases hbl:b.l with
     | nil=>rw[hbl]at hlt;exact absurd hlt (jbn _)
     | cons y r =>
      obtain⟨z,hz⟩:=hin b y r (List.mem_of_getElem? hb) hbl
      have:=jn9 hz
      omega
    | cons x r =>
     cases hbl:b.l with
     | nil=>rw[hbl]at hlt;exact absurd hlt (jbn _)
     | cons y t =>
      obtain⟨z,hz⟩:=hin a x r (List.mem_of_getElem? ha) hal
      obtain⟨z',hz'⟩:=hin b y t (List.mem_of_getElem? hb) hbl
      have hxy:x≠y:=by
       intro e;rw[hal,hbl,e]at hk0;simp[jaX]at hk0
      have:=jot hz hz' (fun e=>hxy (UInt8.toNat_inj.1 (Prod.mk.inj e).1))
      omega
   have hg:jbM (InlD (f+1)) (ja1 (jaf (f+1)) l):=by
    rw[e];refine .branch _ _ hrl ?_ hmay hcount;split
    ·exact sa5
    ·exact Nat.zero_le _
   refine⟨hg,fun _=>⟨rfl,hg,by rw[e];simp,fun hsm=>?_⟩,fun _ _=>by rw[e]⟩
   have hbel:(jaf (f+1+1) l).kids=(List.range 16).flatMap fun i=>if (cutL i l).length=0 then []else jb3 (jaf (f+1) (jaC 1 (cutL i l))):=by
    show ja4 (jaf (f+1)) l=_;unfold ja4;rw[if_neg (by omega),if_neg hk]
   rw[hbel,List.flatMap_eq_nil_iff];intro i hi;have hi16:=List.mem_range.1 hi
   by_cases hc:(cutL i l).length=0
   ·rw[if_pos hc]
   ·rw[if_neg hc]
    unfold jb3;rw[if_pos];rcases Nat.lt_or_ge (jaf (f+1) (jaC 1 (cutL i l))).text.size 32 with hx | hx
    ·exact hx
    ·have h33:=jok (T:=jaf (f+1) (jaC 1 (cutL i l))) (by omega)
     have ht:(jaf (f+1+1) l).text=jdt (ja1 (jaf (f+1)) l):=by show jaV (ja1 (jaf (f+1)) l)=_;rw[e];rfl
     rw[ht,e]at hsm;have h6:=hri i hi16;rw[if_neg hc]at h6;have hb1:jbk ⟨3,⟨#[]⟩,if a.1.size=0 then a.2 else ⟨#[]⟩,rs⟩=jaW rs (if a.1.size=0 then a.2 else ⟨#[]⟩):=jc9 _ hrl;have hmem:refB (jaf (f+1) (jaC 1 (cutL i l))).text∈jaW rs (if a.1.size=0 then a.2 else ⟨#[]⟩):=by
      unfold jaW;refine List.mem_append_left _ (List.mem_map.2 ⟨_,List.mem_of_getElem? h6,?_⟩);rw[if_neg (by omega)]
     have h7:=jfW _ _ hmem;have h8:=jif (jaW rs (if a.1.size=0 then a.2 else ⟨#[]⟩));have hsm':(jaR (jbk ⟨3,⟨#[]⟩,if a.1.size=0 then a.2 else ⟨#[]⟩,rs⟩)).size < 32:=hsm;rw[hb1]at hsm';omega
def jeE(l:List Pair)(T:PT):Prop:=∀ (w:World) (v:Value),jbU w→RdP w v l→Calls Tryz.prog 78 #[v] w fun e w'=>∃ k,e=.returned (ptrV k)∧jbg (fun x=>w.heap.size≤x) T k w'∧Ext w w'
theorem jlo(w:World)(W1 W2:World)(bn:Nat)(h1:W1=w.alloc (.cells #[.string ⟨#[]⟩,.slice none 0 0] 159))(h2:Ext W1 W2)(h3:bn=W1.heap.size)(h4:bn < W2.heap.size):jb9 w W2 w.heap.size bn ⟨#[]⟩ [] (.slice none 0 0) []:=by
 have hs:W1.heap.size=w.heap.size+1:=by rw[h1,World.size_alloc]
 have hE:Ext w W2:=(by rw[h1]at h2;exact ((ExtR w).alloc _).trans h2)
 refine⟨?_,Nat.le_refl _,ORow.nil _ _ hE,fun _=>rfl,fun e=>(by cases e),by omega,fun e=>(by cases e),by omega,h4,by unfold jaE;rfl⟩
 rw[h1]at h2;exact (Blk.new w _).keeps h2 (fun h=>h)
theorem jiD(f:Nat)(l:List Pair)(h0:l.length=0):jeE l (jaf (f+1) l):=by
 intro w v hc hv
 obtain⟨a,c,hsl⟩:=hv.sl
 rw[h0]at hsl;subst hsl;have ht:jaf (f+1) l=.mk (jaV jaL) []:=by
  show PT.mk (jaV (ja1 _ l)) (ja4 _ l)=_;unfold ja1 ja4;rw[if_pos h0,if_pos (by omega)]
 rw[ht];clear hv hc h0
 obtain⟨W1,hW1⟩:∃ W1,W1=w.alloc (.cells #[.string ⟨#[]⟩,.slice none 0 0] 159):=⟨_,rfl⟩
 have HW1:=Hd hW1;go_enter Tryz.func78,Tryz.ntmps78;go_wp2_with (first |(refine jap Tryz.allocNode rfl rfl ?_;intro W3 hB3 hE3;refine jal (vs:=jaL.cells) rfl rfl rfl rfl hB3 rfl Tryz.szNode (jae.one _) ?_;intro W4 hB4 hE4;simp only[World.size_alloc]at hB4 hE4) |(refine jag 144 (.tmp 4) rfl rfl _ _ rfl (jar _ _ jaL rfl hB4) ?_))
 have hE34:Ext W1 W4:=by
  rw[←hW1]at hE3;exact hE3.trans' hE4 (fun x hx e=>by have e:x=w.heap.size+1:=e;rw[hW1,World.size_alloc]at hx;omega)
 have HH:=Hd (jlo w W1 W4 (w.heap.size+1) hW1 hE34 (by rw[hW1,World.size_alloc]) hB4.lt);have HG:=Hd (jbM.none (I:=InlD f));clear hE3 hE4 hB3 hW1 HW1 ht;unfold jae.V;refine (jgR (inlP f) _ jaL HG.o).mono ?_;rintro e w9 ⟨rfl,hE⟩;have h9:=HH.o.ext hE;have q0:w9.cell? ⟨w.heap.size,0,none⟩=some (.string ⟨#[]⟩):=h9.blk.cell (i:=0) (by rfl);have f0:w9.frozen? ⟨w.heap.size,0,none⟩=false:=h9.blk.frozen;have H9:=Hd (h9.setText (jaV jaL))
 obtain⟨tx,htx⟩:∃ tx,tx=jaV jaL:=⟨_,rfl⟩
 rw[←htx]at H9 ⊢;have HTX:=Hd htx;clear h9 hE htx hB4 hE34;go_wp2_with fail
 go_ret
 exact⟨w.heap.size,rfl,by rw[←HTX.o];exact H9.o.part,H9.o.row.ext⟩
theorem jjp(f:Nat)(l:List Pair)(h1:l.length=1)(hok:jaT f l):jeE l (jaf (f+1) l):=by
 intro w v hc hv
 obtain⟨p,hp⟩:∃ p,l=[p]:=by
  match l,h1 with
  | [p],_=>exact⟨p,rfl⟩
 have hn:ja1 (jaf f) l=⟨1,p.1,p.2,jat 16⟩:=by unfold ja1;rw[if_neg (by omega),if_pos h1,hp];rfl
 have hgood:=(good f l hok).1;rw[hn]at hgood;have ht:jaf (f+1) l=.mk (jaV ⟨1,p.1,p.2,jat 16⟩) []:=by
  show PT.mk (jaV (ja1 _ l)) (ja4 _ l)=_;rw[hn];unfold ja4;rw[if_pos (by omega)]
 obtain⟨T,hT⟩:∃ T,T=jaf (f+1) l:=⟨_,rfl⟩
 rw[←hT]at ht ⊢;have HT:=Hd ht;rcases hv with⟨_,_,_,h0⟩ |⟨b,o,c,rfl,hb,hcl,hcell⟩
 ·rw[h0]at h1;cases h1
 obtain⟨q1,q2⟩:=hcell 0 p (by rw[hp];rfl)
 rw[Nat.zero_mul,Nat.add_zero]at q1 q2;rw[h1]at hcl ⊢
 obtain⟨x,y⟩:=p
 have hgood:=hgood;have Q1:=Hd q1;have Q2:=Hd q2;have HG:=Hd hgood
 obtain⟨W1,hW1⟩:∃ W1,W1=w.alloc (.cells #[.string ⟨#[]⟩,.slice none 0 0] 159):=⟨_,rfl⟩
 clear hc h1 hok hp hn hgood ht hT hcell q1 q2;go_enter Tryz.func78,Tryz.ntmps78;go_wp2_with (refine jap Tryz.allocNode rfl rfl ?_;intro W3 hB3 hE3;refine jal (vs:=jaL.cells) rfl rfl rfl rfl hB3 rfl Tryz.szNode (jae.one _) ?_;intro W4 hB4 hE4;simp only[World.size_alloc]at hB4 hE4)
 have hE34:Ext W1 W4:=by
  rw[←hW1]at hE3;exact hE3.trans' hE4 (fun x hx e=>by have e:x=w.heap.size+1:=e;rw[hW1,World.size_alloc]at hx;omega)
 have hh:=jlo w W1 W4 (w.heap.size+1) hW1 hE34 (by rw[hW1,World.size_alloc]) hB4.lt;have HH0:=Hd hh;have HB4:=Hd hB4;clear hE3 hE4 hB3 hW1 hB4 hE34 hh;refine jau [0,1,2,3,4,5,6,7,8,9] [9] Ext ExtR ExtT (by kernel_rfl) (by kernel_rfl) (by kernel_rfl) ?_;iterate 3 (refine jak _ rfl (by kernel_rfl) rfl rfl (fun K hK=>?_);go_big_quiet_op;refine hK _ ?_;clear hK K)
 refine jaF ⟨b,o,none⟩ _ rfl (by kernel_rfl) rfl rfl (fun w1 h1=>jaa Tryz.uStr rfl (jab (jab (by exact Q1.o) (HH0.o.row.ext.trans (jaj _))) h1)) ?_;simp only[Act.put,sA,sB,sC];iterate 3 (refine jak _ rfl (by kernel_rfl) rfl rfl (fun K hK=>?_);go_big_quiet_op;refine hK _ ?_;clear hK K)
 refine jaF ⟨b,o+1,none⟩ _ rfl (by kernel_rfl) rfl rfl (fun w1 h1=>jaa Tryz.uStr rfl (jab (jab (by exact Q2.o) (HH0.o.row.ext.trans (jaj _))) h1)) ?_;simp only[Act.put,sA,sB,sC]
 (refine jak _ rfl (by kernel_rfl) rfl rfl (fun K hK=>?_);go_big_quiet_op;refine hK _ ?_;clear hK K)
 refine jbh _ rfl (by kernel_rfl) rfl (fun w5 he K hK=>?_);have hX:=(jaj W4).trans he;refine jhP (vs:=jdu 1 x y ⟨#[]⟩) rfl rfl rfl (HB4.o.keeps hX (fun h=>h)) rfl Tryz.szNode (jca _ _ _ _) ?_;intro W6 hB6 hE6;have H6:=Hd ((HH0.o.ext hX).other hE6);have HB6:=Hd (show Blk W6 (w.heap.size+1) (.cells (jae.cells ⟨1,x,y,jat 16⟩).toArray 144)from hB6);clear he hX hB6 hE6 Q1 Q2 HB4 HH0;simp only[Act.put,sA,sB,sC];refine hK _ _ ?_;clear hK K;refine ja6 (by kernel_rfl) (fun w7 he=>?_);have HH:=Hd (H6.o.ext he);have hB7:=HB6.o.keeps he (fun h=>h);clear he HB6 H6;go_wp2_with (refine jag 144 (.tmp 4) rfl rfl _ _ rfl (jar _ _ ⟨1,x,y,jat 16⟩ rfl hB7) ?_)
 refine (jgR (inlP _) _ ⟨1,x,y,jat 16⟩ HG.o).mono ?_;rintro e w9 ⟨rfl,hE⟩;have h9:=HH.o.ext hE;have q0:w9.cell? ⟨w.heap.size,0,none⟩=some (.string ⟨#[]⟩):=h9.blk.cell (i:=0) (by rfl);have f0:w9.frozen? ⟨w.heap.size,0,none⟩=false:=h9.blk.frozen;have H9:=Hd (h9.setText (jaV ⟨1,x,y,jat 16⟩))
 obtain⟨tx,htx⟩:∃ tx,tx=jaV ⟨1,x,y,jat 16⟩:=⟨_,rfl⟩
 rw[←htx]at H9 ⊢;have HTX:=Hd htx;clear h9 hE htx;go_wp2_with fail
 go_ret
 exact⟨w.heap.size,rfl,by rw[HT.o, ←HTX.o];exact H9.o.part,H9.o.row.ext⟩
theorem Tryz.enterCommon:∀ args w,(callFunc 124 args).run Tryz.prog w=.ok (.enter 124 args) w:=fun _ _=>by kernel_rfl
theorem jjo(f:Nat)(l:List Pair)(h2:2≤l.length)(hln:l.length≤1000)(hok:jaT (f+1) l)(hk:0 < comK l)(HB:jeE (jaC (comK l) l) (jaf (f+1) (jaC (comK l) l))):jeE l (jaf (f+1+1) l):=by
 intro w v hc hv
 obtain⟨a,ha⟩:∃ a,l[0]?=some a:=⟨_,List.getElem?_eq_getElem (by omega)⟩
 obtain⟨z,hz⟩:∃ z,l[l.length - 1]?=some z:=⟨_,List.getElem?_eq_getElem (by omega)⟩
 have ga:l.getD 0 pd=a:=by rw[List.getD_eq_getElem?_getD,ha];rfl
 have gz:l.getD (l.length - 1) pd=z:=by rw[List.getD_eq_getElem?_getD,hz];rfl
 obtain⟨sa1,sa2,sa3,sa4,sa5⟩:=hok.size a (List.mem_of_getElem? ha)
 obtain⟨sz1,sz2,sz3,sz4,sz5⟩:=hok.size z (List.mem_of_getElem? hz)
 have hgood:=(good (f+1) l hok).1;have hrd:=hv;rcases hv with⟨_,_,_,h0⟩ |⟨b,o,c,rfl,hb,hcl,hcell⟩
 ·rw[h0]at h2;simp at h2
 obtain⟨q1,q1v⟩:=hcell 0 a ha
 rw[Nat.zero_mul,Nat.add_zero]at q1 q1v
 obtain⟨q2,_⟩:=hcell (l.length - 1) z hz
 obtain⟨kk,hkk⟩:∃ kk,kk=comK l:=⟨_,rfl⟩
 have hkc:kk=jaQ a.1 z.1:=by rw[hkk];unfold comK;rw[ga,gz]
 obtain⟨x,y⟩:=a
 obtain⟨xb,yb⟩:=z
 simp only at sa1 sa2 sa3 sa4 sa5 sz1 sz2 sz3 sz4 sz5 q1 q1v q2 hkc;have hsub:=jdM (comK l) hok (fun p hp q hq=>((jbJ hok h2 p hp).1).trans (jbJ hok h2 q hq).1.symm) (fun p hp=>(jbJ hok h2 p hp).2);have hka:=(jbJ hok h2 (x,y) (List.mem_of_getElem? ha)).2;have hsz:∀ p∈l,kk≤p.1.size∧p.1.size≤1000000:=fun p hp=>⟨by rw[hkk];exact (jbJ hok h2 p hp).2,by have:=(hok.size p hp).2.1;omega⟩;rw[←hkk]at hk hsub hka HB;have hka:kk≤x.size:=hka
 obtain⟨T',hT'⟩:∃ T',T'=jaf (f+1) (jaC kk l):=⟨_,rfl⟩
 have hst:=(good f _ (hsub.mono (by omega))).2.1 (fun e=>by have:=ja2 kk l;rw[e]at this;simp at this;omega);rw[←hT']at HB hst
 obtain⟨r,hr⟩:∃ r,r=refB T'.text:=⟨_,rfl⟩
 have hn:ja1 (jaf (f+1)) l=⟨2,x.extract 0 kk,⟨#[]⟩,r :: jat 15⟩:=by unfold ja1;rw[if_neg (by omega),if_neg (by omega), ←hkk,if_pos hk,ga, ←hT', ←hr]
 rw[hn]at hgood;have ht:jaf (f+1+1) l=.mk (jaV ⟨2,x.extract 0 kk,⟨#[]⟩,r :: jat 15⟩) (jb3 T'):=by
  show PT.mk (jaV (ja1 _ l)) (ja4 _ l)=_;rw[hn];unfold ja4;rw[if_neg (by omega), ←hkk,if_pos hk, ←hT']
 obtain⟨T,hT⟩:∃ T,T=jaf (f+1+1) l:=⟨_,rfl⟩
 rw[←hT]at ht ⊢;have c0:((l.length:Int) == 0)=false:=by simp;exact fun e=>by rw[e]at h2;simp at h2
 have c1:¬(l.length:Int)=0:=by omega
 have c2:((l.length:Int) == 1)=false:=by simp;omega
 have c3:¬(l.length:Int)=1:=by omega
 have c4:(0:Int)≤(l.length:Int) - 1:=by omega
 have c5:(l.length:Int) - 1 < (l.length:Int):=by omega
 have c6:((l.length:Int) - 1).toNat=l.length - 1:=by omega
 have c7:(0:Int) < (l.length:Int):=by omega
 have d7:0 < l.length:=by omega
 have d0:0 < kk:=hk;have e0:(0:Int) < (kk:Int):=by omega
 have e1:(kk:Int)≤(x.size:Int):=by omega
 have e2:(x.extract 0 kk).size=kk:=by rw[ByteArray.size_extract];omega
 have HT:=Hd ht;have Q1:=Hd q1;have Q2:=Hd q2;have HKK:=Hd hkc;have HG:=Hd hgood;have HRD:=Hd hrd;have HSZ:=Hd hsz;have HKID:=Hd hst.kid;have HR:=Hd hr;have HBB:=Hd HB;have HC:=Hd hc;have HL:=Hd (show jaC kk l≠[]from fun e=>by have:=ja2 kk l;rw[e]at this;simp at this;omega);have HLN:=Hd (show (jaC kk l).length≤1000000 by rw[ja2];omega);clear hc ha hz ga gz hok hgood hrd hcell q1 q1v q2 hkk hkc hsub hka hsz hT' hst hr hn ht hT HB sa3 sz3 e2
 obtain⟨W1,hW1⟩:∃ W1,W1=w.alloc (.cells #[.string ⟨#[]⟩,.slice none 0 0] 159):=⟨_,rfl⟩
 go_enter Tryz.func78,Tryz.ntmps78;go_wp2_with (refine jap Tryz.allocNode rfl rfl ?_;intro W3 hB3 hE3;refine jal (vs:=jaL.cells) rfl rfl rfl rfl hB3 rfl Tryz.szNode (jae.one _) ?_;intro W4 hB4 hE4;simp only[World.size_alloc]at hB4 hE4)
 have hE34:Ext W1 W4:=by
  rw[←hW1]at hE3;exact hE3.trans' hE4 (fun x hx e=>by have e:x=w.heap.size+1:=e;rw[hW1,World.size_alloc]at hx;omega)
 have hh:=jlo w W1 W4 (w.heap.size+1) hW1 hE34 (by rw[hW1,World.size_alloc]) hB4.lt;have HH0:=Hd hh;have HB4:=Hd hB4;have HX:=Hd hh.row.ext;clear hE3 hE4 hB3 hW1 hB4 hE34 hh;refine jad [0,1,2,3,4,5,6,7,8,9,10,11,12,13] Ext ExtR ExtT (by kernel_rfl) (by kernel_rfl) (by kernel_rfl) ?_;iterate 3 (refine jac _ rfl (by kernel_rfl) rfl rfl (fun K hK=>?_);go_big_quiet_op;refine hK _ ?_;clear hK K)
 refine jai ⟨b,o,none⟩ _ rfl (by kernel_rfl) rfl rfl (fun w1 h1=>jaa Tryz.uStr rfl (jab (jab (by exact Q1.o) (HX.o.trans (jaj _))) h1)) ?_;simp only[Act.put,sA,sB,sC];iterate 6 (refine jac _ rfl (by kernel_rfl) rfl rfl (fun K hK=>?_);go_big_quiet_op;refine hK _ ?_;clear hK K)
 refine jai ⟨b,o+(l.length - 1) * 2,none⟩ _ rfl (by kernel_rfl) rfl rfl (fun w1 h1=>jaa Tryz.uStr rfl (jab (jab (by exact Q2.o) (HX.o.trans (jaj _))) h1)) ?_;simp only[Act.put,sA,sB,sC];refine jav _ 124 #[.string x,.string xb] (.int .i64 (kk:Nat)) rfl (by kernel_rfl) rfl (fun w1=>jan Tryz.enterCommon (by kernel_rfl)) (fun w1 h1=>by rw[HKK.o];exact (jfX w1 x xb (by omega) (by omega)).mono (fun e w2 ⟨h1,n,h2⟩=>⟨h1,by rw[h2];exact (ExtR w1).drewN n⟩)) ?_;simp only[Act.put,sA,sB,sC];iterate 2 (refine jac _ rfl (by kernel_rfl) rfl rfl (fun K hK=>?_);go_big_quiet_op;refine hK _ ?_;clear hK K)
 refine jas (by kernel_rfl) (fun w5 he=>?_);have hX5:=(jaj W4).trans he;have HH5:=Hd (HH0.o.ext hX5);have HB5:=Hd (HB4.o.keeps hX5 (fun h=>h));have HX:=Hd (HX.o.trans hX5);clear he hX5 HH0 HB4;go_wp2_with fail
 refine jad [0,1,2,3,4,5,6,7,8,9,10,11,12] Ext ExtR ExtT (by kernel_rfl) (by kernel_rfl) (by kernel_rfl) ?_;iterate 3 (refine jac _ rfl (by kernel_rfl) rfl rfl (fun K hK=>?_);go_big_quiet_op;refine hK _ ?_;clear hK K)
 refine jai ⟨b,o,none⟩ _ rfl (by kernel_rfl) rfl rfl (fun w1 h1=>jaa Tryz.uStr rfl (jab (jab (by exact Q1.o) (HX.o.trans (jaj _))) h1)) ?_;simp only[Act.put,sA,sB,sC];iterate 6 (refine jac _ rfl (by kernel_rfl) rfl rfl (fun K hK=>?_);go_big_quiet_op;refine hK _ ?_;clear hK K)
 refine jai ⟨b,o+(l.length - 1) * 2,none⟩ _ rfl (by kernel_rfl) rfl rfl (fun w1 h1=>jaa Tryz.uStr rfl (jab (jab (by exact Q2.o) (HX.o.trans (jaj _))) h1)) ?_;simp only[Act.put,sA,sB,sC];refine jav _ 124 #[.string x,.string xb] (.int .i64 (kk:Nat)) rfl (by kernel_rfl) rfl (fun w1=>jan Tryz.enterCommon (by kernel_rfl)) (fun w1 h1=>by rw[HKK.o];exact (jfX w1 x xb (by omega) (by omega)).mono (fun e w2 ⟨h1,n,h2⟩=>⟨h1,by rw[h2];exact (ExtR w1).drewN n⟩)) ?_;simp only[Act.put,sA,sB,sC]
 (refine jac _ rfl (by kernel_rfl) rfl rfl (fun K hK=>?_);go_big_quiet_op;refine hK _ ?_;clear hK K)
 refine jas (by kernel_rfl) (fun w6 he=>?_);have hX6:=(jaj w5).trans he;have HH6:=Hd (HH5.o.ext hX6);have hB6:=HB5.o.keeps hX6 (fun h=>h);have HX:=Hd (HX.o.trans hX6);have q6:=jab Q1.o HX.o;clear he hX6 HH5 HB5;go_wp2_with (refine jal (vs:=jdu 2 (x.extract 0 kk) ⟨#[]⟩ ⟨#[]⟩) rfl rfl rfl rfl hB6 rfl Tryz.szNode (jca _ _ _ _) ?_;intro W7 hB7 hE7)
 have HH7:=Hd (HH6.o.other hE7);have HB7:=Hd hB7;clear hB7 hE7 hB6 q6;have HX:=Hd HH7.o.row.ext;refine (jhg W7 _ kk l (HRD.o.ext HX.o) (by omega) HSZ.o).mono ?_;rintro e w8 ⟨v8,rfl,hr8⟩;have hX8:Ext W7 w8:=hr8.ext;have HH8:=Hd (HH7.o.ext hX8);have HB8:=Hd (HB7.o.keeps hX8 (fun h=>h));have HRD8:=Hd hr8.rd;have hC8:=HC.o.ext (HX.o.trans hX8)
 obtain⟨a8,c8,hv8⟩:=hr8.sl
 subst hv8;clear hr8 hX8;go_wp2_with fail
 refine (jl3 hC8 HH8.o (by simp) _ (jaC kk l) HRD8.o HL.o HLN.o T' HKID.o (HBB.o w8 _ hC8 HRD8.o)).mono ?_;rintro e w10 ⟨u,bs,rfl,h10,hbs,hE10,hk10⟩;rw[←HR.o];have hB10:=HB8.o.keeps hk10 (by rintro (h | h) <;> first | omega | cases h);have q3:w10.cell? ⟨w.heap.size+1,3,none⟩=some (.string ⟨#[]⟩):=hB10.cell (i:=3) (by rfl);have f3:w10.frozen? ⟨w.heap.size+1,3,none⟩=false:=hB10.frozen;have hB11:=hB10.set_same (i:=3) (.string r);have HB11:Hid (Blk (w10.setCell ⟨w.heap.size+1,3,none⟩ (.string r)) (w.heap.size+1) (.cells (jae.cells ⟨2,x.extract 0 kk,⟨#[]⟩,r :: jat 15⟩).toArray 144)):=Hd hB11;have HH:=Hd (h10.other (jah.oneSet w10 ⟨w.heap.size+1,3,none⟩ (.string r)));clear h10 hE10 hk10 hB10 hB11;go_wp2_with (refine jag 144 (.tmp 4) rfl rfl _ _ rfl (jar _ _ ⟨2,x.extract 0 kk,⟨#[]⟩,r :: jat 15⟩ rfl HB11.o) ?_)
 refine (jgR (inlP _) _ ⟨2,x.extract 0 kk,⟨#[]⟩,r :: jat 15⟩ HG.o).mono ?_;rintro e w9 ⟨rfl,hE⟩;have h9:=HH.o.ext hE;have q0:w9.cell? ⟨w.heap.size,0,none⟩=some (.string ⟨#[]⟩):=h9.blk.cell (i:=0) (by rfl);have f0:w9.frozen? ⟨w.heap.size,0,none⟩=false:=h9.blk.frozen;have H9:=Hd (h9.setText (jaV ⟨2,x.extract 0 kk,⟨#[]⟩,r :: jat 15⟩))
 obtain⟨tx,htx⟩:∃ tx,tx=jaV ⟨2,x.extract 0 kk,⟨#[]⟩,r :: jat 15⟩:=⟨_,rfl⟩
 rw[←htx]at H9 ⊢;have HTX:=Hd htx;clear h9 hE htx;go_wp2_with fail
 go_ret
 exact⟨w.heap.size,rfl,by rw[HT.o, ←HTX.o];exact H9.o.part,H9.o.row.ext⟩
def ksK(B:List Pair→PT)(l:List Pair)(k:Nat):List PT:=(List.range k).flatMap fun i=>if (cutL i l).length=0 then []else jb3 (B (jaC 1 (cutL i l)))
theorem jf4(B:List Pair→PT)(l:List Pair)(k:Nat):ksK B l (k+1)=ksK B l k++(if (cutL k l).length=0 then []else jb3 (B (jaC 1 (cutL k l)))):=by
 unfold ksK;rw[List.range_succ,List.flatMap_append];simp
def jnl(w:World)(bn:Nat)(B:List Pair→PT)(l:List Pair)(rs:List ByteArray)(i:Value)(wr:World):Prop:=∃ k:Nat,k≤16∧i=.int .i64 k∧∃ u bs,jb9 w wr w.heap.size bn ⟨#[]⟩ (ksK B l k) u bs∧bs.length≤k∧Blk wr bn (.cells (brN rs k).cells.toArray 144)
theorem jfh{P:Program}{o:Oper}{a:Act}{w:World}{K:Act→World→Prop}{Q:Exit→Act→World→Prop}{f:FuncId}{args:Array Value}(hv:(execOp a.eval o).run P w=.ok (.enter f args) w)(h:Calls P f args w (fun e w2=>∃ v,e=.returned v∧K (a.put o.dst v) w2)):o.wp P a w K Q:=by
 unfold Oper.wp;rw[hv];exact h.mono fun e w2 ⟨v,he,hk⟩=>by subst he;exact hk
theorem Tryz.enterCut:∀ args w,(callFunc 127 args).run Tryz.prog w=.ok (.enter 127 args) w:=fun _ _=>by kernel_rfl
theorem Tryz.enterWithout:∀ args w,(callFunc 126 args).run Tryz.prog w=.ok (.enter 126 args) w:=fun _ _=>by kernel_rfl
theorem Tryz.enterHold:∀ args w,(callFunc 125 args).run Tryz.prog w=.ok (.enter 125 args) w:=fun _ _=>by kernel_rfl
theorem jgz(f:Nat)(l:List Pair)(h2:2≤l.length)(hln:l.length≤1000)(hok:jaT (f+1) l)(hk:¬ 0 < comK l)(HB:∀ i,(cutL i l).length≠0→jeE (jaC 1 (cutL i l)) (jaf (f+1) (jaC 1 (cutL i l)))):jeE l (jaf (f+1+1) l):=by
 intro w v hc hv
 obtain⟨a,ha⟩:∃ a,l[0]?=some a:=⟨_,List.getElem?_eq_getElem (by omega)⟩
 obtain⟨z,hz⟩:∃ z,l[l.length - 1]?=some z:=⟨_,List.getElem?_eq_getElem (by omega)⟩
 have ga:l.getD 0 pd=a:=by rw[List.getD_eq_getElem?_getD,ha];rfl
 have gz:l.getD (l.length - 1) pd=z:=by rw[List.getD_eq_getElem?_getD,hz];rfl
 obtain⟨sa1,sa2,sa3,sa4,sa5⟩:=hok.size a (List.mem_of_getElem? ha)
 obtain⟨sz1,sz2,sz3,sz4,sz5⟩:=hok.size z (List.mem_of_getElem? hz)
 have hgood:=(good (f+1) l hok).1;have hrd:=hv;rcases hv with⟨_,_,_,h0⟩ |⟨b,o,c,rfl,hb,hcl,hcell⟩
 ·rw[h0]at h2;simp at h2
 obtain⟨q1,q1v⟩:=hcell 0 a ha
 rw[Nat.zero_mul,Nat.add_zero]at q1 q1v
 obtain⟨q2,_⟩:=hcell (l.length - 1) z hz
 obtain⟨kk,hkk⟩:∃ kk,kk=comK l:=⟨_,rfl⟩
 have hkc:kk=jaQ a.1 z.1:=by rw[hkk];unfold comK;rw[ga,gz]
 obtain⟨x,y⟩:=a
 obtain⟨xb,yb⟩:=z
 simp only at sa1 sa2 sa3 sa4 sa5 sz1 sz2 sz3 sz4 sz5 q1 q1v q2 hkc
 obtain⟨rs,hrs⟩:∃ rs,rs=(List.range 16).map fun i=>if (cutL i l).length=0 then (⟨#[]⟩:ByteArray)else refB (jaf (f+1) (jaC 1 (cutL i l))).text:=⟨_,rfl⟩
 obtain⟨val,hval⟩:∃ val,val=(if x.size=0 then y else (⟨#[]⟩:ByteArray)):=⟨_,rfl⟩
 have hn:ja1 (jaf (f+1)) l=⟨3,⟨#[]⟩,val,rs⟩:=by unfold ja1;rw[if_neg (by omega),if_neg (by omega),if_neg hk,ga,hrs,hval]
 rw[hn]at hgood;have ht:jaf (f+1+1) l=.mk (jaV ⟨3,⟨#[]⟩,val,rs⟩) (ksK (jaf (f+1)) l 16):=by
  show PT.mk (jaV (ja1 _ l)) (ja4 _ l)=_;rw[hn];unfold ja4;rw[if_neg (by omega),if_neg hk];rfl
 obtain⟨T,hT⟩:∃ T,T=jaf (f+1+1) l:=⟨_,rfl⟩
 rw[←hT]at ht ⊢;have hrl:rs.length=16:=by rw[hrs];simp
 have hri:∀ i,i < 16→rs[i]?=some (if (cutL i l).length=0 then (⟨#[]⟩:ByteArray)else refB (jaf (f+1) (jaC 1 (cutL i l))).text):=fun i hi=>by
  rw[hrs,List.getElem?_map,List.getElem?_range hi];rfl
 have hkid:∀ i,(cutL i l).length≠0→jmd (jaf (f+1) (jaC 1 (cutL i l))):=fun i hi =>
  (((good f _ (jeo i hok)).2.1 (fun e=>by have:=ja2 1 (cutL i l);rw[e]at this;simp at this;omega)).kid)
 have hsz:∀ p∈l,p.1.size≤1000000:=fun p hp=>by have:=(hok.size p hp).2.1;omega
 have hcs:∀ i,∀ p∈cutL i l,1≤p.1.size∧p.1.size≤1000000:=fun i p hp=>by
  obtain⟨hm,a',r',e',_⟩:=jdL hp
  exact⟨by show 1≤p.1.data.toList.length;rw[show p.1.data.toList=a' :: r' from e'];simp,hsz p hm⟩
 have hcn:∀ i,(cutL i l).length≤1000:=fun i=>Nat.le_trans (List.length_filter_le _ _) hln;have c0:((l.length:Int) == 0)=false:=by simp;exact fun e=>by rw[e]at h2;simp at h2
 have c1:¬(l.length:Int)=0:=by omega
 have c2:((l.length:Int) == 1)=false:=by simp;omega
 have c3:¬(l.length:Int)=1:=by omega
 have c4:(0:Int)≤(l.length:Int) - 1:=by omega
 have c5:(l.length:Int) - 1 < (l.length:Int):=by omega
 have c6:((l.length:Int) - 1).toNat=l.length - 1:=by omega
 have c7:(0:Int) < (l.length:Int):=by omega
 have d7:0 < l.length:=by omega
 rw[←hkk]at hk;have d0:¬ 0 < kk:=hk;have e0:¬(0:Int) < (kk:Int):=by omega
 have HT:=Hd ht;have Q1:=Hd q1;have Q1V:=Hd q1v;have Q2:=Hd q2;have HKK:=Hd hkc;have HG:=Hd hgood;have HRD:=Hd hrd;have HSZ:=Hd hsz;have HCS:=Hd hcs;have HCN:=Hd hcn;have HKID:=Hd hkid;have HRI:=Hd hri;have HRL:=Hd hrl;have HVAL:=Hd hval;have HBB:=Hd HB;have HC:=Hd hc;clear hc ha hz ga gz hok hgood hrd hcell q1 q1v q2 hkk hkc hsz hcs hcn hkid hri hrl hval hrs hn ht hT HB sa3 sz3
 obtain⟨W1,hW1⟩:∃ W1,W1=w.alloc (.cells #[.string ⟨#[]⟩,.slice none 0 0] 159):=⟨_,rfl⟩
 go_enter Tryz.func78,Tryz.ntmps78;go_wp2_with (refine jap Tryz.allocNode rfl rfl ?_;intro W3 hB3 hE3;refine jal (vs:=jaL.cells) rfl rfl rfl rfl hB3 rfl Tryz.szNode (jae.one _) ?_;intro W4 hB4 hE4;simp only[World.size_alloc]at hB4 hE4)
 have hE34:Ext W1 W4:=by
  rw[←hW1]at hE3;exact hE3.trans' hE4 (fun x hx e=>by have e:x=w.heap.size+1:=e;rw[hW1,World.size_alloc]at hx;omega)
 have hh:=jlo w W1 W4 (w.heap.size+1) hW1 hE34 (by rw[hW1,World.size_alloc]) hB4.lt;have HH0:=Hd hh;have HB4:=Hd hB4;have HX:=Hd hh.row.ext;clear hE3 hE4 hB3 hW1 hB4 hE34 hh;refine jad [0,1,2,3,4,5,6,7,8,9,10,11,12,13] Ext ExtR ExtT (by kernel_rfl) (by kernel_rfl) (by kernel_rfl) ?_;iterate 3 (refine jac _ rfl (by kernel_rfl) rfl rfl (fun K hK=>?_);go_big_quiet_op;refine hK _ ?_;clear hK K)
 refine jai ⟨b,o,none⟩ _ rfl (by kernel_rfl) rfl rfl (fun w1 h1=>jaa Tryz.uStr rfl (jab (jab (by exact Q1.o) (HX.o.trans (jaj _))) h1)) ?_;simp only[Act.put,sA,sB,sC];iterate 6 (refine jac _ rfl (by kernel_rfl) rfl rfl (fun K hK=>?_);go_big_quiet_op;refine hK _ ?_;clear hK K)
 refine jai ⟨b,o+(l.length - 1) * 2,none⟩ _ rfl (by kernel_rfl) rfl rfl (fun w1 h1=>jaa Tryz.uStr rfl (jab (jab (by exact Q2.o) (HX.o.trans (jaj _))) h1)) ?_;simp only[Act.put,sA,sB,sC];refine jav _ 124 #[.string x,.string xb] (.int .i64 (kk:Nat)) rfl (by kernel_rfl) rfl (fun w1=>jan Tryz.enterCommon (by kernel_rfl)) (fun w1 h1=>by rw[HKK.o];exact (jfX w1 x xb (by omega) (by omega)).mono (fun e w2 ⟨h1,n,h2⟩=>⟨h1,by rw[h2];exact (ExtR w1).drewN n⟩)) ?_;simp only[Act.put,sA,sB,sC];iterate 2 (refine jac _ rfl (by kernel_rfl) rfl rfl (fun K hK=>?_);go_big_quiet_op;refine hK _ ?_;clear hK K)
 refine jas (by kernel_rfl) (fun w5 he=>?_);have hX5:=(jaj W4).trans he;have HH5:=Hd (HH0.o.ext hX5);have HB5:=Hd (HB4.o.keeps hX5 (fun h=>h));have HX:=Hd (HX.o.trans hX5);clear he hX5 HH0 HB4;have q0:=HB5.o.cell (i:=0) (v:=.int .i64 0) (by rfl);have f0:w5.frozen? ⟨w.heap.size+1,0,none⟩=false:=HB5.o.frozen;have K6:=jah.oneSet w5 ⟨w.heap.size+1,0,none⟩ (.int .i64 3);have HH6:=Hd (HH5.o.other K6);have HB6:Hid (Blk (w5.setCell ⟨w.heap.size+1,0,none⟩ (.int .i64 3)) (w.heap.size+1) (.cells (brN rs 0).cells.toArray 144)):=Hd (HB5.o.set_same (i:=0) (.int .i64 3));clear K6 HB5 HH5 HX;go_wp2_with fail
 go_loopw [11] (fun i wr=>jnl w (w.heap.size+1) (jaf (f+1)) l rs i wr) (fun i _=>16 - (intOf i).toNat)
 case atStart=>exact⟨0,by omega,rfl,_,[],HH6.o,by simp,HB6.o⟩
 case round =>
  obtain⟨k,hk16,rfl,u,bs,hH,hbs,hB⟩:=hrel
  obtain⟨au,cu,hu⟩:=hH.row.sl
  subst hu;have HH:=Hd hH;have HB:=Hd hB;have HX:=Hd hH.row.ext;clear hH hB
  by_cases hlt:k < 16
  ·have b1:(k:Int) < 16:=by omega
   have hwb:=HH.o.ml;have QI:=Hd (show (wr.alloc (.cells #[.int .i64 (k:Int)] 3)).cell? ⟨wr.heap.size,0,none⟩=some (.int .i64 (k:Int))from(Blk.new wr _).cell (by rfl));have hno:=jmS HH.o.row;have hwp:w.heap.size < wr.heap.size:=HH.o.blk.lt;have NF:=Hd (show ¬(wr.heap.size=w.heap.size∨wr.heap.size=w.heap.size+1∨(Value.slice au bs.length cu).ownBlock=some wr.heap.size)from fun h=>by
    rcases h with h | h | h
    ·omega
    ·omega
    ·exact hno h)
   clear hno;go_wp2_with fail
   refine jaG [0,1,2,3,7,4,5,6,8,9] [4,5,6,9] Ext (jah (fun x=>x=w.heap.size∨x=w.heap.size+1∨(Value.slice au bs.length cu).ownBlock=some x)) ExtR ExtT (fun x y z h k=>jah.trans h k) (fun x y h=>h.mono (fun _ _ h=>h.elim)) (by kernel_rfl) (by kernel_rfl) (by kernel_rfl) ?_;refine jaP ⟨wr.heap.size,0,none⟩ _ rfl (by kernel_rfl) rfl rfl (fun w2 h2=>jaa Tryz.uInt rfl (jaw (by exact QI.o) h2 (by exact NF.o))) ?_;simp only[Act.put,sA,sB,sC];iterate 4 (refine jao _ rfl (by kernel_rfl) rfl rfl (fun K hK=>?_);go_big_quiet_op;refine hK _ ?_;clear hK K)
   refine jaK _ rfl (by kernel_rfl) rfl (fun w1 he K hK=>?_);have hX1:=(((ExtR wr).alloc (.cells #[.int .i64 (k:Int)] 3)).trans (jaj _)).trans he;have hI1:=jab (jab QI.o (jaj _)) he;refine jfh (jan Tryz.enterCut (by kernel_rfl)) ((jnI w1 _ wr.heap.size k l (HRD.o.ext (HX.o.trans hX1)) (by omega) HSZ.o (by omega) hI1).mono ?_);rintro e w2 ⟨v2,n2,rfl,hr2⟩;have HR2:=Hd hr2.rd;have HX2:=Hd (hX1.trans hr2.ext)
   refine⟨_,rfl,hK _ _ (hr2.ext.mono (fun _ _ h=>h.elim)) ?_⟩
   obtain⟨a2,c2,hv2⟩:=hr2.rd.sl
   subst hv2;clear hK K he hX1 hI1 hr2;simp only[Act.put,sA,sB,sC];refine jaK _ rfl (by kernel_rfl) rfl (fun w3 he K hK=>?_);refine jfh (jan Tryz.enterWithout (by kernel_rfl)) ((jhg w3 _ 1 (cutL k l) (HR2.o.ext he) (by have:=HCN.o k;omega) (HCS.o k)).mono ?_);rintro e w4 ⟨v4,rfl,hr4⟩;have HR4:=Hd hr4.rd;have HX4:=Hd ((HX2.o.trans he).trans hr4.ext)
   refine⟨_,rfl,hK _ _ (hr4.ext.mono (fun _ _ h=>h.elim)) ?_⟩
   obtain⟨a4,c4',hv4⟩:=hr4.rd.sl
   subst hv4;clear hK K he hr4 HR2 HX2;simp only[Act.put,sA,sB,sC];refine jaK _ rfl (by kernel_rfl) rfl (fun w5' he K hK=>?_);have HX5:=Hd (HX4.o.trans he);have HR5:=Hd (HR4.o.ext he);have HH5:=Hd (HH.o.ext HX5.o);have hC5:=HC.o.ext (HX.o.trans HX5.o)
   obtain⟨rk,hrk⟩:∃ rk,rk=(if (cutL k l).length=0 then (⟨#[]⟩:ByteArray)else refB (jaf (f+1) (jaC 1 (cutL k l))).text):=⟨_,rfl⟩
   refine jfh (f:=125) (args:=#[ptrV w.heap.size,.slice a4 (jaC 1 (cutL k l)).length c4']) (jan Tryz.enterHold (by kernel_rfl)) ((show Calls _ _ _ _ (fun e w'=>∃ u' bs',e=.returned (.string rk)∧jb9 w w' w.heap.size (w.heap.size+1) ⟨#[]⟩ (ksK (jaf (f+1)) l (k+1)) u' bs'∧bs'.length≤bs.length+1∧Ext w w'∧jah (fun x=>x=w.heap.size∨(Value.slice au bs.length cu).ownBlock=some x) w5' w')from ?hold).mono ?_)
   case hold =>
    rw[jf4]
    by_cases hc0:(cutL k l).length=0
    ·rw[hrk,if_pos hc0,if_pos hc0,List.append_nil,ja2,hc0]
     refine (jlp w5' w.heap.size a4 c4').mono ?_;rintro e w6 ⟨rfl,rfl⟩
     exact⟨_,bs,rfl,HH5.o,by omega,HH5.o.row.ext,jah.refl _ _⟩
    ·rw[hrk,if_neg hc0,if_neg hc0]
     exact jl3 hC5 HH5.o (by omega) _ (jaC 1 (cutL k l)) HR5.o (fun e=>hc0 (by have:=ja2 1 (cutL k l);rw[e]at this;simpa using this.symm)) (by rw[ja2];have:=HCN.o k;omega) _ (HKID.o k hc0) (HBB.o k hc0 w5' _ hC5 HR5.o)
   rintro e w6 ⟨u6,bs6,rfl,h6,hb6,hE6,hk6⟩
   refine⟨_,rfl,hK _ _ (hk6.mono (fun x _ h=>h.elim .inl (fun h=>.inr (.inr h)))) ?_⟩
   have hB6:=(HB.o.keeps HX5.o (fun h=>h)).keeps hk6 (fun h=>by
    rcases h with h | h
    ·omega
    ·exact HH.o.mb h)
   have HB6:=Hd hB6;have HH6:=Hd h6;have HRK:=Hd ((HRI.o k hlt).trans (by rw[←hrk]));clear hK K he h6 hE6 hk6 hB6 hC5 hrk HR4 HR5 HH5;simp only[Act.put,sA,sB,sC]
   (refine jao _ rfl (by kernel_rfl) rfl rfl (fun K hK=>?_);go_big_quiet_op;refine hK _ ?_;clear hK K)
   refine jaK _ rfl (by kernel_rfl) rfl (fun w7 he K hK=>?_);have hB7:=HB6.o.keeps he (fun h=>h)
   obtain⟨old,q7⟩:∃ v,w7.cell? ⟨w.heap.size+1,3+k,none⟩=some v:=⟨_,hB7.cellL (List.getElem?_eq_getElem (by rw[jae.cells_len _ (jjm HRL.o hk16)];omega))⟩
   have f7:w7.frozen? ⟨w.heap.size+1,3+k,none⟩=false:=hB7.frozen;have hB8:=hB7.set_same (i:=3+k) (.string rk);rw[show (brN rs k).cells.toArray.setIfInBounds (3+k) (.string rk)=((brN rs k).cells.set (3+k) (.string rk)).toArray by simp,jjn HRL.o hlt rk HRK.o]at hB8;have HB8:=Hd hB8;have K8:=jah.oneSet w7 ⟨w.heap.size+1,3+k,none⟩ (.string rk);have HH8:=Hd ((HH6.o.ext he).other K8);have HD8:=Hd (K8.mono (G:=fun x=>x=w.heap.size∨x=w.heap.size+1∨(Value.slice au bs.length cu).ownBlock=some x) (fun x _ e=>.inr (.inl e)));clear he hB7 hB8 K8 HB6 HH6;go_simp;refine hK _ _ HD8.o ?_;clear hK K q7 f7;refine jbt (by kernel_rfl) (fun w9 he=>?_);have HH9:=Hd (HH8.o.ext he);have HB9:=Hd (HB8.o.keeps he (fun h=>h));clear he HH8 HB8 HD8;go_wp2_with fail
   go_roundw
   case rel=>exact⟨k+1,by omega,by go_num,u6,bs6,HH9.o,by omega,HB9.o⟩
   case measure=>simp[intOf];omega
  ·have hk16':k=16:=by omega
   subst hk16';have e16:brN rs 16=⟨3,⟨#[]⟩,⟨#[]⟩,rs⟩:=by unfold brN jat;rw[List.take_of_length_le (by have:=HRL.o;omega)];simp
   have hB:=HB.o;rw[e16]at hB;have q1:=jab Q1.o HX.o
   by_cases hx0:x.size=0
   ·have hxe:=jdE hx0
    have hv:val=y:=by rw[HVAL.o,if_pos hx0]
    have q1v:=jab Q1V.o HX.o;subst hxe;have q2:wr.cell? ⟨w.heap.size+1,2,none⟩=some (.string ⟨#[]⟩):=hB.cellL (by rfl);have f2:wr.frozen? ⟨w.heap.size+1,2,none⟩=false:=hB.frozen;have hB2:=hB.set_same (i:=2) (.string y);rw[show (jae.cells ⟨3,⟨#[]⟩,⟨#[]⟩,rs⟩).toArray.setIfInBounds 2 (.string y)=(jae.cells ⟨3,⟨#[]⟩,y,rs⟩).toArray by simp[jae.cells]]at hB2;have HB11:=Hd (show Blk (wr.setCell ⟨w.heap.size+1,2,none⟩ (.string y)) (w.heap.size+1) (.cells (jae.cells ⟨3,⟨#[]⟩,val,rs⟩).toArray 144)from by rw[hv];exact hB2);have HH:=Hd (HH.o.other (jah.oneSet wr ⟨w.heap.size+1,2,none⟩ (.string y)));have HV:=Hd hv;clear hB hB2 e16 hv;go_wp2_with (refine jag 144 (.tmp 4) rfl rfl _ _ rfl (jar _ _ ⟨3,⟨#[]⟩,val,rs⟩ HRL.o HB11.o) ?_)
    refine (jgR (inlP _) _ ⟨3,⟨#[]⟩,val,rs⟩ HG.o).mono ?_;rintro e w9 ⟨rfl,hE⟩;have h9:=HH.o.ext hE;have q0:w9.cell? ⟨w.heap.size,0,none⟩=some (.string ⟨#[]⟩):=h9.blk.cell (i:=0) (by rfl);have f0:w9.frozen? ⟨w.heap.size,0,none⟩=false:=h9.blk.frozen;have H9:=Hd (h9.setText (jaV ⟨3,⟨#[]⟩,val,rs⟩))
    obtain⟨tx,htx⟩:∃ tx,tx=jaV ⟨3,⟨#[]⟩,val,rs⟩:=⟨_,rfl⟩
    rw[←htx]at H9 ⊢;have HTX:=Hd htx;clear h9 hE htx;go_wp2_with fail
    go_ret
    exact⟨w.heap.size,rfl,by rw[HT.o, ←HTX.o];exact H9.o.part,H9.o.row.ext⟩
   ·have hne:=ja8 (s:=x) (by omega)
    have hv:val=⟨#[]⟩:=by rw[HVAL.o,if_neg hx0]
    rw[←hv]at hB;have HB11:=Hd (show Blk wr (w.heap.size+1) (.cells (jae.cells ⟨3,⟨#[]⟩,val,rs⟩).toArray 144)from by rw[hv]at hB ⊢;exact hB);have HV:=Hd hv;clear hB e16 hv;go_wp2_with (refine jag 144 (.tmp 4) rfl rfl _ _ rfl (jar _ _ ⟨3,⟨#[]⟩,val,rs⟩ HRL.o HB11.o) ?_)
    refine (jgR (inlP _) _ ⟨3,⟨#[]⟩,val,rs⟩ HG.o).mono ?_;rintro e w9 ⟨rfl,hE⟩;have h9:=HH.o.ext hE;have q0:w9.cell? ⟨w.heap.size,0,none⟩=some (.string ⟨#[]⟩):=h9.blk.cell (i:=0) (by rfl);have f0:w9.frozen? ⟨w.heap.size,0,none⟩=false:=h9.blk.frozen;have H9:=Hd (h9.setText (jaV ⟨3,⟨#[]⟩,val,rs⟩))
    obtain⟨tx,htx⟩:∃ tx,tx=jaV ⟨3,⟨#[]⟩,val,rs⟩:=⟨_,rfl⟩
    rw[←htx]at H9 ⊢;have HTX:=Hd htx;clear h9 hE htx;go_wp2_with fail
    go_ret
    exact⟨w.heap.size,rfl,by rw[HT.o, ←HTX.o];exact H9.o.part,H9.o.row.ext⟩
theorem jfV:∀ (f:Nat) (l:List Pair),jaT f l→l.length≤1000→jeE l (jaf (f+1) l)
 | f,l,hok,hln=>by
  by_cases h0:l.length=0
  ·exact jiD f l h0
  by_cases h1:l.length=1
  ·exact jjp f l h1 hok
  have h2:2≤l.length:=by omega
  cases f with
  | zero =>
   exfalso
   obtain⟨a,ha⟩:∃ a,l[0]?=some a:=⟨_,List.getElem?_eq_getElem (by omega)⟩
   obtain⟨b,hb⟩:∃ b,l[1]?=some b:=⟨_,List.getElem?_eq_getElem (by omega)⟩
   have hlt:=jcI hok.rise (by omega) ha hb
   have:=(hok.size b (List.mem_of_getElem? hb)).1
   rw[show b.l=[]from List.eq_nil_of_length_eq_zero (by show b.1.size=0;omega)]at hlt;exact jbn _ hlt
  | succ f =>
   by_cases hk:0 < comK l
   ·exact jjo f l h2 hln hok hk (jfV f _ ((jdM (comK l) hok (fun p hp q hq=>((jbJ hok h2 p hp).1).trans (jbJ hok h2 q hq).1.symm) (fun p hp=>(jbJ hok h2 p hp).2)).mono (by omega)) (by rw[ja2];exact hln))
   ·exact jgz f l h2 hln hok hk (fun i _=>jfV f _ (jeo i hok) (by rw[ja2];exact Nat.le_trans (List.length_filter_le _ _) hln))
theorem jj4(b:UInt8):(b >>> 4).toNat=b.toNat / 16:=by
 have:∀ c:Fin 256,(UInt8.ofNat c.1 >>> 4).toNat=c.1 / 16:=by decide
 have h:=this ⟨b.toNat,b.toNat_lt⟩;simpa using h
theorem jj5(b:UInt8):(b &&& 15).toNat=b.toNat % 16:=by
 have:∀ c:Fin 256,(UInt8.ofNat c.1 &&& 15).toNat=c.1 % 16:=by decide
 have h:=this ⟨b.toNat,b.toNat_lt⟩;simpa using h
theorem jj0:∀ (a b:List UInt8),Lt a b→Lt (jch a) (jch b)
 | a,[],h=>absurd h (jbn _)
 | [],y :: b,_=>rfl
 | x :: a,y :: b,h=>by
  show Lt ((x >>> 4) ::(x &&& 15) :: jch a) ((y >>> 4) ::(y &&& 15) :: jch b);have hx:=jj4 x;have hy:=jj4 y;have lx:=jj5 x;have ly:=jj5 y;rcases jbq.1 h with h |⟨he,h2⟩
  ·have h:=UInt8.lt_iff_toNat_lt.1 h
   by_cases hh:x.toNat / 16 < y.toNat / 16
   ·exact jbq.2 (.inl (UInt8.lt_iff_toNat_lt.2 (by omega)))
   ·refine jbq.2 (.inr ⟨UInt8.toNat_inj.1 (by omega),jbq.2 (.inl (UInt8.lt_iff_toNat_lt.2 (by omega)))⟩)
  ·subst he;exact jbq.2 (.inr ⟨rfl,jbq.2 (.inr ⟨rfl,jj0 a b h2⟩)⟩)
theorem jiT(s:ByteArray):jaO (jcg s)=true:=by
 unfold jaO jcg;rw[List.all_eq_true];intro x hx;have hx:x∈jch s.data.toList:=hx;unfold jch at hx
 obtain⟨b,_,hb⟩:=List.mem_flatMap.1 hx
 have h1:=jj4 b;have h2:=jj5 b;have h3:=b.toNat_lt;have h15:(15:UInt8).toNat=15:=rfl;refine decide_eq_true (UInt8.le_iff_toNat_le.2 ?_);rcases List.mem_cons.1 hb with rfl | hb
 ·omega
 ·rw[List.mem_singleton.1 hb];omega
theorem jkg(s:ByteArray):(jcg s).size=2 * s.size:=by
 show (jch s.data.toList).length=2 * s.data.toList.length;unfold jch;induction s.data.toList with
 | nil=>rfl
 | cons x r ih=>rw[List.flatMap_cons,List.length_append,ih,List.length_cons,List.length_cons,List.length_cons,List.length_nil];omega
structure jme(l:List Pair):Prop where
 size:∀ p∈l,0 < p.1.size∧p.1.size≤6∧0 < p.2.size∧p.2.size≤80
 rise:l.Pairwise fun p q=>Lt p.l q.l
 len:l.length≤40
theorem jgO:∀ (a b c:List UInt8),Lt a b→Lt b c→Lt a c
 | a,b,[],_,h=>absurd h (jbn _)
 | a,[],z :: c,h,_=>absurd h (jbn _)
 | [],y :: b,z :: c,_,_=>rfl
 | x :: a,y :: b,z :: c,h1,h2=>by
  rcases jbq.1 h1 with h |⟨rfl,h⟩
  ·rcases jbq.1 h2 with h' |⟨rfl,h'⟩
   ·exact jbq.2 (.inl (UInt8.lt_trans h h'))
   ·exact jbq.2 (.inl h)
  ·rcases jbq.1 h2 with h' |⟨rfl,h'⟩
   ·exact jbq.2 (.inl h')
   ·exact jbq.2 (.inr ⟨rfl,jgO a b c h h'⟩)
theorem ja5{l:List Pair}(h:jaD l=0):jme l:=by
 unfold jaD at h;split at h
 ·cases h
 rename_i hb
 split at h
 ·cases h
 rename_i hl
 have hbad:∀ i,i < l.length→badN l i=false:=fun i hi=>by
  cases hbi:badN l i with
  | false=>rfl
  | true=>exact absurd (List.any_eq_true.2 ⟨i,List.mem_range.2 hi,hbi⟩) hb
 refine⟨fun p hp=>?_,?_,by omega⟩
 ·obtain⟨i,hi⟩:=List.getElem?_of_mem hp
  have h1:=hbad i (List.getElem?_eq_some_iff.1 hi).1;have hg:l.getD i (⟨#[]⟩,⟨#[]⟩)=p:=by rw[List.getD_eq_getElem?_getD,hi];rfl
  unfold badN at h1;rw[hg]at h1;simp only[Bool.or_eq_false_iff,Bool.not_eq_false']at h1;have h2:=h1.1.1;have h3:=h1.1.2;unfold jbN at h2;unfold jbs at h3;simp only[decide_eq_true_eq]at h2 h3
  exact⟨h2.1,h2.2,h3.1,h3.2⟩
 ·have step:∀ i,i+1 < l.length→Lt (l.getD i pd).l (l.getD (i+1) pd).l:=fun i hi=>by
   have h1:=hbad (i+1) hi;unfold badN at h1;simp only[Bool.or_eq_false_iff,Bool.and_eq_false_iff,Bool.not_eq_false']at h1;rcases h1.2 with h2 | h2
   ·simp at h2
   ·rw[Nat.add_sub_cancel]at h2
    have:Op.bytesLess (l.getD i pd).1.toList (l.getD (i+1) pd).1.toList=true:=h2
    rw[ByteArray.toList_eq,ByteArray.toList_eq]at this;exact this
  rw[List.pairwise_iff_getElem];intro i j hi hj hij;have e:∀ k (hk:k < l.length),l.getD k pd=l[k]:=fun k hk=>by rw[List.getD_eq_getElem?_getD,List.getElem?_eq_getElem hk];rfl
  have key:∀ d,∀ i,i+d+1 < l.length→Lt (l.getD i pd).l (l.getD (i+d+1) pd).l:=by
   intro d;induction d with
   | zero=>exact fun i hi=>step i hi
   | succ d ih=>exact fun i hi=>jgO _ _ _ (ih i (by omega)) (step (i+d+1) hi)
  have:=key (j - i - 1) i (by omega)
  rw[show i+(j - i - 1)+1=j by omega,e i hi,e j hj]at this;exact this
theorem jdx{l:List Pair}(h:jme l):jaT 12 (jbb l):=by
 refine⟨fun p hp=>?_,?_⟩
 ·obtain⟨q,hq,rfl⟩:=List.mem_map.1 hp
  obtain⟨h1,h2,h3,h4⟩:=h.size q hq
  have hs:=jkg q.1
  exact⟨by show (jcg q.1).size≤_;omega,by show (jcg q.1).size≤_;omega,jiT _,h3,h4⟩
 ·unfold jbb
  rw[List.pairwise_map];exact h.rise.imp fun {p q} h=>jj0 _ _ h
def jbr(l:List Pair):PT:=jaf 13 (jbb l)
end
end Go.Proofs.YtcpnjmcipainpaaGreatDoor
