/- Parts of the proof, one behind the other: PBuildA. Each is under no condition but those that it states. -/
import Derived.Test.YtcpnjmcipainpaaGreatDoorPc31
import Derived.Test.YtcpnjmcipainpaaGreatDoorPc37
import Derived.Test.YtcpnjmcipainpaaGreatDoorPc39
namespace Go.Proofs.YtcpnjmcipainpaaGreatDoor
set_option linter.unusedSimpArgs false
set_option linter.unusedVariables false
set_option maxRecDepth 100000
set_option maxHeartbeats 16000000
section
open Go Go.RowKit
attribute [local go_sem] Oper.semAt_some
theorem jm7(w:World)(hc:jbO w)(v:Value)(l:List Pair)(key:ByteArray)(hv:RdP w v l)(hn:l.length≤9223372036854775807)(hs:jjT l)(hk:key.size≤9223372036854775807) :
  Calls Tryz.prog 8 #[v,.string key] w fun e w'=>e=.returned (.bool true)∧Ext w w':=by
 have HC:=Hd hc;have HV:=Hd hv;have HN:=Hd (And.intro hn hs)
 obtain⟨va,vc,hsl⟩:=hv.sl
 subst hsl;clear hc hv hn hs;go_enter Tryz.func8,Tryz.ntmps8;go_wp2_with fail
 refine (jnL w HC.o).mono ?_;rintro e w1 ⟨rfl,hE⟩;have HE1:=Hd hE;clear hE;go_wp2_with fail
 refine (jiC w1 (HC.o.ext HE1.o) _ l (HV.o.ext HE1.o) HN.o.1 HN.o.2).mono ?_;rintro e w2 (⟨rfl,hE,_⟩ |⟨s,bm,S,rfl,hE,hH,_,_⟩)
 ·have HE2:=Hd (HE1.o.trans hE)
  clear hE HE1;go_wp2_with fail
  go_ret
  exact⟨rfl,HE2.o⟩
 have HE2:=Hd (HE1.o.trans hE);have HS2:=Hd hH.st;have HM:=Hd hH.hasM
 obtain⟨rt,hrt⟩:∃ rt,rt=shaB (ja5 l).text:=⟨_,rfl⟩
 have HRT:=Hd hrt;rw[←hrt];clear hE hH HE1 hrt
 by_cases h50:50 < key.size
 ·have c1:(50:Int) < (key.size:Int):=by omega
  clear h50;go_wp2_with fail
  go_ret
  exact⟨rfl,HE2.o⟩
 have c1:¬(50:Int) < (key.size:Int):=by omega
 have HK:=Hd (show key.size≤1000 by omega);clear h50;go_wp2_with fail
 have hbd:=jik w2 s bm 2000 S HS2.o l HM.o key HK.o;rw[←HRT.o]at hbd;refine hbd.mono ?_;rintro e w4 ⟨pa,pc,rfl,hP⟩
 obtain⟨N,hN⟩:∃ N,N=wayN l key:=⟨_,rfl⟩
 rw[←hN]at hP ⊢;have HNN:=Hd hN;have HP4:=Hd hP.rd;have HE4:=Hd (HE2.o.trans hP.ext);clear hbd hP HE2 HS2 hN;go_wp2_with fail
 have hvf:=jeY w4 (HC.o.ext HE4.o) rt key HK.o _ N HP4.o (by rw[HNN.o];exact jh6 w4 HM.o.ok key);rw[show proveR rt key N=(jdG l key,true) by rw[HNN.o,HRT.o];exact jgq w4 HM.o.ok key]at hvf;refine hvf.mono ?_;rintro e w5 ⟨rfl,hE⟩;have HE5:=Hd (HE4.o.trans hE);have HP5:=Hd (HP4.o.ext hE);clear hvf hE HE4 HP4;unfold verV
 obtain⟨o,ho⟩:∃ o,o=jdG l key:=⟨_,rfl⟩
 have HO:=Hd ho;rw[←ho];clear ho;have HLN:=Hd (show l.length≤1000000 by have:=(jbS HM.o.ok).len;omega);have HNL:=Hd (show N.length≤1000000 by rw[HNN.o];have:=(jh5 l key).2;omega);cases o with
 | none =>
  simp only[if_true];unfold clmV;go_wp2_with (first |(refine jai Tryz.allocClaim rfl rfl ?_;intro W6 hB6 hE6) |(refine jaf (old:=clmL none) (vs:=clmL none) rfl rfl rfl rfl hB6 rfl (by rw[jaW];exact Tryz.szClaim) (jbk _) ?_;intro W7 hB7 hE7))
  have HX7:=Hd (show Ext w5 W7 from hE6.trans' hE7 (fun x hx e=>by have e:x=w5.heap.size:=e;omega));have HE7:=Hd (HE5.o.trans HX7.o);have HP7:=Hd (HP5.o.ext HX7.o);have HB7:=Hd hB7
  obtain⟨g,hg⟩:∃ g,g=w5.heap.size:=⟨_,rfl⟩
  rw[←hg]at HB7 ⊢;clear hB6 hE6 hB7 hE7 HE5 HP5 hg HX7;go_wp2_with fail
  refine (jnj W7 _ l key (HV.o.ext HE7.o) HLN.o).mono ?_;rintro e w8 ⟨rfl,hE⟩;rw[←jfc, ←HO.o];unfold optV;have HE8:=Hd (HE7.o.trans hE);have HP8:=Hd (HP7.o.ext hE);have hB8:=HB7.o.keeps hE (fun h=>h);have HB8:=Hd hB8;clear hE HE7 HP7 HB7;go_wp2_with (refine jah 71 (.tmp 10) rfl rfl _ _ rfl (jbm (o:=none) hB8) ?_)
  refine (jgh w8 _ l key none (HV.o.ext HE8.o) HLN.o).mono ?_;rintro e w9 ⟨rfl,hE⟩;rw[←HO.o,show decide (none=none)=true from decide_eq_true rfl];have HE9:=Hd (HE8.o.trans hE);have HP9:=Hd (HP8.o.ext hE);have hB9:=HB8.o.keeps hE (fun h=>h);have HB9:=Hd hB9;clear hE HE8 HP8 HB8 hB9 hB8;go_wp2_with fail
  refine (jkC w9 _ l key (HV.o.ext HE9.o) HM.o.ok (by have:=HK.o;omega)).mono ?_;rintro e w10 ⟨u10,n10,rfl,hU⟩;rw[←HNN.o]at hU
  obtain⟨a10,c10,hsl⟩:=hU.sl
  subst hsl;have HU:=Hd hU;have HE10:=Hd (HE9.o.trans hU.ext);have HP10:=Hd (HP9.o.ext hU.ext);have HB10:=Hd (HB9.o.keeps hU.ext (fun h=>h));clear hU HE9 HP9 HB9;go_wp2_with fail
  refine (jnr w10 _ _ N N HP10.o (SRow.rd HU.o) HNL.o HNL.o).mono ?_;rintro e w11 ⟨rfl,hE⟩;rw[show decide (N=N)=true from decide_eq_true rfl];have HE11:=Hd (HE10.o.trans hE);have hB11:=HB10.o.keeps hE (fun h=>h);have q0:=hB11.cell (i:=0) (v:=.bool false) (by rfl);have q1:=hB11.cell (i:=1) (v:=.string ⟨#[]⟩) (by rfl);clear hE HE10 HP10 HB10 hB11;go_wp2_with fail
  go_ret
  exact⟨rfl,HE11.o⟩
 | some u =>
  simp only[if_true];unfold clmV;go_wp2_with (first |(refine jai Tryz.allocClaim rfl rfl ?_;intro W6 hB6 hE6) |(refine jaf (old:=clmL none) (vs:=clmL (some u)) rfl rfl rfl rfl hB6 rfl (by rw[jaW];exact Tryz.szClaim) (jbk _) ?_;intro W7 hB7 hE7))
  have HX7:=Hd (show Ext w5 W7 from hE6.trans' hE7 (fun x hx e=>by have e:x=w5.heap.size:=e;omega));have HE7:=Hd (HE5.o.trans HX7.o);have HP7:=Hd (HP5.o.ext HX7.o);have HB7:=Hd hB7
  obtain⟨g,hg⟩:∃ g,g=w5.heap.size:=⟨_,rfl⟩
  rw[←hg]at HB7 ⊢;clear hB6 hE6 hB7 hE7 HE5 HP5 hg HX7;go_wp2_with fail
  refine (jnj W7 _ l key (HV.o.ext HE7.o) HLN.o).mono ?_;rintro e w8 ⟨rfl,hE⟩;rw[←jfc, ←HO.o];unfold optV;have HE8:=Hd (HE7.o.trans hE);have HP8:=Hd (HP7.o.ext hE);have hB8:=HB7.o.keeps hE (fun h=>h);have HB8:=Hd hB8;clear hE HE7 HP7 HB7;go_wp2_with (refine jah 71 (.tmp 10) rfl rfl _ _ rfl (jbm (o:=(some u)) hB8) ?_)
  refine (jgh w8 _ l key (some u) (HV.o.ext HE8.o) HLN.o).mono ?_;rintro e w9 ⟨rfl,hE⟩;rw[←HO.o,show decide ((some u)=(some u))=true from decide_eq_true rfl];have HE9:=Hd (HE8.o.trans hE);have HP9:=Hd (HP8.o.ext hE);have hB9:=HB8.o.keeps hE (fun h=>h);have HB9:=Hd hB9;clear hE HE8 HP8 HB8 hB9 hB8;go_wp2_with fail
  refine (jkC w9 _ l key (HV.o.ext HE9.o) HM.o.ok (by have:=HK.o;omega)).mono ?_;rintro e w10 ⟨u10,n10,rfl,hU⟩;rw[←HNN.o]at hU
  obtain⟨a10,c10,hsl⟩:=hU.sl
  subst hsl;have HU:=Hd hU;have HE10:=Hd (HE9.o.trans hU.ext);have HP10:=Hd (HP9.o.ext hU.ext);have HB10:=Hd (HB9.o.keeps hU.ext (fun h=>h));clear hU HE9 HP9 HB9;go_wp2_with fail
  refine (jnr w10 _ _ N N HP10.o (SRow.rd HU.o) HNL.o HNL.o).mono ?_;rintro e w11 ⟨rfl,hE⟩;rw[show decide (N=N)=true from decide_eq_true rfl];have HE11:=Hd (HE10.o.trans hE);have hB11:=HB10.o.keeps hE (fun h=>h);have q0:=hB11.cell (i:=0) (v:=.bool true) (by rfl);have q1:=hB11.cell (i:=1) (v:=.string u) (by rfl);clear hE HE10 HP10 HB10 hB11;go_wp2_with fail
  go_ret
  exact⟨rfl,HE11.o⟩
end
end Go.Proofs.YtcpnjmcipainpaaGreatDoor
