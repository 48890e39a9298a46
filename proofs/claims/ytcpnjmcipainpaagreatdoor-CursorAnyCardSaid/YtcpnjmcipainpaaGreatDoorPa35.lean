/- Parts of the proof, one behind the other: CurLe, KeepB. Each is under no condition but those that it states. -/
import Derived.Test.YtcpnjmcipainpaaGreatDoorPa27
import Derived.Test.YtcpnjmcipainpaaGreatDoorPa34
namespace Go.Proofs.YtcpnjmcipainpaaGreatDoor
set_option linter.unusedSimpArgs false
set_option linter.unusedVariables false
set_option maxRecDepth 100000
set_option maxHeartbeats 16000000
section
open Go Go.RowKit
attribute [local go_sem] Oper.semAt_some
def exN9:List Pair:=[(⟨#[97]⟩,⟨#[49]⟩),(⟨#[98]⟩,⟨#[50]⟩),(⟨#[99]⟩,⟨#[51]⟩)]
theorem jpf:jbp exN9=0:=by decide +kernel
theorem jno:fewB exN9=true:=by decide +kernel
theorem jnp:InjL (jbO exN9):=by unfold InjL;decide +kernel
theorem jj7:jeP ⟨#[97,97]⟩ exN9=[(⟨#[98]⟩,⟨#[50]⟩),(⟨#[99]⟩,⟨#[51]⟩)]:=by decide +kernel
theorem jj8:jeP ⟨#[97]⟩ exN9=exN9:=by decide +kernel
theorem jlz:jie ⟨#[98]⟩ exN9=[(⟨#[97]⟩,⟨#[49]⟩),(⟨#[98]⟩,⟨#[50]⟩)]:=by decide +kernel
theorem jj9:jeP ⟨#[99]⟩ exN9=[(⟨#[99]⟩,⟨#[51]⟩)]:=by decide +kernel
theorem jn6(w:World)(xs:List Pair)(T:TypeId):RdP (w.alloc (.cells (jcR xs).toArray T)) (.slice (some ⟨w.heap.size,0,none⟩) xs.length xs.length) xs:=by
 refine .inr ⟨_,0,_,rfl,(Blk.new w _).lt,Nat.le_refl _,fun j x hx=>?_⟩
 obtain⟨h1,h2⟩:=jer xs j x hx
 exact⟨by rw[Nat.zero_add];exact (Blk.new w _).cellL h1,by rw[Nat.zero_add];exact (Blk.new w _).cellL h2⟩
theorem jnz(w:World)(hc:jch w)(he:ErrT w)(v:Value)(l:List Pair)(hv:RdP w v l)(hn:l.length≤9223372036854775807)(hs:jou l) :
  Calls Tryz.prog 16 #[v] w (jq6 l w):=
 (jnA w hc he v l hv hn hs).mono fun e w' h=>by
  rcases h with h |⟨s,bm,S,h1,h⟩
  ·exact .inl h
  ·exact .inr ⟨s,bm,S,h1,h.ext,h.st,h.has,h.key,h.few,h.inj⟩
def W9P(w1:World)(e:Ending)(w2:World):Prop:=∃ g cap,e=.returned (.tuple #[.slice (some ⟨g,0,none⟩) 1 cap,.string ⟨#[99]⟩,.int .i64 0])∧Ext w1 w2∧w2.cell? ⟨g,0,none⟩=some (.string ⟨#[98]⟩)
def W9R(w1:World)(e:Ending)(w2:World):Prop:=∃ ad cap,e=.returned (.tuple #[.slice ad 2 cap,.bool false,.int .i64 0])∧Ext w1 w2
theorem jon(w:World)(hc:jch w)(he:ErrT w):Calls Tryz.prog 38 #[] w fun e w'=>e=.returned (.bool true)∧Ext w w':=by
 have HC:=Hd hc;have HEE:=Hd he;clear hc he;go_enter Tryz.func38,Tryz.ntmps38;go_wp2_with fail
 have hx0:Ext w (w.alloc (.cells #[.string ⟨#[97]⟩,.string ⟨#[49]⟩,.string ⟨#[98]⟩,.string ⟨#[50]⟩,.string ⟨#[99]⟩,.string ⟨#[51]⟩] 95)):=(ExtR w).alloc _;refine (jnz _ (HC.o.ext hx0) (HEE.o.ext hx0) _ exN9 (jn6 w exN9 95) (by decide) (fun p hp=>by
  have:∀ p∈exN9,p.1.size≤9223372036854775807∧p.2.size≤9223372036854775807:=by decide
  exact this p hp)).mono ?_
 rintro e w1 (⟨_,_,hno⟩ |⟨s,bm,S,rfl,hE,hS,hM,hk,_,_⟩)
 ·exact absurd ⟨jno,jpf,jnp⟩ hno
 have HE1:=Hd (hx0.trans hE);have HS1:=Hd hS;have HM:=Hd (And.intro hM hk)
 obtain⟨rt,hrt⟩:∃ rt,rt=shaB (ja2 exN9).text:=⟨_,rfl⟩
 have HRT:=Hd hrt;rw[←hrt];clear hE hS hM hk hx0 hrt;go_wp2_with fail
 have hpg:Calls Tryz.prog 39 #[.pointer (some ⟨s,0,none⟩),.string rt,.string ⟨#[97,97]⟩,.int .i64 1] w1 (W9P w1):=by
  have hpg:=jqM w1 s bm 2000 S ⟨#[97,97]⟩ exN9 1 (by decide) HM.o.1 HS1.o;rw[jj7, ←HRT.o]at hpg;refine hpg.mono ?_;rintro e w2 ⟨hE,hpp⟩;rw[if_pos (by decide)]at hpp
  obtain⟨lv,h1,hR⟩:=hpp
  obtain⟨h2,⟨h3,h4⟩ |⟨g,cap,cur,h3,_⟩⟩:=hR.own
  ·cases h4
  ·refine⟨g,cap,?_,hE,?_⟩
   ·rw[h1,h3];rfl
   ·have:=hR.own.cells (g:=g) (by rw[h3];rfl) 0 (.string ⟨#[98]⟩) (by rfl)
    rwa [Addr.add_lit,Nat.zero_add]at this
 refine hpg.mono ?_;rintro e w2 ⟨g,cap,rfl,hE,qb⟩;have HE2:=Hd (HE1.o.trans hE);have HS2:=Hd (HS1.o.ext hE);have QB:=Hd qb;clear hE qb HE1 HS1 hpg;go_wp2_with fail
 have hrg:Calls Tryz.prog 40 #[.pointer (some ⟨s,0,none⟩),.string rt,.string ⟨#[97]⟩,.string ⟨#[98]⟩,.int .i64 8] w2 (W9R w2):=by
  have hrg:=jpC w2 s bm 2000 S ⟨#[97]⟩ ⟨#[98]⟩ exN9 8 (by decide) HM.o.1 HS2.o;rw[jj8, ←HRT.o]at hrg;refine hrg.mono ?_;rintro e w3 ⟨hE,hpp⟩;rw[if_pos (by decide),jlz]at hpp
  obtain⟨lv,h1,hR⟩:=hpp
  obtain⟨ad,cp,h3⟩:=jaH hR.own
  exact⟨ad,cp,by rw[h1,h3];rfl,hE⟩
 refine hrg.mono ?_;rintro e w3 ⟨ad,cp,rfl,hE⟩;have HE3:=Hd (HE2.o.trans hE);have HS3:=Hd (HS2.o.ext hE);have QB3:=Hd (jab QB.o hE);clear hE hrg HE2 HS2 QB;go_wp2_with fail
 have hct:=jpa w3 s bm 2000 S exN9 HM.o.1 HS3.o;rw[←HRT.o]at hct;refine hct.mono ?_;rintro e w4 ⟨rfl,hE⟩;have HE4:=Hd (HE3.o.trans hE);have HS4:=Hd (HS3.o.ext hE);have QB4:=Hd (jab QB3.o hE);clear hE hct HE3 HS3 QB3;rw[show ((exN9.length:Nat):Int)=3 from rfl];go_wp2_with fail
 have hsk:=jjA w4 s bm 2000 S ⟨#[99]⟩ exN9 (by decide) HM.o.1 HS4.o;rw[←HRT.o]at hsk;refine hsk.mono ?_;rintro e w5 ⟨c,v,rfl,hc1,hv1,hE,hC⟩;rw[jeh,jj9]at hC;have HE5:=Hd (HE4.o.trans hE);have HS5:=Hd (HS4.o.ext hE);have QB5:=Hd (jab QB4.o hE);have HC5:=Hd hC;have HCC:=Hd (And.intro hc1 hv1);have HZ4:=Hd (And.intro HE4.o.size (World.block_lt_of_cell? w4 _ QB4.o));clear hE hsk HE4 HS4 QB4 hC hc1 hv1;go_wp2_with fail
 have hno:atL S (⟨#[63]⟩:ByteArray).data.toList=none:=by
  cases ha:atL S (⟨#[63]⟩:ByteArray).data.toList with
  | none=>rfl
  | some y =>
   obtain⟨t,_,ht⟩:=(HM.o.2 _).1 (jcN.1 (show (atL S (⟨#[63]⟩:ByteArray).data.toList).isSome=true by rw[ha];rfl))
   have h1:=congrArg List.length ht;have h2:(ky t).length=32:=jb7 t;rw[h2]at h1;cases h1
 refine (jgW w5 s bm 2000 S ⟨#[63]⟩ ⟨#[]⟩ HS5.o hno).mono ?_;rintro e w6 ⟨rfl,hE⟩;have HE6:=Hd (HE5.o.trans hE);have HS6:=Hd (HS5.o.ext hE);have QB6:=Hd (jab QB5.o hE);have HC6:=Hd (HC5.o.ext hE);clear hE hno HE5 HS5 QB5 HC5;go_wp2_with fail
 refine (jlg w6 c s bm 2000 S (jaL ⟨#[99]⟩) _ v (by rw[jb5];decide) HC6.o HS6.o).mono ?_;rintro e w7 ⟨rfl,v7,hT⟩;rw[jgn,show jpB [((⟨#[99]⟩:ByteArray),(⟨#[51]⟩:ByteArray))]=.tuple #[.string ⟨#[99]⟩,.bool true]from rfl];have HS7:=Hd (HC6.o.store HS6.o hT.kp.1);have HT7:=Hd hT;clear hT HS6;go_wp2_with fail
 refine (je3 w7 c s bm 2000 S (jaL ⟨#[99]⟩) _ v7 (by rw[jb5];decide) HT7.o.at' HS7.o).mono ?_;rintro e w8 ⟨rfl,v8,hT⟩;rw[jcY,show jiD [((⟨#[99]⟩:ByteArray),(⟨#[51]⟩:ByteArray))]=.tuple #[.agg #[.string ⟨#[99]⟩,.string ⟨#[51]⟩],.bool true]from rfl];have HS8:=Hd (HT7.o.at'.store HS7.o hT.kp.1);have HT8:=Hd (HT7.o.trans hT);clear hT HS7;go_wp2_with fail
 have hx8:Ext w8 (w8.alloc (.cells #[.string ⟨#[99]⟩,.string ⟨#[51]⟩] 95)):=(ExtR w8).alloc _;have hB8:=Blk.new w8 (.cells #[.string ⟨#[99]⟩,.string ⟨#[51]⟩] 95);have hat8:jcy S c s (jaL ⟨#[99]⟩) (jaV []) w8 v8:=HT8.o.at';refine (je3 _ c s bm 2000 S (jaL ⟨#[99]⟩) (jaV []) v8 (by rw[jb5];decide) (hat8.ext hx8) (HS8.o.ext hx8)).mono ?_;rintro e w9 ⟨rfl,v9,hT⟩;rw[jcY,show jiD ([]:List Pair)=.tuple #[.agg #[.string ⟨#[]⟩,.string ⟨#[]⟩],.bool false]from rfl];have hcl8:=HT8.o.at'.lt;have hb9:=hB8.keeps hT.kp.1 (fun e=>by
  rcases e with e | e
  ·have:=hcl8.1;omega
  ·have:=hcl8.2 _ e;omega)
 have hall:=(HT8.o.trans (jcz.ahead hx8 hT)).kp;have hz4:=HZ4.o;have hg4:g < w4.heap.size:=hz4.2;have qg9:=jaY QB6.o hall.1 (fun e=>by
  rcases e with e | e
  ·have e:g=c:=e;have:=HCC.o.1;omega
  ·have:=HCC.o.2 g e;omega)
 have hE9:Ext w w9:=HE6.o.trans' hall.1 (fun b hb e=>by
  rcases e with e | e
  ·have:=HCC.o.1;omega
  ·have:=HCC.o.2 _ e;omega)
 have qx9:=hb9.cell (i:=1) (v:=.string ⟨#[51]⟩) (by rfl);have hX:Ext w9 (w9.alloc (.cells #[.string ⟨#[]⟩,.string ⟨#[]⟩] 95)):=(ExtR w9).alloc _;have qg10:=jab qg9 hX;have qx10:=jab qx9 hX;have HE9:=Hd (hE9.trans hX);clear hx8 hB8 hT hcl8 hb9 hall hz4 hE9 hX;go_wp2_with fail
 go_ret
 exact⟨rfl,HE9.o⟩
end
section
open Go Go.RowKit
section
variable {w:World} {s bm:Nat} {room:Int} {S:List Nd5} {L:List ByteArray} {top:ByteArray} {G:List Nd5} {M:List ByteArray} {e:Ending} {w':World}
theorem AddY.nodesS(h:AddY w s bm room S L top G M e w')(hN:∀ x∈S,∃ n,jbq x.2.2.text n):∀ x∈addS S G M top,∃ n,jbq x.2.2.text n:=fun x hx=>by
 rw[jca]at hx
 obtain⟨z,hz,rfl⟩:=List.mem_map.1 hx
 rcases List.mem_append.1 hz with hz | hz
 ·exact hN z hz
 ·obtain⟨t,ht,_,e⟩:=jb0 h.given (jbt hz).1
  obtain⟨n,hn⟩:=h.nodes t ht
  refine⟨n,?_⟩
  show jbq z.2.2.text n;rw[e];exact hn
end
end
end Go.Proofs.YtcpnjmcipainpaaGreatDoor
