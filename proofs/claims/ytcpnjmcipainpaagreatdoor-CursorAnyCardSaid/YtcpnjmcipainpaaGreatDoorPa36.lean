/- Parts of the proof, one behind the other: CurAn. Each is under no condition but those that it states. -/
import Derived.Test.YtcpnjmcipainpaaGreatDoorPa27
import Derived.Test.YtcpnjmcipainpaaGreatDoorPa35
namespace Go.Proofs.YtcpnjmcipainpaaGreatDoor
set_option linter.unusedSimpArgs false
set_option linter.unusedVariables false
set_option maxRecDepth 100000
set_option maxHeartbeats 16000000
section
open Go Go.RowKit
attribute [local go_sem] Oper.semAt_some
theorem jiZ(W:World)(s bm:Nat)(room:Int)(S:List Nd5)(root:ByteArray)(hs:jat W s bm room S)(hn:atL S root.data.toList=none) :
  Calls Tryz.prog 41 #[.pointer (some ⟨s,0,none⟩),.string root] W fun e w'=>e=.returned (.tuple #[.int .i64 0,.int .i64 4])∧Ext W w':=by
 have HSK:=Hd (jgW W s bm room S root ⟨#[]⟩ hs hn);clear hs hn;rw[←callsIn_wide (n:=0)];refine callsIn_of_wp_marks Tryz.func41 rfl trivial ?_ rfl;simp only[Tryz.ntmps41,List.size_toArray,List.length_cons,List.length_nil,Nat.reduceAdd,Nat.reduceSub,Array.replicate_succ,Array.replicate_zero,List.push_toArray,List.append_toArray,List.nil_append,List.cons_append];gi_wp2_with fail
 refine⟨trivial,rfl,CallsIn.mono (callsIn_wide.2 HSK.o) ?_⟩
 rintro e w1 ⟨rfl,hX⟩;have HX:=Hd hX;clear hX;gi_wp2_with fail
 exact⟨_,results_tmp2 rfl _ _ _,rfl,HX.o⟩
def AnR(w3:World)(l:List ByteArray)(iv:Value)(wr:World):Prop:=∃ i:Nat,i≤l.length∧iv=.int .i64 i∧wr=w3∧∀ t∈l.take i,t.size≤700
theorem jma{w w':World}{s bm:Nat}{room:Int}{L:List ByteArray}{top:ByteArray}{G:List Nd5}{M:List ByteArray}{e:Ending}(h:AddY w s bm room [] L top G M e w'):AllN (addS [] G M top)∧∃ y,atL (addS [] G M top) (shaB top).data.toList=some y:=by
 refine⟨h.nodesS (fun x hx=>by cases hx),?_⟩
 have h1:(shaB top).data.toList∈(([]:List Nd5)++jb8 G (frK [] M)).map (·.1):=jcN.1 (jeC h.path (by rw[h.path.is];exact List.mem_cons_self));rw[←jcw (top:=top)]at h1;exact Option.isSome_iff_exists.1 (jcN.2 h1)
structure AnS(w:World)(s bm:Nat)(S:List Nd5)(W:World):Prop where
 st:jat W s bm 100 S
 all:AllN S
 ext:Ext w W
theorem AnS.more{w W W':World}{s bm:Nat}{S:List Nd5}(h:AnS w s bm S W)(e:Ext W W'):AnS w s bm S W':=⟨h.st.ext e,h.all,h.ext.trans e⟩
theorem jqh(w:World)(hc:jch w)(he:ErrT w)(v:Value)(l:List ByteArray)(root fr:ByteArray)(limit:Int)(hv:RdS w v l)(hn:l.length≤9223372036854775807)(hs:∀ t∈l,t.size≤9223372036854775807)(hr:root.size≤9223372036854775807)(hf:fr.size≤9223372036854775807) :
  Calls Tryz.prog 6 #[v,.string root,.string fr,.int .i64 limit] w fun e w'=>e=.returned (.bool true)∧Ext w w':=by
 have HC:=Hd hc;have HG:=Hd he;have HV:=Hd hv;have HN:=Hd (And.intro hn hs)
 obtain⟨va,vc,hsl,hcl⟩:=hv.slice
 subst hsl;clear hc he hv hn hs hcl;go_enter Tryz.func6,Tryz.ntmps6;go_wp2_with fail
 refine (jon w HC.o HG.o).mono ?_;rintro e w1 ⟨rfl,hE⟩;have HE1:=Hd hE;clear hE;go_wp2_with fail
 refine (jmy w1 100).mono ?_;rintro e w2 ⟨s,bm,rfl,hE,hst,hb1,hs1,hne⟩;have HE2:=Hd (HE1.o.trans hE);have HS2:=Hd hst;have HB:=Hd (show w.heap.size≤bm by have:=HE1.o.size;omega);clear hE hst hb1 hs1 hne HE1
 by_cases c1:(10:Int) < (l.length:Int)
 ·go_wp2_with fail
  go_ret
  exact⟨rfl,HE2.o⟩
 by_cases c2:(50:Int) < (root.size:Int)
 ·go_wp2_with fail
  go_ret
  exact⟨rfl,HE2.o⟩
 by_cases c3:(50:Int) < (fr.size:Int)
 ·go_wp2_with fail
  go_ret
  exact⟨rfl,HE2.o⟩
 have HL10:=Hd (show l.length≤10∧root.size≤50∧fr.size≤50 by omega);go_wp2_with fail
 clear c1 c2 c3;go_loopw [11] (fun iv wr=>AnR w2 l iv wr) (fun iv _=>l.length - (intOf iv).toNat)
 case atStart=>exact⟨0,Nat.zero_le _,rfl,rfl,fun t ht=>by cases ht⟩
 case round =>
  obtain⟨i,hi,rfl,rfl,hsm⟩:=hrel
  by_cases hlt:i < l.length
  ·have b1:(i:Int) < (l.length:Int):=by omega
   obtain⟨t,ht⟩:∃ t,l[i]?=some t:=⟨_,List.getElem?_eq_getElem hlt⟩
   rcases HV.o with⟨_,_,_,h0⟩ |⟨b,o,c1',hv',hb,hcc,hcell⟩
   ·rw[h0]at hlt;cases hlt
   cases hv';have q1:=jab (hcell i t ht) HE2.o;have HT:=Hd (And.intro ht hsm);clear hcell ht hb hcc hsm
   by_cases c1:(700:Int) < (t.size:Int)
   ·go_wp2_with fail
    go_ret
    exact⟨rfl,HE2.o⟩
   ·go_wp2_with fail
    go_roundw
    case rel=>exact⟨i+1,by omega,by go_num,rfl,fun x hx=>by
     rw[List.take_add_one,HT.o.1]at hx;rcases List.mem_append.1 hx with hx | hx
     ·exact HT.o.2 x hx
     ·rw[List.mem_singleton.1 hx];omega⟩
    case measure=>simp[intOf];omega
  ·have hil:i=l.length:=by omega
   subst hil;rw[List.take_length]at hsm;have HSM:=Hd hsm;clear hsm;go_wp2_with fail
   have hl10:=HL10.o;refine (jo2 wr (HC.o.ext HE2.o) (HG.o.ext HE2.o) s bm 100 [] HS2.o _ l (HV.o.ext HE2.o) (jm2 fun t ht=>Nat.le_trans (HSM.o t ht) (by decide)) (by omega) (by decide) (by decide) (by simp) (fun x hx=>by cases hx) (fun x hx=>by cases hx)).mono ?_;rintro e w5 (⟨k,hk,rfl,hE⟩ |⟨top,G,M,htop,hA⟩)
   ·have hk0:(k == 0)=false:=by simpa using hk
    obtain⟨S,hS⟩:∃ S:List Nd5,S=[]:=⟨_,rfl⟩
    have AS:=Hd (show AnS w s bm S w5 from⟨by rw[hS];exact HS2.o.ext hE,fun x hx=>(by rw[hS]at hx;cases hx),HE2.o.trans hE⟩);clear hE hS hk;go_wp2_with fail
    refine (jgq _ s bm 100 S root AS.o.st).mono ?_;rintro e wg ⟨rfl,hE⟩;have AS:=Hd (AS.o.more hE);clear hE;cases hy:atL S root.data.toList with
    | none =>
     have HY:=Hd hy;clear hy;rw[show optV ((none:Option Nd5).map (·.2.2.text))=.tuple #[.string ⟨#[]⟩,.bool false]from rfl];go_wp2_with fail
     refine (jgW _ s bm 100 S root fr AS.o.st HY.o).mono ?_;rintro e wh ⟨rfl,hE⟩;have AS:=Hd (AS.o.more hE);clear hE;go_wp2_with fail
     refine (jiZ _ s bm 100 S root AS.o.st HY.o).mono ?_;rintro e wi ⟨rfl,hE⟩;have AS:=Hd (AS.o.more hE);clear hE;go_wp2_with fail
     go_ret
     exact⟨rfl,AS.o.ext⟩
    | some y =>
     have HY:=Hd hy;clear hy;rw[show optV ((some y:Option Nd5).map (·.2.2.text))=.tuple #[.string y.2.2.text,.bool true]from rfl];go_wp2_with fail
     refine (jjz _ s bm 100 S AS.o.all fr root (by omega) AS.o.st y HY.o).mono ?_;rintro e wh ⟨R,_,c9,v9,rfl,_,_,hE,_⟩;have AS:=Hd (AS.o.more hE);clear hE;go_wp2_with fail
     refine (je7 _ s bm 100 S AS.o.all root AS.o.st y HY.o).mono ?_;rintro e wi ⟨⟨n9,rfl⟩,hE⟩;have AS:=Hd (AS.o.more hE);clear hE;go_wp2_with fail
     go_ret
     exact⟨rfl,AS.o.ext⟩
   ·have hres:=hA.res
    subst hres
    obtain⟨hall,y0,hy0⟩:=jma hA
    have AS:=Hd (show AnS w s bm (addS [] G M top) w5 from⟨hA.st,hall,HE2.o.trans' hA.kp (fun x hx e=>by
     have:=HB.o
     rcases e with e | e
     ·omega
     ·simp at e)⟩)
    obtain⟨S,hS⟩:∃ S,S=addS [] G M top:=⟨_,rfl⟩
    obtain⟨rt,hrt⟩:∃ rt,rt=shaB top:=⟨_,rfl⟩
    rw[←hS]at AS hy0;rw[←hrt]at hy0 ⊢;have HY0:=Hd hy0;clear hA hall hy0 hS hrt;go_wp2_with fail
    refine (jnU _ s bm 100 S AS.o.all fr rt limit (by omega) AS.o.st y0 HY0.o).mono ?_;rintro e wa ⟨⟨x1,x2,x3,rfl⟩,hE⟩;have AS:=Hd (AS.o.more hE);clear hE;go_wp2_with fail
    refine (jmg _ s bm 100 S AS.o.all fr fr rt limit (by omega) AS.o.st y0 HY0.o).mono ?_;rintro e wb ⟨⟨x4,x5,x6,rfl⟩,hE⟩;have AS:=Hd (AS.o.more hE);clear hE;go_wp2_with fail
    refine (je7 _ s bm 100 S AS.o.all rt AS.o.st y0 HY0.o).mono ?_;rintro e wc ⟨⟨n0,rfl⟩,hE⟩;have AS:=Hd (AS.o.more hE);clear hE;go_wp2_with fail
    refine (jgq _ s bm 100 S root AS.o.st).mono ?_;rintro e wg ⟨rfl,hE⟩;have AS:=Hd (AS.o.more hE);clear hE;cases hy:atL S root.data.toList with
    | none =>
     have HY:=Hd hy;clear hy;rw[show optV ((none:Option Nd5).map (·.2.2.text))=.tuple #[.string ⟨#[]⟩,.bool false]from rfl];go_wp2_with fail
     refine (jgW _ s bm 100 S root fr AS.o.st HY.o).mono ?_;rintro e wh ⟨rfl,hE⟩;have AS:=Hd (AS.o.more hE);clear hE;go_wp2_with fail
     refine (jiZ _ s bm 100 S root AS.o.st HY.o).mono ?_;rintro e wi ⟨rfl,hE⟩;have AS:=Hd (AS.o.more hE);clear hE;go_wp2_with fail
     go_ret
     exact⟨rfl,AS.o.ext⟩
    | some y =>
     have HY:=Hd hy;clear hy;rw[show optV ((some y:Option Nd5).map (·.2.2.text))=.tuple #[.string y.2.2.text,.bool true]from rfl];go_wp2_with fail
     refine (jjz _ s bm 100 S AS.o.all fr root (by omega) AS.o.st y HY.o).mono ?_;rintro e wh ⟨R,_,c9,v9,rfl,_,_,hE,_⟩;have AS:=Hd (AS.o.more hE);clear hE;go_wp2_with fail
     refine (je7 _ s bm 100 S AS.o.all root AS.o.st y HY.o).mono ?_;rintro e wi ⟨⟨n9,rfl⟩,hE⟩;have AS:=Hd (AS.o.more hE);clear hE;go_wp2_with fail
     go_ret
     exact⟨rfl,AS.o.ext⟩
end
end Go.Proofs.YtcpnjmcipainpaaGreatDoor
