/- Parts of the proof, one behind the other: TFull, TPaths. Each is under no condition but those that it states. -/
import Derived.Test.YtpaacnhboilkkaaGreatDoorPt43
namespace Go.Proofs.YtpaacnhboilkkaaGreatDoor
set_option linter.unusedSimpArgs false
set_option linter.unusedVariables false
set_option maxRecDepth 100000
set_option maxHeartbeats 16000000
section
open Go Go.RowKit
attribute [local go_sem] Oper.semAt_some
theorem tfull_c(w:World)(hc:Cubes w)(he:ErrT w)(room:Int)(hr0 : -9223372036854775808≤room)(hr1:room≤9223372036854775807)(v u:Value)(l:List Pair)(cs:List Chg)(hv:RdP w v l)(hn:l.length≤9223372036854775807)(hs:SmallP l)(hu:RdC w u cs)(hnc:cs.length≤9223372036854775807)(hsc:∀ c∈cs,c.key.size≤9223372036854775807∧c.value.size≤9223372036854775807) :
  Calls Tryz.prog 6 #[.int .i64 room,v,u] w fun e w'=>e=.returned (.bool true)∧Ext w w':=by
 have HC:=Hd hc
 have HEE:=Hd he
 have HV:=Hd hv
 have HU:=Hd hu
 have HS:=Hd (And.intro hs hsc)
 have HN:=Hd (And.intro hn hnc)
 obtain⟨ad,c,hsl⟩:=hv.sl
 subst hsl
 obtain⟨ad2,c2,hsl⟩:=hu.sl
 subst hsl
 clear hc hv hs hn he hu hnc hsc
 go_enter Tryz.func6,Tryz.ntmps6
 go_wp2_with fail
 refine (works8_c w HC.out HEE.out).mono ?_
 rintro e w1 ⟨rfl,hE⟩
 have HE1:=Hd hE
 clear hE
 go_wp2_with fail
 refine (few5_c w1 _ l (HV.out.ext HE1.out) HN.out.1 HS.out.1).mono ?_
 rintro e w2 ⟨rfl,hE⟩
 have HE2:=Hd (HE1.out.trans hE)
 clear hE HE1
 cases hfa:fewB l with
 | false =>
  go_wp2_with fail
  refine (nodes_row w2 (HC.out.ext HE2.out) _ l (HV.out.ext HE2.out) HN.out.1 HS.out.1).mono ?_
  rintro e w4 ⟨xa,xn,xc,k1,X,rfl,hX,hxn,hx121,hk1,hxl⟩
  have HX4:=Hd hX
  have HE4:=Hd (HE2.out.trans hX.ext)
  have HXI:=Hd (And.intro hxn (And.intro hk1 hxl))
  have HX1:=Hd hx121
  clear hX hxn hk1 hxl HE2 hx121
  go_wp2_with fail
  refine (snew_c w4 room).mono ?_
  rintro e w5 ⟨s,bm,rfl,hE,hS,hb1,hb2,hb3⟩
  have HE5:=Hd (HE4.out.trans hE)
  have HX5:=Hd (HX4.out.mono hE)
  obtain⟨rm,hrm⟩:∃ rm,rm=max room 0:=⟨_,rfl⟩
  have HRM:=Hd hrm
  rw[←hrm]at hS
  have HT5:=Hd (show Tst w4 w5 s bm rm (textsL l) [] 0 from⟨hE,hS,Kp.none _,Nat.le_refl _,hb1,(fun x hx=>by cases hx),(fun x hx=>by cases hx)⟩)
  clear hE hS hb1 hb2 hb3 hrm HX4
  go_wp2_with fail
  refine (apart_c w5 (HC.out.ext HE5.out) _ X (SRow.rd HX5.out) (by have:=HXI.out.1;have:=HX1.out;omega)).mono ?_
  rintro e w6 ⟨b,rfl,hb,hE⟩
  have HE6:=Hd (HE5.out.trans hE)
  have HX6:=Hd (HX5.out.mono hE)
  have HT6:=Hd (HT5.out.grow hE)
  have HBI:=Hd hb
  clear hE hb HE5 HX5 HT5
  go_wp2_with fail
  go_ret
  exact⟨rfl,HE6.out⟩
 | true =>
  go_wp2_with fail
  refine (fewc_c w2 _ cs (HU.out.ext HE2.out) HN.out.2 HS.out.2).mono ?_
  rintro e w3 ⟨rfl,hE⟩
  have HE3:=Hd (HE2.out.trans hE)
  clear hE HE2
  cases hfb:fewC cs with
  | false =>
   go_wp2_with fail
   refine (nodes_row w3 (HC.out.ext HE3.out) _ l (HV.out.ext HE3.out) HN.out.1 HS.out.1).mono ?_
   rintro e w4 ⟨xa,xn,xc,k1,X,rfl,hX,hxn,hx121,hk1,hxl⟩
   have HX4:=Hd hX
   have HE4:=Hd (HE3.out.trans hX.ext)
   have HXI:=Hd (And.intro hxn (And.intro hk1 hxl))
   have HX1:=Hd hx121
   clear hX hxn hk1 hxl HE3 hx121
   go_wp2_with fail
   refine (snew_c w4 room).mono ?_
   rintro e w5 ⟨s,bm,rfl,hE,hS,hb1,hb2,hb3⟩
   have HE5:=Hd (HE4.out.trans hE)
   have HX5:=Hd (HX4.out.mono hE)
   obtain⟨rm,hrm⟩:∃ rm,rm=max room 0:=⟨_,rfl⟩
   have HRM:=Hd hrm
   rw[←hrm]at hS
   have HT5:=Hd (show Tst w4 w5 s bm rm (textsL l) [] 0 from⟨hE,hS,Kp.none _,Nat.le_refl _,hb1,(fun x hx=>by cases hx),(fun x hx=>by cases hx)⟩)
   clear hE hS hb1 hb2 hb3 hrm HX4
   go_wp2_with fail
   refine (apart_c w5 (HC.out.ext HE5.out) _ X (SRow.rd HX5.out) (by have:=HXI.out.1;have:=HX1.out;omega)).mono ?_
   rintro e w6 ⟨b,rfl,hb,hE⟩
   have HE6:=Hd (HE5.out.trans hE)
   have HX6:=Hd (HX5.out.mono hE)
   have HT6:=Hd (HT5.out.grow hE)
   have HBI:=Hd hb
   clear hE hb HE5 HX5 HT5
   go_wp2_with fail
   go_ret
   exact⟨rfl,HE6.out⟩
  | true =>
   go_wp2_with fail
   refine (nodes_row w3 (HC.out.ext HE3.out) _ l (HV.out.ext HE3.out) HN.out.1 HS.out.1).mono ?_
   rintro e w4 ⟨xa,xn,xc,k1,X,rfl,hX,hxn,hx121,hk1,hxl⟩
   have HX4:=Hd hX
   have HE4:=Hd (HE3.out.trans hX.ext)
   have HXI:=Hd (And.intro hxn (And.intro hk1 hxl))
   have HX1:=Hd hx121
   clear hX hxn hk1 hxl HE3 hx121
   go_wp2_with fail
   refine (snew_c w4 room).mono ?_
   rintro e w5 ⟨s,bm,rfl,hE,hS,hb1,hb2,hb3⟩
   have HE5:=Hd (HE4.out.trans hE)
   have HX5:=Hd (HX4.out.mono hE)
   obtain⟨rm,hrm⟩:∃ rm,rm=max room 0:=⟨_,rfl⟩
   have HRM:=Hd hrm
   rw[←hrm]at hS
   have HT5:=Hd (show Tst w4 w5 s bm rm (textsL l) [] 0 from⟨hE,hS,Kp.none _,Nat.le_refl _,hb1,(fun x hx=>by cases hx),(fun x hx=>by cases hx)⟩)
   clear hE hS hb1 hb2 hb3 hrm HX4
   go_wp2_with fail
   refine (apart_c w5 (HC.out.ext HE5.out) _ X (SRow.rd HX5.out) (by have:=HXI.out.1;have:=HX1.out;omega)).mono ?_
   rintro e w6 ⟨b,rfl,hb,hE⟩
   have HE6:=Hd (HE5.out.trans hE)
   have HX6:=Hd (HX5.out.mono hE)
   have HT6:=Hd (HT5.out.grow hE)
   have HBI:=Hd hb
   clear hE hb HE5 HX5 HT5
   by_cases hk0:k1=0
   case neg =>
    have hne:(k1 != 0)=true:=by simpa using hk0
    go_wp2_with fail
    go_ret
    exact⟨rfl,HE6.out⟩
   subst hk0
   cases b with
   | false =>
    go_wp2_with fail
    go_ret
    exact⟨rfl,HE6.out⟩
   | true =>
   have HOK:=Hd (show checkN l=0 from HXI.out.2.1.symm)
   have HXL:=Hd (HXI.out.2.2 HOK.out)
   have HI:=Hd (show InjL (textsL l) by rw[←HXL.out];exact HBI.out.1 rfl)
   have hrm0:0≤rm∧rm≤9223372036854775807:=by have:=HRM.out;omega
   have HR0:=Hd hrm0
   clear hrm0
   go_wp2_with fail
   refine (add_gen w6 (HC.out.ext HE6.out) (HEE.out.ext HE6.out) s bm rm [] HT6.out.st _ X (SRow.rd HX6.out) False (any_nodesQ (by rw[HXL.out];exact texts_nodes HOK.out)) (by have:=HXI.out.1;have:=HX1.out;omega) (trieT l).text (by rw[HXL.out];exact (texts HOK.out).head) HR0.out.1 HR0.out.2 (by simp) (fun x hx=>by cases hx) (fun x hx=>by cases hx)).mono ?_
   rintro e w7 hA
   rw[HXL.out]at hA
   rcases addgen_y w6 w6 HI.out (Kp.none _) (part_all [] HOK.out) (fun t h=>h) (by have:=textsL_len HOK.out;omega) (ExtR w6) hA with⟨rfl,hE,_⟩ |⟨S,hY⟩
   ·have HE7:=Hd (HE6.out.trans hE)
    clear hE hA
    go_wp2_with fail
    go_ret
    exact⟨rfl,HE7.out⟩
   have hre:=hY.res
   subst hre
   have hl121:=textsL_len HOK.out
   have HT7:=Hd (HT6.out.add (k:=121) hl121 (by decide) hY)
   have HFI:=Hd (show (S.length:Int)≤rm by
    have h1:=hY.fits
    have h2:=HR0.out.1
    simp at h1
    omega)
   have HHE:=Hd (hY.add.held)
   have HM7:=Hd (hY.add.has HI.out HOK.out (fun t h=>h))
   have HHB:=Hd (hY.add.bd 0 (Int.le_refl 0) (fun x hx=>by cases hx))
   have HE7:=Hd (HE4.out.trans HT7.out.ext)
   obtain⟨rt,hrt⟩:∃ rt,rt=rootM l:=⟨_,rfl⟩
   have HRT:=Hd hrt
   rw[←hrt]
   clear hA hY hl121 hrt HT6 HE6 HX6
   go_wp2_with fail
   refine (shashes_c w7 s bm rm S HT7.out.st (by have:=HT7.out.len;omega)).mono ?_
   rintro e w8 ⟨hv8,rfl,hH8⟩
   have HH8:=Hd hH8
   have HT8:=Hd (HT7.out.grow hH8.ext)
   have HE8:=Hd (HE7.out.trans hH8.ext)
   have HZ8:=Hd (And.intro HT7.out.ext.size hH8.ext.size)
   obtain⟨ha8,hc8,hsl⟩:=hH8.sl
   subst hsl
   clear hH8 HT7 HE7
   go_wp2_with fail
   have hbd:=HT8.out.bds (by decide)
   have hco:=commit_c w8 (HC.out.ext HE8.out) (HEE.out.ext HE8.out) s bm rm S HT8.out.st (HT8.out.kp.nodes (texts_nodes HOK.out)) l HM7.out _ cs (HU.out.ext HE8.out) HN.out.2 HS.out.2 HR0.out.1 HR0.out.2 hbd.1 hbd.2.1 hbd.2.2
   rw[←HRT.out]at hco
   refine hco.mono ?_
   intro e w9 hC
   clear hco
   have hcase:(∃ g:Int,g≠0∧e=.returned (.tuple #[.string ⟨#[]⟩,.int .i64 g])∧Ext w8 w9)∨∃ (r:ByteArray) (S':List Nd5),e=.returned (.tuple #[.string r,.int .i64 0])∧StoreAt w9 s bm rm S'∧Keeps (fun z=>z=bm∨z∈S.map (·.2.1)) w8 w9∧HasM S' l∧NodesS S'∧(S'.length:Int)≤rm∧S'.length≤1000∧1≤heldO (atL S' r.data.toList):=by
    rcases hC with⟨h1,h2,h3⟩ |⟨h1,w',hE',⟨k,_,hk,h2,h3⟩ |⟨top,G,M,_,hY⟩⟩
    ·exact .inl ⟨_,h1,h2,h3⟩
    ·exact .inl ⟨k,hk,h2,hE'.trans h3⟩
    ·refine .inr ⟨shaB top,addS S G M top,hY.res,hY.st,(hE'.mono (fun _ _ h=>h.elim)).trans hY.kp,addS_hasM HM7.out,hY.nodesS (HT8.out.kp.nodes (texts_nodes HOK.out)),hY.lenS HFI.out,?_,hY.heldTop (fun x hx=>HT8.out.kp.cnt.held x hx)⟩
     have h4:=hY.len2
     have h5:=new_len (S:=S) (m:=afterM l cs) (after_check h1)
     have h6:=HT8.out.len
     omega
   clear hC hbd
   rcases hcase with⟨g,hg,rfl,hE⟩ |⟨r,S',rfl,hst,hkp,hM9,hN9,hle,hl9,hhe⟩
   ·have HT9:=Hd (HT8.out.grow hE)
    have HE9:=Hd (HE8.out.trans hE)
    have HH9:=Hd (HH8.out.mono hE)
    have hgb:(g != 0)=true:=by simpa using hg
    clear hE HT8 HE8
    go_wp2_with fail
    have hal:=tall_c w9 s bm rm S HT9.out.st (HT9.out.kp.nodes (texts_nodes HOK.out)) l HM7.out
    rw[←HRT.out]at hal
    refine hal.mono ?_
    rintro e w10 ⟨av,rfl,hR⟩
    have HT10:=Hd (HT9.out.grow hR.ext)
    have HE10:=Hd (HE9.out.trans hR.ext)
    have HH10:=Hd (HH9.out.mono hR.ext)
    have HR10:=Hd (ERow.rd hR)
    obtain⟨aa,ac,hsl⟩:=hR.sl
    subst hsl
    clear hR hal HT9 HE9 HH9
    go_wp2_with fail
    have hl40:=(check_ok HOK.out).len
    refine (same_c w10 _ _ l l HR10.out (HV.out.ext HE10.out) (by omega) (by omega)).mono ?_
    rintro e w11 ⟨rfl,hE⟩
    rw[(sameL_iff _ _).2 rfl]
    have HT11:=Hd (HT10.out.grow hE)
    have HE11:=Hd (HE10.out.trans hE)
    have HH11:=Hd (HH10.out.mono hE)
    clear hE hl40 HT10 HE10 HH10 HR10
    go_wp2_with fail
    refine (shashes_c w11 s bm rm S HT11.out.st (by have:=HT11.out.len;omega)).mono ?_
    rintro e w12 ⟨hv12,rfl,hH12⟩
    have HT12:=Hd (HT11.out.grow hH12.ext)
    have HE12:=Hd (HE11.out.trans hH12.ext)
    have HA12:=Hd (HH11.out.mono hH12.ext)
    have HB12:=Hd hH12
    obtain⟨ha12,hc12,hsl⟩:=hH12.sl
    subst hsl
    clear hH12 HT11 HE11 HH11
    go_wp2_with fail
    refine (same2_c w12 _ _ _ _ (SRow.rd HB12.out) (SRow.rd HA12.out) (by have h1:=HB12.out.len;have:=HT12.out.len;simp at h1;simp;omega) (by have h1:=HB12.out.len;have:=HT12.out.len;simp at h1;simp;omega)).mono ?_
    rintro e w13 ⟨rfl,hE⟩
    rw[show decide (baL (sortS (S.map (·.1)))=baL (sortS (S.map (·.1))))=true from decide_eq_true rfl]
    have HT13:=Hd (HT12.out.grow hE)
    have HE13:=Hd (HE12.out.trans hE)
    clear hE HT12 HE12 HA12 HB12
    go_wp2_with fail
    refine (sheld_c w13 s bm rm S rt HT13.out.st).mono ?_
    rintro e w14 ⟨rfl,hE⟩
    have HE14:=Hd (HE13.out.trans hE)
    rw[show heldO (atL S rt.data.toList)=1 by rw[HHE.out,HRT.out,show (if (rootM l).data.toList=ky (trieT l).text then (1:Int)else 0)=1 from if_pos rfl];rfl]
    clear hE
    go_wp2_with fail
    go_ret
    exact⟨rfl,HE14.out⟩
   ·have HKE:=Hd (HT8.out.keep hkp)
    have HE9:=Hd (HE8.out.trans' HKE.out (fun z hz e=>by have e:w4.heap.size≤z:=e;have:=HE4.out.size;omega))
    have HS9:=Hd (And.intro hst (And.intro hM9 (And.intro hN9 (And.intro hle (And.intro hl9 hhe)))))
    clear hst hkp hM9 hN9 hle hl9 hhe HT8 HE8 HH8 HKE
    go_wp2_with fail
    have hal:=tall_c w9 s bm rm S' HS9.out.1 HS9.out.2.2.1 l HS9.out.2.1
    rw[←HRT.out]at hal
    refine hal.mono ?_
    rintro e w10 ⟨av,rfl,hR⟩
    have HX10:=Hd hR.ext
    have HE10:=Hd (HE9.out.trans hR.ext)
    have HR10:=Hd (ERow.rd hR)
    obtain⟨aa,ac,hsl⟩:=hR.sl
    subst hsl
    clear hR hal HE9
    go_wp2_with fail
    have hl40:=(check_ok HOK.out).len
    refine (same_c w10 _ _ l l HR10.out (HV.out.ext HE10.out) (by omega) (by omega)).mono ?_
    rintro e w11 ⟨rfl,hE⟩
    rw[(sameL_iff _ _).2 rfl]
    have HX11:=Hd (HX10.out.trans hE)
    have HE11:=Hd (HE10.out.trans hE)
    clear hE hl40 HE10 HR10 HX10
    go_wp2_with fail
    refine (shashes_c w11 s bm rm S' (HS9.out.1.ext HX11.out) (by have:=HS9.out.2.2.2.2.1;omega)).mono ?_
    rintro e w12 ⟨hv12,rfl,hH12⟩
    have HX12:=Hd (HX11.out.trans hH12.ext)
    have HE12:=Hd (HE11.out.trans hH12.ext)
    obtain⟨ha12,hc12,hsl⟩:=hH12.sl
    subst hsl
    obtain⟨ns,hns⟩:∃ ns,ns=S'.length:=⟨_,rfl⟩
    have hle:(ns:Int)≤max room 0:=by rw[hns, ←HRM.out];exact HS9.out.2.2.2.1
    have HNS:=Hd hle
    obtain⟨ho,hho⟩:∃ ho,ho=heldO (atL S' r.data.toList):=⟨_,rfl⟩
    have hh1:(1:Int)≤ho:=by rw[hho];exact HS9.out.2.2.2.2.2
    have HHO:=Hd hho.symm
    rw[←hns]
    clear hH12 HX11 HE11 hns hho
    go_wp2_with fail
    refine (sheld_c w12 s bm rm S' r (HS9.out.1.ext HX12.out)).mono ?_
    rintro e w14 ⟨rfl,hE⟩
    have HE14:=Hd (HE12.out.trans hE)
    rw[HHO.out]
    clear hE
    go_wp2_with fail
    go_ret
    exact⟨rfl,HE14.out⟩
theorem way_big:∀ (f:Nat) (l:List Pair) (p t:ByteArray),t∈wayL f l p→32≤t.size
 | 0,_,_,t,h=>by rw[wayL]at h;cases h
 | f+1,l,p,t,h=>by
  cases hg:goL l p with
  | none=>rw[way_none hg]at h;cases h
  | some mq =>
   obtain⟨m,q⟩:=mq
   rw[way_some hg,List.mem_append]at h
   rcases h with h | h
   ·exact (bigs_mem h).2
   ·exact way_big f m q t h
theorem way_in:∀ (f:Nat) (l:List Pair) (p t:ByteArray),RowsOk f l→validN p=true→t∈wayL f l p→t∈flatT (buildT (f+1) l)
 | 0,_,_,t,_,_,h=>by rw[wayL]at h;cases h
 | f+1,l,p,t,hr,hv,h=>by
  have hb:=way_big _ _ _ _ h
  cases hg:goL l p with
  | none=>rw[way_none hg]at h;cases h
  | some mq =>
   obtain⟨m,q⟩:=mq
   have hK:=go_some hr hv hg
   rw[way_some hg,List.mem_append]at h
   rcases h with h | h
   ·rw[(bigs_mem h).1]
    exact hK.flat _ (text_mem _) (by have:=bigs_mem h;rw[←this.1];exact this.2)
   ·exact hK.flat _ (way_in f m q t hK.rows hK.valid h) hb
theorem wayN_len(l:List Pair)(key:ByteArray):(wayN l key).length≤13∧1≤(wayN l key).length:=by
 unfold wayN
 rw[List.length_cons]
 have:=way_len 12 (rowsL l) (pathB key)
 omega
theorem wayN_in{l:List Pair}(h:checkN l=0){key t:ByteArray}(ht:t∈wayN l key):t∈flatT (trieT l):=by
 unfold wayN at ht
 rcases List.mem_cons.1 ht with rfl | ht
 ·exact text_mem _
 ·exact way_in 12 (rowsL l) (pathB key) t (rows_ok (check_ok h)) (path_valid key) ht
def TpR(W:World)(n:Nat)(iv:Value)(wr:World):Prop:=∃ i:Nat,i≤n∧iv=.int .i64 ((i:Nat):Int)∧Ext W wr
theorem tpaths_c(w:World)(hc:Cubes w)(he:ErrT w)(v:Value)(l:List Pair)(hv:RdP w v l)(hn:l.length≤9223372036854775807)(hs:SmallP l)(key:ByteArray)(hk:key.size≤9223372036854775807) :
  Calls Tryz.prog 10 #[v,.string key] w fun e w'=>e=.returned (.bool true)∧Ext w w':=by
 have HC:=Hd hc
 have HEE:=Hd he
 have HV:=Hd hv
 have HS:=Hd hs
 have HN:=Hd hn
 obtain⟨ad,c,hsl⟩:=hv.sl
 subst hsl
 clear hc hv hs hn he
 go_enter Tryz.func10,Tryz.ntmps10
 go_wp2_with fail
 refine (works8_c w HC.out HEE.out).mono ?_
 rintro e w1 ⟨rfl,hE⟩
 have HE1:=Hd hE
 clear hE
 go_wp2_with fail
 refine (hold08_k w1 (HC.out.ext HE1.out) (HEE.out.ext HE1.out) _ l (HV.out.ext HE1.out) HN.out HS.out).mono ?_
 rintro e w2 (⟨rfl,hE,hno⟩ |⟨s,bm,S,rfl,hH⟩)
 ·have HE2:=Hd (HE1.out.trans hE)
  clear hE hno
  go_wp2_with fail
  go_ret
  exact⟨rfl,HE2.out⟩
 have HE2:=Hd (HE1.out.trans hH.ext)
 have HH:=Hd hH
 have HM:=Hd hH.has
 obtain⟨rt,hrt⟩:∃ rt,rt=shaB (trieT l).text:=⟨_,rfl⟩
 have HRT:=Hd hrt
 rw[←hrt]
 clear hH hrt
 by_cases hf50:key.size≤50
 case neg =>
  have b0:(50:Int) < (key.size:Int):=by omega
  go_wp2_with fail
  go_ret
  exact⟨rfl,HE2.out⟩
 have b0:¬(50:Int) < (key.size:Int):=by omega
 have hP:=path8_c w2 s bm 2000 S HH.out.st l HM.out key (by omega)
 rw[←HRT.out]at hP
 have HP:=Hd hP
 have hwl:=wayN_len l key
 have HWT:=Hd (show (wayN l key)[0]?=some (trieT l).text from rfl)
 have HWI:=Hd (show ∀ t∈wayN l key,HasS S t from fun t ht=>HM.out.has t (wayN_in HM.out.ok ht))
 have HWB:=Hd (show ∀ (i:Nat) t,(wayN l key)[i+1]?=some t→32≤t.size from fun i t ht=>way_big 12 (rowsL l) (pathB key) t (List.mem_of_getElem? (by unfold wayN at ht;rwa [List.getElem?_cons_succ]at ht)))
 obtain⟨N,hN⟩:∃ N,N=wayN l key:=⟨_,rfl⟩
 rw[←hN]at HP HWT HWI HWB hwl
 have HWL:=Hd hwl
 clear hP hN hwl
 go_wp2_with fail
 refine HP.out.mono ?_
 rintro e w3 ⟨a,c3,rfl,hR⟩
 have HE3:=Hd (HE2.out.trans hR.ext)
 have HS3:=Hd (HH.out.st.ext hR.ext)
 obtain⟨g,rfl,hcell⟩:=own_open (SRow.past hR (ExtR w3) (fun b hb=>hb.elim)) (by have:=HWL.out;omega)
 have HCELL:=Hd hcell
 have q0:=hcell 0 _ HWT.out
 obtain⟨n,hnn⟩:∃ n,n=N.length:=⟨_,rfl⟩
 have HNN:=Hd hnn
 have hn1:1≤n∧n≤13:=by have:=HWL.out;omega
 obtain⟨tx,htx⟩:∃ tx,tx=(trieT l).text:=⟨_,rfl⟩
 rw[←htx]at q0 HRT
 rw[←hnn]
 have c1:¬(n:Int) < 1:=by omega
 have c2:¬(13:Int) < (n:Int):=by omega
 have c3:(0:Int) < (n:Int):=by omega
 have hrr:(rt == rt)=true:=by rw[ba_beq];exact decide_eq_true rfl
 clear hR hcell hnn htx HE2 HP
 go_wp2_with fail
 have hx4:Ext w3 (w3.alloc (.cells #[.string tx] 9)):=(ExtR w3).alloc _
 refine (of_t _ _ [tx] (by simp) (rds_lit w3 [tx] 9) (HC.out.ext (HE3.out.trans hx4))).mono ?_
 rintro e w4 ⟨rfl,hE⟩
 rw[catB_one, ←HRT.out]
 have HE4:=Hd (hx4.trans hE)
 clear hE hx4 q0
 go_wp2_with fail
 go_loopw [10] (fun iv wr=>TpR w3 n iv wr) (fun iv _=>n - (intOf iv).toNat)
 case atStart=>exact⟨0,by omega,rfl,HE4.out⟩
 case round =>
  obtain⟨i,hi,rfl,hE⟩:=hrel
  have HE:=Hd hE
  clear hE
  by_cases hlt:i < n
  case neg =>
   have b1:¬(i:Int) < (n:Int):=by omega
   go_wp2_with fail
   go_ret
   exact⟨rfl,HE3.out.trans HE.out⟩
  have b1:(i:Int) < (n:Int):=by omega
  obtain⟨t,ht⟩:∃ t,N[i]?=some t:=⟨_,List.getElem?_eq_getElem (by rw[←HNN.out];exact hlt)⟩
  have HT:=Hd ht
  have Q:=Hd (HCELL.out i t ht)
  have q1:=cell_ext Q.out HE.out
  obtain⟨sh,hsh⟩:∃ sh,sh=shaB t:=⟨_,rfl⟩
  have HSH:=Hd hsh
  have htt:(t == t)=true:=by rw[ba_beq];exact decide_eq_true rfl
  obtain⟨x,hx1,hx2⟩:=HWI.out t (List.mem_of_getElem? ht)
  have HAT:=Hd (show (atL S sh.data.toList).map (fun z:Nd5=>z.2.2.text)=some t by rw[hsh];show (atL S (ky t)).map _=_;rw[hx1, ←hx2];rfl)
  clear ht hsh hx1 hx2
  go_wp2_with fail
  have hx4:Ext wr (wr.alloc (.cells #[.string t] 9)):=(ExtR wr).alloc _
  refine (of_t _ _ [t] (by simp) (rds_lit wr [t] 9) (HC.out.ext ((HE3.out.trans HE.out).trans hx4))).mono ?_
  rintro e w11 ⟨rfl,hE⟩
  rw[catB_one, ←HSH.out]
  have HE11:=Hd ((HE.out.trans hx4).trans hE)
  clear hE hx4 q1
  go_wp2_with fail
  refine (sget_c w11 s bm 2000 S sh (HS3.out.ext HE11.out)).mono ?_
  rintro e w12 ⟨rfl,hE⟩
  rw[HAT.out]
  unfold optV
  have HE12:=Hd (HE11.out.trans hE)
  have q1:=cell_ext Q.out HE12.out
  clear hE HE11
  cases i with
  | zero =>
   go_wp2_with fail
   go_roundw
   case rel=>exact⟨0+1,by omega,by go_num,HE12.out⟩
   case measure=>simp[intOf];omega
  | succ i =>
   have h32:=HWB.out i t HT.out
   have c4:¬(t.size:Int) < 32:=by omega
   have c5:(0:Int) < ((i+1:Nat):Int):=by omega
   go_wp2_with fail
   go_roundw
   case rel=>exact⟨i+1+1,by omega,by go_num,HE12.out⟩
   case measure=>simp[intOf];omega
end
end Go.Proofs.YtpaacnhboilkkaaGreatDoor
