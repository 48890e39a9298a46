/- Parts of the proof, one behind the other: TGone, FewC, TSteps. Each is under no condition but those that it states. -/
import Derived.Test.YtpaacnhboilkkaaGreatDoorPt43
import Derived.Test.YtpaacnhboilkkaaGreatDoorPt40
import Derived.Test.YtpaacnhboilkkaaGreatDoorPt28
namespace Go.Proofs.YtpaacnhboilkkaaGreatDoor
set_option linter.unusedSimpArgs false
set_option linter.unusedVariables false
set_option maxRecDepth 100000
set_option maxHeartbeats 16000000
section
open Go Go.RowKit
attribute [local go_sem] Oper.semAt_some
structure Tst(W0 W:World)(s bm:Nat)(room:Int)(U:List ByteArray)(S:List Nd5)(n:Nat):Prop where
 ext:Ext W0 W
 st:StoreAt W s bm room S
 kp:Kp U S
 len:S.length≤n
 bnew:W0.heap.size≤bm
 new:∀ x∈S,W0.heap.size≤x.2.1
 hb:∀ x∈S,x.2.2.held≤n
theorem Tst.grow{W0 W W':World}{s bm:Nat}{room:Int}{U:List ByteArray}{S:List Nd5}{n:Nat}(h:Tst W0 W s bm room U S n)(k:Ext W W'):Tst W0 W' s bm room U S n:=
 ⟨h.ext.trans k,h.st.ext k,h.kp,h.len,h.bnew,h.new,h.hb⟩
theorem Tst.more{W0 W:World}{s bm:Nat}{room:Int}{U V:List ByteArray}{S:List Nd5}{n:Nat}(h:Tst W0 W s bm room U S n)(hs:∀ t∈U,t∈V):Tst W0 W s bm room V S n:=
 ⟨h.ext,h.st,h.kp.mono hs,h.len,h.bnew,h.new,h.hb⟩
theorem Tst.bds{W0 W:World}{s bm:Nat}{room:Int}{U:List ByteArray}{S:List Nd5}{n:Nat}(h:Tst W0 W s bm room U S n)(hn:n≤5000):S.length≤100000∧(∀ x∈S,0≤x.2.2.used∧x.2.2.used≤1000000000)∧(∀ x∈S,0≤x.2.2.held∧x.2.2.held≤1000000000):=
 ⟨by have:=h.len;omega,h.kp.bd (by have:=h.len;omega),fun x hx=>⟨h.kp.cnt.held x hx,by have:=h.hb x hx;omega⟩⟩
theorem Tst.add{W0 W W':World}{s bm:Nat}{room:Int}{U:List ByteArray}{S S':List Nd5}{n k:Nat}{m:List Pair}{L:List ByteArray}{e:Ending}(h:Tst W0 W s bm room U S n)(hL:L.length≤k)(h1:1≤k)(hY:ComY W s bm room U S m L e W' S'):Tst W0 W' s bm room U S' (n+k):=
 ⟨h.ext.trans' hY.kp (fun z hz e=>by
  rcases e with e | e
  ·have:=h.bnew;omega
  ·obtain⟨y,hy,e⟩:=List.mem_map.1 e
   have:=h.new y hy;omega),hY.st,hY.add.kp,by have:=hY.add.len;have:=h.len;omega,h.bnew,fun x hx=>by
  rcases hY.add.blk x hx with e | e
  ·obtain⟨y,hy,e⟩:=List.mem_map.1 e
   have:=h.new y hy;omega
  ·have:=h.ext.size;omega,fun x hx=>by
   have:=hY.add.bd n (by omega) h.hb x hx
   omega⟩
theorem HoldK.tst{l:List Pair}{w w':World}{s bm:Nat}{S:List Nd5}(h:HoldK l w s bm S w'):Tst w w' s bm 2000 (textsL l) S 121:=
 ⟨h.ext,h.st,h.kp,h.len,h.bnew,h.new,fun x hx=>by have:=h.hb x hx;omega⟩
theorem Tst.keep{W0 W W':World}{s bm:Nat}{room:Int}{U:List ByteArray}{S:List Nd5}{n:Nat}(h:Tst W0 W s bm room U S n)(k:Keeps (fun z=>z=bm∨z∈S.map (·.2.1)) W W'):Keeps (fun z=>W0.heap.size≤z) W W':=
 k.mono fun z _ e=>by
  rcases e with rfl | e
  ·exact h.bnew
  ·obtain⟨y,hy,e⟩:=List.mem_map.1 e
   have:=h.new y hy
   show W0.heap.size≤z;omega
theorem commit_t{W0 W:World}(hc:Cubes W)(he:ErrT W){s bm:Nat}{room:Int}{U:List ByteArray}{S:List Nd5}{n:Nat}(h:Tst W0 W s bm room U S n)(hn:n≤5000)(hU:InjL U)(hN:NodeL U){l:List Pair}(hM:HasM S l)(u:Value)(cs:List Chg)(hu:RdC W u cs)(hnc:cs.length≤9223372036854775807)(hsc:∀ c∈cs,c.key.size≤9223372036854775807∧c.value.size≤9223372036854775807)(hr0:0≤room)(hr1:room≤9223372036854775807)(h0:applyE l cs=0)(hs:∀ t∈textsL (afterM l cs),t∈U){k:Nat}(hk:(newM S (afterM l cs)).length≤k)(hroom:(n:Int)+k≤room)(hk1:1≤k) :
  Calls Tryz.prog 35 #[.pointer (some ⟨s,0,none⟩),.string (rootM l),u] W fun e W'=>e=.returned (.tuple #[.string (rootM (afterM l cs)),.int .i64 0])∧∃ S',Tst W0 W' s bm room U S' (n+k)∧HasM S' (afterM l cs)∧AddK W U S (afterM l cs) (newM S (afterM l cs)) S'∧Keeps (fun z=>W0.heap.size≤z) W W':=by
 have hb:=h.bds hn
 refine (commit_c W hc he s bm room S h.st (h.kp.nodes hN) l hM u cs hu hnc hsc hr0 hr1 hb.1 hb.2.1 hb.2.2).mono ?_
 intro e W' hC
 obtain⟨S',hY⟩:=com_room W hU h.kp h0 hs hC (by have:=h.len;omega)
 exact⟨hY.res,S',h.add hk hk1 hY,hY.add.has hU (after_check h0) hs,hY.add,h.keep hY.kp⟩
theorem tgone_c(w:World)(hc:Cubes w)(he:ErrT w)(v:Value)(l:List Pair)(hv:RdP w v l)(hn:l.length≤9223372036854775807)(hs:SmallP l)(key:ByteArray)(hk:key.size≤9223372036854775807) :
  Calls Tryz.prog 8 #[v,.string key] w fun e w'=>e=.returned (.bool true)∧Ext w w':=by
 have HC:=Hd hc
 have HEE:=Hd he
 have HV:=Hd hv
 have HS:=Hd hs
 have HN:=Hd hn
 obtain⟨ad,c,hsl⟩:=hv.sl
 subst hsl
 clear hc hv hs hn he
 go_enter Tryz.func8,Tryz.ntmps8
 go_wp2_with fail
 refine (works8_c w HC.out HEE.out).mono ?_
 rintro e w1 ⟨rfl,hE⟩
 have HE1:=Hd hE
 clear hE
 go_wp2_with fail
 refine (hold08_k w1 (HC.out.ext HE1.out) (HEE.out.ext HE1.out) _ l (HV.out.ext HE1.out) HN.out HS.out).mono ?_
 rintro e w2 (⟨rfl,hE,hno⟩ |⟨s,bm,S,rfl,hH⟩)
 ·have HE2:=Hd (HE1.out.trans hE)
  clear hE hno
  go_wp2_with fail
  go_ret
  exact⟨rfl,HE2.out⟩
 have HE2:=Hd (HE1.out.trans hH.ext)
 have HH:=Hd hH
 have HM:=Hd hH.has
 have HE2w:=Hd HE1.out
 obtain⟨rt,hrt⟩:∃ rt,rt=rootM l:=⟨_,rfl⟩
 have HRT:=Hd hrt
 rw[show shaB (trieT l).text=rootM l from rfl, ←hrt]
 clear hH hrt
 by_cases h1:1≤key.size
 case neg =>
  have b0:(key.size:Int) < 1:=by omega
  go_wp2_with fail
  go_ret
  exact⟨rfl,HE2.out⟩
 have b0:¬(key.size:Int) < 1:=by omega
 by_cases h6:key.size≤6
 case neg =>
  have b1:(6:Int) < (key.size:Int):=by omega
  go_wp2_with fail
  go_ret
  exact⟨rfl,HE2.out⟩
 have b1:¬(6:Int) < (key.size:Int):=by omega
 have hl40:l.length≤40:=(check_ok HM.out.ok).len
 go_wp2_with fail
 refine (find_c w2 _ l key (HV.out.ext HE2.out) (by omega)).mono ?_
 rintro e w3 ⟨rfl,hE⟩
 have HT3:=Hd (HH.out.tst.grow hE)
 have HE3:=Hd (HE2.out.trans hE)
 rw[findB_look]
 obtain⟨fo,hfo⟩:∃ fo,fo=look l key.data.toList:=⟨_,rfl⟩
 have HFO:=Hd hfo.symm
 rw[←hfo,show optV fo=.tuple #[.string (fo.getD ⟨#[]⟩),.bool fo.isSome]from by cases fo <;> rfl]
 obtain⟨fv,hfv⟩:∃ fv,fv=fo.getD ⟨#[]⟩:=⟨_,rfl⟩
 have HFV:=Hd hfv
 obtain⟨fb,hfb⟩:∃ fb,fb=fo.isSome:=⟨_,rfl⟩
 have HFB:=Hd hfb
 rw[←hfv, ←hfb]
 have HGA:=Hd (gone_after HM.out.ok h1 h6)
 have HGM:=Hd (gone_makes HM.out.ok h1 h6)
 have HGK:=Hd (gone_check HM.out.ok key)
 clear hE hfo hfv hfb HE2
 go_wp2_with fail
 have hx4:=(ExtR w3).alloc (.cells (cellsC [goneC key]).toArray 66)
 have HCS:=Hd (show ∀ c∈[goneC key],c.key.size≤9223372036854775807∧c.value.size≤9223372036854775807 from fun c hc=>by
  rw[List.mem_singleton.1 hc]
  exact⟨by show key.size≤_;omega,by show (0:Nat)≤_;omega⟩)
 refine (apply_c _ _ _ l [goneC key] (HV.out.ext (HE3.out.trans hx4)) (rdc_litT w3 [goneC key] 66) HN.out (by simp) HS.out HCS.out).mono ?_
 intro e w5 hA
 unfold ApplyP at hA
 rw[if_pos HGA.out.1,show sortM (applyM l [goneC key])=goneL l key from HGA.out.2]at hA
 obtain⟨r5,rfl,hR⟩:=hA
 have HM5:=Hd (ERow.rd hR)
 have hx5:=hx4.trans hR.ext
 have HT5:=Hd (HT3.out.grow hx5)
 have HE5:=Hd (HE3.out.trans hx5)
 obtain⟨a5,c5,rfl⟩:=hR.sl
 obtain⟨m,hm⟩:∃ m,m=goneL l key:=⟨_,rfl⟩
 have HMD:=Hd hm
 rw[←hm]at HM5 HGA HGM HGK ⊢
 clear hR hx4 hx5 hm HT3 HE3 hl40
 go_wp2_with fail
 refine (nodes_row w5 (HC.out.ext HE5.out) _ l (HV.out.ext HE5.out) HN.out HS.out).mono ?_
 rintro e w6 ⟨xa,xn,xc,k1,X,rfl,hX,hxn,hx121,hk1,hxl⟩
 have HX6:=Hd hX
 have HT6:=Hd (HT5.out.grow hX.ext)
 have HE6:=Hd (HE5.out.trans hX.ext)
 have HM6:=Hd (HM5.out.ext hX.ext)
 have HXL:=Hd (And.intro hxn (hxl HM.out.ok))
 clear hX hxn hxl hk1 HT5 HE5 HM5
 go_wp2_with fail
 have hm40:=(check_ok HGK.out)
 refine (nodes_row w6 (HC.out.ext HE6.out) _ m HM6.out (by have:=hm40.len;omega) (fun p hp=>by have:=hm40.size p hp;omega)).mono ?_
 rintro e w7 ⟨ya,yn,yc,k2,Y,rfl,hY,hyn,hy121,hk2,hyl⟩
 have HY7:=Hd hY
 have HX7:=Hd (HX6.out.mono hY.ext)
 have HT7:=Hd (HT6.out.grow hY.ext)
 have HE7:=Hd (HE6.out.trans hY.ext)
 have HYL:=Hd (And.intro hyn (hyl HGK.out))
 clear hY hyn hyl hk2 HT6 HE6 HM6 HX6 hm40
 obtain⟨N,hN⟩:∃ N,xn+yn=N:=⟨_,rfl⟩
 have hN63:N≤1000000:=by omega
 have hx63:xn≤1000000:=by omega
 have HNE:=Hd hN
 have HW0:=Hd (show ORow 9 1 w7 (w7.alloc (.cells #[] 9)) (.slice (some ⟨w7.heap.size,0,none⟩) 0 0) 0 []from ORow.lit #[] (ExtR w7) (by decide) rfl)
 have HX0:=Hd (HX7.out.mono ((ExtR w7).alloc (.cells #[] 9)))
 clear hN
 go_wp2_with (first |(at_builtin;(refine wpList_appS HW0.out HX0.out (Nat.zero_add xn) rfl rfl hx63 ?_;intro v8 w8 r1;have HR1:=Hd r1;have HY8:=Hd (HY7.out.mono r1.ext);clear r1)) |(at_builtin;(refine wpList_appS HR1.out HY8.out HNE.out rfl rfl hN63 ?_;intro v9 w9 r2;have HR2:=Hd r2;obtain⟨aa,ac,hv9⟩:=r2.sl;subst hv9;clear r2)))
 have HA9:=Hd (show SRow w7 w9 (.slice aa N ac) N (X++Y)from by have h:=HR2.out;rw[List.nil_append, ←List.map_append]at h;exact h)
 have HT9:=Hd (HT7.out.grow HA9.out.ext)
 have HE9:=Hd (HE7.out.trans HA9.out.ext)
 have HXYL:=Hd (show (X++Y).length=N from by have:=HA9.out.len;simpa using this)
 clear HR1 HR2 HY8 HW0 HX0 HT7 HE7 HX7 HY7
 refine (apart_c w9 (HC.out.ext HE9.out) _ (X++Y) (SRow.rd HA9.out) (by rw[HXYL.out];exact hN63)).mono ?_
 rintro e w10 ⟨b,rfl,hb,hE⟩
 have HT10:=Hd (HT9.out.grow hE)
 have HE10:=Hd (HE9.out.trans hE)
 have HBI:=Hd hb
 clear hE hb HT9 HE9 HA9
 cases b with
 | false =>
  go_wp2_with fail
  go_ret
  exact⟨rfl,HE10.out⟩
 | true =>
 have HI:=Hd (HBI.out.1 rfl)
 rw[HXL.out.2,HYL.out.2]at HI
 have HTM:=Hd (HT10.out.more (V:=textsL l++textsL m) (fun t h=>List.mem_append_left _ h))
 have HND:=Hd (show NodeL (textsL l++textsL m)from fun t ht=>(List.mem_append.1 ht).elim (texts_nodes HM.out.ok t) (texts_nodes HGK.out t))
 clear HBI HXYL HXL HYL
 go_wp2_with fail
 have hx4:=(ExtR w10).alloc (.cells (cellsC [goneC key]).toArray 66)
 have HT11:=Hd (HTM.out.grow hx4)
 have HE11:=Hd (HE10.out.trans hx4)
 rw[HRT.out]
 have hTL:∀ t∈textsL (afterM l [goneC key]),t∈textsL l++textsL m:=by
  rw[HGA.out.2];exact fun t h=>List.mem_append_right _ h
 have hAK:checkN (afterM l [goneC key])=0:=by rw[HGA.out.2];exact HGK.out
 refine (commit_t (HC.out.ext HE11.out) (HEE.out.ext HE11.out) HT11.out (by decide) HI.out HND.out HM.out _ [goneC key] (rdc_litT w10 [goneC key] 66) (by simp) HCS.out (by decide) (by decide) HGA.out.1 hTL (k:=119) (new_len hAK) (by decide) (by decide)).mono ?_
 rintro e w12 ⟨rfl,S12,hT,hM,hA,hK⟩
 rw[HGA.out.2]at hM hA
 have HT12:=Hd hT
 have HM12:=Hd (And.intro hM (hA.more HI.out (fun t h=>List.mem_append_left _ h) HM.out))
 have HH12:=Hd (hA.held)
 have HE12:=Hd (HE2w.out.trans hT.ext)
 rw[←HRT.out,HGA.out.2]
 clear hT hM hA hK hTL hAK hx4 HT11 HE11 HTM HT10 HE10
 cases hfb:fo with
 | none =>
  have hfbv:fb=false:=by rw[HFB.out,hfb];rfl
  have hlk:look l key.data.toList=none:=by rw[HFO.out,hfb]
  have hml:m=l:=by rw[HMD.out];exact gone_same HM.out.ok hlk
  have hrr:(rootM m).toList=rt.toList:=by rw[HRT.out,hml]
  have HH2:=Hd (show heldO (atL S12 rt.data.toList)=2 by
   have h1:=HH12.out rt.data.toList
   have h2:=HH.out.held rt.data.toList
   rw[h1,h2,hml,HRT.out,show (if (rootM l).data.toList=ky (trieT l).text then (1:Int)else 0)=1 from if_pos rfl];rfl)
  subst hfbv
  clear hml hlk
  go_wp2_with fail
  refine (sheld_c w12 s bm 2000 S12 rt HT12.out.st).mono ?_
  rintro e w13 ⟨rfl,hE⟩
  rw[HH2.out]
  have HE13:=Hd (HE12.out.trans hE)
  clear hE HE12 hrr
  go_wp2_with fail
  go_ret
  exact⟨rfl,HE13.out⟩
 | some u =>
  have hfbv:fb=true:=by rw[HFB.out,hfb];rfl
  have hlk:look l key.data.toList=some fv:=by rw[HFO.out,hfb,HFV.out,hfb];rfl
  have HBA:=Hd (back_after HM.out.ok hlk)
  have HBM:=Hd (back_makes HM.out.ok hlk)
  have hne:rootM m≠rt:=fun e=>by
   rw[HRT.out]at e
   have h1:=root_one w HM12.out.1 HM12.out.2 e
   have h2:=look_gone key key.data.toList l
   rw[←HMD.out,h1,hlk,if_pos rfl]at h2
   cases h2
  have hrr:¬(rootM m).toList=rt.toList:=fun e=>hne (ba_data (by rw[ByteArray.toList_eq,ByteArray.toList_eq]at e;exact e))
  have hrb:((rootM m).toList == rt.toList)=false:=beq_eq_false_iff_ne.2 hrr
  have hgn:look m key.data.toList=none:=by rw[HMD.out,look_gone,if_pos rfl]
  have HGN:=Hd hgn
  have HKS:=Hd (show key.size≤1000 by omega)
  have HCB:=Hd (show ∀ c∈[(⟨key,fv,false⟩:Chg)],c.key.size≤9223372036854775807∧c.value.size≤9223372036854775807 from fun c hc=>by
   rw[List.mem_singleton.1 hc]
   obtain⟨p,hp,_,e2⟩:=look_mem hlk
   have h8:=(check_ok HM.out.ok).size p hp
   rw[e2]at h8
   exact⟨by show key.size≤_;omega,by show fv.size≤_;omega⟩)
  rw[←HMD.out]at HBA HBM
  subst hfbv
  clear hfb hlk hne hgn
  go_wp2_with fail
  have hx4:=(ExtR w12).alloc (.cells (cellsC [(⟨key,fv,false⟩:Chg)]).toArray 66)
  have HT13:=Hd (HT12.out.grow hx4)
  have hTL:∀ t∈textsL (afterM m [⟨key,fv,false⟩]),t∈textsL l++textsL m:=by
   rw[HBA.out.2];exact fun t h=>List.mem_append_left _ h
  have hAK:checkN (afterM m [⟨key,fv,false⟩])=0:=by rw[HBA.out.2];exact HM.out.ok
  refine (commit_t (HC.out.ext (HE12.out.trans hx4)) (HEE.out.ext (HE12.out.trans hx4)) HT13.out (by decide) HI.out HND.out HM12.out.1 _ [⟨key,fv,false⟩] (rdc_litT w12 [⟨key,fv,false⟩] 66) (by simp) HCB.out (by decide) (by decide) HBA.out.1 hTL (k:=119) (new_len hAK) (by decide) (by decide)).mono ?_
  rintro e w14 ⟨rfl,S14,hT,hM,hA,hK⟩
  rw[HBA.out.2]
  have HT14:=Hd hT
  have HM14:=Hd (hA.more HI.out (fun t h=>List.mem_append_right _ h) HM12.out.1)
  have HE14:=Hd (HE2w.out.trans hT.ext)
  rw[←HRT.out]
  clear hT hM hA hK hTL hAK hx4 HT13 HE12 HT12
  go_wp2_with fail
  have hg:=get8_c w14 s bm 2000 S14 HT14.out.st (HT14.out.kp.nodes HND.out) m HM14.out key HKS.out
  rw[val_key,HGN.out,show shaB (trieT m).text=rootM m from rfl]at hg
  refine hg.mono ?_
  rintro e w15 ⟨rfl,hE⟩
  have HE15:=Hd (HE14.out.trans hE)
  have hr2:(rt == rt)=true:=by rw[ba_beq];exact decide_eq_true rfl
  clear hE HE14 hg
  unfold folV
  go_wp2_with fail
  go_ret
  exact⟨rfl,HE15.out⟩
end
section
open Go Go.RowKit
def shortC(c:Chg):Bool:=decide (c.key.size≤20) && decide (c.value.size≤100)
def fewC(l:List Chg):Bool:=l.all shortC && decide (l.length≤45)
def FwRelC(w:World)(l:List Chg)(i:Value)(wr:World):Prop:=∃ k:Nat,k≤l.length∧k≤46∧i=.int .i64 k∧Ext w wr∧(l.take k).all shortC=true
theorem all_stepC{l:List Chg}{k:Nat}{p:Chg}(h:l[k]?=some p):(l.take (k+1)).all shortC=((l.take k).all shortC && shortC p):=by
 rw[List.take_add_one,h,List.all_append];simp
theorem all_notC{l:List Chg}{k:Nat}{p:Chg}(h:l[k]?=some p)(hb:shortC p=false):fewC l=false:=by
 unfold fewC
 have:l.all shortC=false:=by
  rw[Bool.eq_false_iff];intro h2
  have:=List.all_eq_true.1 h2 p (List.mem_of_getElem? h)
  rw[hb]at this;cases this
 rw[this];rfl
theorem fewc_c(w:World)(v:Value)(l:List Chg)(hv:RdC w v l)(hn:l.length≤9223372036854775807)(hs:∀ p∈l,p.key.size≤9223372036854775807∧p.value.size≤9223372036854775807) :
  Calls Tryz.prog 24 #[v] w fun e w'=>e=.returned (.bool (fewC l))∧Ext w w':=by
 have HV:=Hd hv
 have HS:=Hd hs
 obtain⟨a,c,hsl⟩:=hv.sl
 subst hsl
 clear hv hs
 obtain⟨R,hR⟩:∃ R,R=fewC l:=⟨_,rfl⟩
 rw[←hR]
 have HR:=Hd hR
 clear hR
 go_enter Tryz.func24,Tryz.ntmps24
 go_wp2_with fail
 go_loopw [3] (fun i wr=>FwRelC w l i wr) (fun i _=>l.length - (intOf i).toNat)
 case atStart=>exact⟨0,by omega,by omega,rfl,ExtR w,rfl⟩
 case round =>
  obtain⟨k,hk,hk6,rfl,hE,hall⟩:=hrel
  have HE:=Hd hE
  have HALL:=Hd hall
  clear hE hall
  by_cases hlt:k < l.length
  ·have b1:(k:Int) < (l.length:Int):=by omega
   by_cases h45:k≤45
   ·have b2:(k:Int)≤45:=by omega
    obtain⟨p,hp⟩:∃ p,l[k]?=some p:=⟨_,List.getElem?_eq_getElem hlt⟩
    rcases HV.out with⟨_,_,_,h0⟩ |⟨b,o,c1,hh,hb,hc,hcell⟩
    ·rw[h0]at hlt;cases hlt
    cases hh
    obtain⟨q1,q2,q3⟩:=hcell k p hp
    have q1:=cell_ext q1 HE.out
    have q2:=cell_ext q2 HE.out
    have q3:=cell_ext q3 HE.out
    have hsp:=HS.out p (List.mem_of_getElem? hp)
    have HP:=Hd hp
    obtain⟨x,y,gn⟩:=p
    simp only at q1 q2 q3 hsp
    clear hcell hb hc hp
    by_cases hx:20 < x.size
    ·have b3:(20:Int) < (x.size:Int):=by omega
     have HF:=Hd (show R=false by rw[HR.out];exact all_notC HP.out (by unfold shortC;simp;omega))
     clear hx
     go_wp2_with fail
     go_ret
     exact⟨by rw[HF.out];rfl,HE.out⟩
    ·have b3:¬(20:Int) < (x.size:Int):=by omega
     by_cases hy:100 < y.size
     ·have b4:(100:Int) < (y.size:Int):=by omega
      have HF:=Hd (show R=false by rw[HR.out];exact all_notC HP.out (by unfold shortC;simp;omega))
      clear hx hy
      go_wp2_with fail
      go_ret
      exact⟨by rw[HF.out];rfl,HE.out⟩
     ·have b4:¬(100:Int) < (y.size:Int):=by omega
      have HG:=Hd (show (l.take (k+1)).all shortC=true by rw[all_stepC HP.out,HALL.out];unfold shortC;simp;omega)
      clear hx hy
      go_wp2_with fail
      go_roundw
      case rel=>exact⟨k+1,by omega,by omega,by go_num,HE.out,HG.out⟩
      case measure=>simp[intOf];omega
   ·have b2:¬(k:Int)≤45:=by omega
    have b3:¬(l.length:Int)≤45:=by omega
    have HF:=Hd (show R=false by rw[HR.out];unfold fewC;simp;omega)
    clear h45
    go_wp2_with fail
    go_ret
    exact⟨by rw[HF.out];rfl,HE.out⟩
  ·have hkl:k=l.length:=by omega
   have b1:¬(k:Int) < (l.length:Int):=by omega
   have hall:=HALL.out
   rw[hkl,List.take_length]at hall
   by_cases h45:l.length≤45
   ·have b2:(l.length:Int)≤45:=by omega
    have HF:=Hd (show R=true by rw[HR.out];unfold fewC;rw[hall];simp;omega)
    clear hkl hall h45
    go_wp2_with fail
    go_ret
    exact⟨by rw[HF.out];rfl,HE.out⟩
   ·have b2:¬(l.length:Int)≤45:=by omega
    have HF:=Hd (show R=false by rw[HR.out];unfold fewC;simp;omega)
    clear hkl hall h45
    go_wp2_with fail
    go_ret
    exact⟨by rw[HF.out];rfl,HE.out⟩
end
section
open Go Go.RowKit
attribute [local go_sem] Oper.semAt_some
theorem fewC_len8{l:List Chg}(h:fewC l=true):l.length≤45:=by
 unfold fewC at h
 simp at h
 omega
theorem rdc_sub{w:World}{v:Value}{cs:List Chg}(h:RdC w v cs){k:Nat}{c:Chg}(hk:cs[k]?=some c):∃ b o n cap,v=.slice (some ⟨b,o,none⟩) n cap∧n=cs.length∧n≤cap∧RdC w (.slice (some ⟨b,o+k * 3,none⟩) 1 (cap - k)) [c]:=by
 have hlt:=(List.getElem?_eq_some_iff.1 hk).1
 rcases h with⟨_,_,_,rfl⟩ |⟨b,o,cap,rfl,hb,hc,hcell⟩
 ·cases hk
 ·refine⟨b,o,_,cap,rfl,rfl,hc,.inr ⟨b,o+k * 3,cap - k,rfl,hb,by show 1≤cap - k;omega,fun j x hx=>?_⟩⟩
  cases j with
  | zero =>
   have e:c=x:=Option.some.inj hx
   subst e
   rw[Nat.zero_mul,Nat.add_zero]
   exact hcell k c hk
  | succ j=>simp at hx
def SpR1(w3 w4:World)(l:List Pair)(cs:List Chg)(nv mv iv:Value)(wr:World):Prop:=∃ i:Nat,i≤cs.length∧iv=.int .i64 ((i:Nat):Int)∧StepsOk l cs i∧RdP wr mv (stepsM l cs i)∧Ext w4 wr∧∃ n,SRow w3 wr nv n (stepsU l cs i)
def SpR2(w1:World)(s bm:Nat)(U:List ByteArray)(l:List Pair)(cs:List Chg)(rv iv:Value)(wr:World):Prop:=∃ (i:Nat) (S:List Nd5),i≤cs.length∧iv=.int .i64 ((i:Nat):Int)∧rv=.string (rootM (stepsM l cs i))∧Tst w1 wr s bm 2000 U S (240+16 * i)∧HasM S (stepsM l cs i)
theorem tsteps_c(w:World)(hc:Cubes w)(he:ErrT w)(v u:Value)(l:List Pair)(cs:List Chg)(hv:RdP w v l)(hn:l.length≤9223372036854775807)(hs:SmallP l)(hu:RdC w u cs)(hnc:cs.length≤9223372036854775807)(hsc:∀ c∈cs,c.key.size≤9223372036854775807∧c.value.size≤9223372036854775807) :
  Calls Tryz.prog 9 #[v,u] w fun e w'=>e=.returned (.bool true)∧Ext w w':=by
 have HC:=Hd hc
 have HEE:=Hd he
 have HV:=Hd hv
 have HU:=Hd hu
 have HS:=Hd (And.intro hs hsc)
 have HN:=Hd (And.intro hn hnc)
 obtain⟨ad,c,hsl⟩:=hv.sl
 subst hsl
 obtain⟨ad2,c2,hsl⟩:=hu.sl
 subst hsl
 clear hc hv hs hn he hu hnc hsc
 go_enter Tryz.func9,Tryz.ntmps9
 go_wp2_with fail
 refine (works8_c w HC.out HEE.out).mono ?_
 rintro e w1 ⟨rfl,hE⟩
 have HE1:=Hd hE
 clear hE
 go_wp2_with fail
 refine (hold08_k w1 (HC.out.ext HE1.out) (HEE.out.ext HE1.out) _ l (HV.out.ext HE1.out) HN.out.1 HS.out.1).mono ?_
 rintro e w2 (⟨rfl,hE,hno⟩ |⟨s,bm,S,rfl,hH⟩)
 ·have HE2:=Hd (HE1.out.trans hE)
  clear hE hno
  go_wp2_with fail
  refine (fewc_c w2 _ cs (HU.out.ext HE2.out) HN.out.2 HS.out.2).mono ?_
  rintro e w3 ⟨rfl,hE⟩
  have HE3:=Hd (HE2.out.trans hE)
  clear hE HE2
  go_wp2_with fail
  go_ret
  exact⟨rfl,HE3.out⟩
 have HE2:=Hd (HE1.out.trans hH.ext)
 have HH:=Hd hH
 have HM:=Hd hH.has
 have HW1:=Hd HE1.out
 obtain⟨rt,hrt⟩:∃ rt,rt=rootM l:=⟨_,rfl⟩
 have HRT:=Hd hrt
 rw[show shaB (trieT l).text=rootM l from rfl, ←hrt]
 clear hH hrt HE1
 go_wp2_with fail
 refine (fewc_c w2 _ cs (HU.out.ext HE2.out) HN.out.2 HS.out.2).mono ?_
 rintro e w3 ⟨rfl,hE⟩
 have HT3:=Hd (HH.out.tst.grow hE)
 have HE3:=Hd (HE2.out.trans hE)
 clear hE HE2
 cases hfc:fewC cs with
 | false =>
  go_wp2_with fail
  go_ret
  exact⟨rfl,HE3.out⟩
 | true =>
 have HFC:=Hd (fewC_len8 hfc)
 clear hfc
 go_wp2_with fail
 refine (nodes_row w3 (HC.out.ext HE3.out) _ l (HV.out.ext HE3.out) HN.out.1 HS.out.1).mono ?_
 rintro e w4 ⟨xa,xn,xc,k1,X,rfl,hX,hxn,hx121,hk1,hxl⟩
 have HT4:=Hd (HT3.out.grow hX.ext)
 have HE4:=Hd (HE3.out.trans hX.ext)
 have hxl:=hxl HM.out.ok
 subst hxl
 have HX4:=Hd hX
 have HXN:=Hd hxn
 clear hX hxn hx121 hk1 HT3 HE3
 go_wp2_with fail
 go_loopw [9,11,12] (fun nv mv iv wr=>SpR1 w3 w4 l cs nv mv iv wr) (fun _ _ iv _=>cs.length - (intOf iv).toNat)
 case atStart=>exact⟨0,Nat.zero_le _,rfl,fun j c hj _=>by omega,HV.out.ext HE4.out,ExtR w4,xn,by have h:=HX4.out;unfold stepsU;simpa using h⟩
 case round =>
  obtain⟨i,hi,rfl,hok,hmr,hE,n,hrow⟩:=hrel
  obtain⟨hck,hbad,hlk⟩:=steps_look HM.out.ok i hi hok
  have hul:=stepsU_len HM.out.ok i hi hok
  have hnl:n=(stepsU l cs i).length:=by have:=hrow.len;simpa using this.symm
  have HOK:=Hd hok
  have HCK:=Hd hck
  have HMR:=Hd hmr
  have HE:=Hd hE
  have HRW:=Hd hrow
  obtain⟨na,nc,hsl⟩:=hrow.sl
  subst hsl
  obtain⟨ma,mc,hsl⟩:=hmr.sl
  subst hsl
  have hn6:n≤6000:=by have:=HFC.out;rw[hnl];omega
  have HNL:=Hd (And.intro hnl hn6)
  obtain⟨m,hm⟩:∃ m,m=stepsM l cs i:=⟨_,rfl⟩
  have HMD:=Hd hm
  rw[←hm]at HMR HCK ⊢
  clear hok hck hbad hlk hul hmr hE hrow hm hnl
  by_cases hlt:i < cs.length
  ·have b1:(i:Int) < (cs.length:Int):=by omega
   obtain⟨ci,hci⟩:∃ c,cs[i]?=some c:=⟨_,List.getElem?_eq_getElem hlt⟩
   obtain⟨ub,uo,un,ucap,hush,hun,hucap,husub⟩:=rdc_sub HU.out hci
   have HUS:=Hd husub
   have HCI:=Hd hci
   cases hush
   have hi45:i < 45:=by have:=HFC.out;omega
   have hw64:wrap64 ((i:Int)+1)=((i+1:Nat):Int):=by unfold wrap64;omega
   have b2:((i+1:Nat):Int)≤(c2:Int):=by omega
   have b3:i≤i+1:=by omega
   have b4:¬ c2=i:=by omega
   clear hci husub hun
   go_wp2_with fail
   have hmo:=check_ok HCK.out
   refine (apply_c wr _ _ m [ci] HMR.out (HUS.out.ext (HE4.out.trans HE.out)) (by have:=hmo.len;omega) (by simp) (fun p hp=>by have:=hmo.size p hp;omega) (fun d hd=>by rw[List.mem_singleton.1 hd];exact HS.out.2 ci (List.mem_of_getElem? HCI.out))).mono ?_
   rintro e w5 hA
   unfold ApplyP at hA
   by_cases h0:applyE m [ci]=0
   case neg =>
    rw[if_neg h0]at hA
    obtain⟨rfl,hE5⟩:=hA
    have HX:=Hd (HE4.out.trans (HE.out.trans hE5))
    obtain⟨x0,hx0⟩:∃ x0,x0=applyE m [ci]:=⟨_,rfl⟩
    rw[←hx0]at h0 ⊢
    have hne:(x0 != 0)=true:=by simpa using h0
    clear hE5 hx0 h0 hmo
    go_wp2_with fail
    go_ret
    exact⟨rfl,HX.out⟩
   rw[if_pos h0]at hA
   obtain⟨r5,rfl,hR⟩:=hA
   have H0:=Hd h0
   have hck2:checkN (afterM m [ci])=0:=after_check h0
   obtain⟨m2,hm2⟩:∃ m2,m2=afterM m [ci]:=⟨_,rfl⟩
   have hR:ERow wr w5 r5 (sortM (applyM m [ci])).length m2:=by rw[hm2];exact hR
   have hln:(sortM (applyM m [ci])).length=m2.length:=by rw[hm2];rfl
   rw[hln]at hR
   rw[←hm2]at hck2
   have HM2:=Hd hm2
   have HR5:=Hd (ERow.rd hR)
   have HE5:=Hd (HE.out.trans hR.ext)
   have HRW5:=Hd (HRW.out.mono hR.ext)
   have HCK2:=Hd hck2
   obtain⟨ra,rc,hsl⟩:=hR.sl
   subst hsl
   clear hR hck2 hm2 h0 hln hmo
   go_wp2_with fail
   have hmo:=check_ok HCK2.out
   refine (nodes_row w5 (HC.out.ext (HE4.out.trans HE5.out)) _ m2 HR5.out (by have:=hmo.len;omega) (fun p hp=>by have:=hmo.size p hp;omega)).mono ?_
   rintro e w6 ⟨ya,yn,yc,k2,Y,rfl,hY,hyn,hy121,hk2,hyl⟩
   have HYL:=Hd (hyl HCK2.out)
   have HY6:=Hd hY
   have HR6:=Hd (HR5.out.ext hY.ext)
   have HE6:=Hd (HE5.out.trans hY.ext)
   have HRW6:=Hd (HRW5.out.mono hY.ext)
   clear hY hyn hk2 hyl HR5 HE5 HRW5 hmo
   obtain⟨N,hN⟩:∃ N,n+yn=N:=⟨_,rfl⟩
   have hN63:N≤1000000:=by omega
   have hx63:n≤1000000:=by omega
   have HNE:=Hd hN
   have HW0:=Hd (show ORow 9 1 w6 (w6.alloc (.cells #[] 9)) (.slice (some ⟨w6.heap.size,0,none⟩) 0 0) 0 []from ORow.lit #[] (ExtR w6) (by decide) rfl)
   have HX0:=Hd (HRW6.out.mono ((ExtR w6).alloc (.cells #[] 9)))
   clear hN
   go_wp2_with (first |(at_builtin;(refine wpList_appS HW0.out HX0.out (Nat.zero_add n) rfl rfl hx63 ?_;intro v8 w8 r1;have HR1:=Hd r1;have HY8:=Hd (HY6.out.mono r1.ext);clear r1)) |(at_builtin;(refine wpList_appS HR1.out HY8.out HNE.out rfl rfl hN63 ?_;intro v9 w9 r2;have HR2:=Hd r2;obtain⟨aa,ac,hv9⟩:=r2.sl;subst hv9;clear r2)))
   have HA9:=Hd (show SRow w6 w9 (.slice aa N ac) N (stepsU l cs i++Y)from by have h:=HR2.out;rw[List.nil_append, ←List.map_append]at h;exact h)
   have HE9:=Hd (HE6.out.trans HA9.out.ext)
   have HR9:=Hd (HR6.out.ext HA9.out.ext)
   clear HR1 HR2 HY8 HW0 HX0 HY6 HRW6 HR6
   have hsucc:stepsM l cs (i+1)=m2:=by rw[steps_succ HCI.out,HM2.out,HMD.out]
   have hrow9:SRow w3 w9 (.slice aa N ac) N (stepsU l cs (i+1)):=by
    rw[stepsU_succ,hsucc]
    have h:=HA9.out
    rw[HYL.out]at h
    exact⟨h.sl,h.own,(HX4.out.ext.trans HE9.out),fun b hb=>Nat.le_trans (HX4.out.ext.trans HE6.out).size (h.new b hb)⟩
   have hok9:StepsOk l cs (i+1):=steps_more HOK.out HCI.out (by rw[←HMD.out];exact H0.out)
   have hrd9:RdP w9 (.slice ra m2.length rc) (stepsM l cs (i+1)):=by rw[hsucc];exact HR9.out
   have HF:=Hd (And.intro hrow9 (And.intro hok9 hrd9))
   clear hsucc hrow9 hok9 hrd9
   go_roundw
   case rel=>exact⟨i+1,by omega,by go_num,HF.out.2.1,HF.out.2.2,HE9.out,N,HF.out.1⟩
   case measure=>simp[intOf];omega
  ·have hie:i=cs.length:=by omega
   have b1:¬(i:Int) < (cs.length:Int):=by omega
   have HALL:=Hd (steps_all HM.out.ok (by rw[←hie];exact HOK.out))
   have HOKN:=Hd (show StepsOk l cs cs.length by rw[←hie];exact HOK.out)
   obtain⟨U,hU⟩:∃ U,U=stepsU l cs i:=⟨_,rfl⟩
   have HUD:=Hd (show U=stepsU l cs cs.length by rw[hU,hie])
   rw[←hU]at HRW HNL
   have HT5:=Hd (HT4.out.grow HE.out)
   have HE5:=Hd (HE4.out.trans HE.out)
   clear hU hie
   go_wp2_with fail
   refine (apart_c wr (HC.out.ext HE5.out) _ U (SRow.rd HRW.out) (by have:=HNL.out;omega)).mono ?_
   rintro e w6 ⟨b,rfl,hb,hE⟩
   have HT6:=Hd (HT5.out.grow hE)
   have HE6:=Hd (HE5.out.trans hE)
   have HBI:=Hd hb
   clear hE hb HT5 HE5
   cases b with
   | false =>
    go_wp2_with fail
    go_ret
    exact⟨rfl,HE6.out⟩
   | true =>
   have HI:=Hd (HBI.out.1 rfl)
   have HND:=Hd (show NodeL U by rw[HUD.out];exact stepsU_nodes HM.out.ok (Nat.le_refl _) HOKN.out)
   have HIN:=Hd (show ∀ j,j≤cs.length→∀ t∈textsL (stepsM l cs j),t∈U from fun j hj t ht=>by rw[HUD.out];exact stepsU_in hj ht)
   have HT7:=Hd (HT6.out.more (V:=U) (fun t h=>HIN.out 0 (Nat.zero_le _) t h))
   clear HBI HT6
   go_wp2_with fail
   have hAI:∀ t∈textsL (afterM l cs),t∈U:=by rw[HALL.out.2];exact HIN.out cs.length (Nat.le_refl _)
   have hAK:checkN (afterM l cs)=0:=after_check HALL.out.1
   have hcm:=commit_t (HC.out.ext HE6.out) (HEE.out.ext HE6.out) HT7.out (by decide) HI.out HND.out HM.out _ cs (HU.out.ext HE6.out) HN.out.2 HS.out.2 (by decide) (by decide) HALL.out.1 hAI (k:=119) (new_len hAK) (by decide) (by decide)
   rw[←HRT.out,HALL.out.2]at hcm
   refine hcm.mono ?_
   rintro e w8 ⟨rfl,S8,hT,hM,hA,hK⟩
   have HT8:=Hd hT
   have HM8:=Hd (hA.more HI.out (HIN.out 0 (Nat.zero_le _)) HM.out)
   clear hT hM hA hK hAI hAK hcm HT7 HE6
   obtain⟨ra,hra⟩:∃ ra,ra=rootM (stepsM l cs cs.length):=⟨_,rfl⟩
   have HRA:=Hd hra
   rw[←hra]
   clear hra
   go_wp2_with fail
   go_loopw [7,20] (fun rv iv wr=>SpR2 w1 s bm U l cs rv iv wr) (fun _ iv _=>cs.length - (intOf iv).toNat)
   case atStart=>exact⟨0,S8,Nat.zero_le _,rfl,by rw[HRT.out];rfl,HT8.out,HM8.out⟩
   case round =>
    obtain⟨j,Sj,hj,rfl,rfl,hT,hM⟩:=hrel
    have HTJ:=Hd hT
    have HMJ:=Hd hM
    obtain⟨mj,hmj⟩:∃ mj,mj=stepsM l cs j:=⟨_,rfl⟩
    have HMD2:=Hd hmj
    rw[←hmj]at HMJ ⊢
    obtain⟨rj,hrj⟩:∃ rj,rj=rootM mj:=⟨_,rfl⟩
    have HRJ:=Hd hrj
    rw[←hrj]
    have HEJ:=Hd (HW1.out.trans hT.ext)
    clear hT hM hmj hrj
    by_cases hlt:j < cs.length
    case neg =>
     have hje:j=cs.length:=by omega
     have b1:¬(j:Int) < (cs.length:Int):=by omega
     have hrr:rj=ra:=by rw[HRJ.out,HMD2.out,HRA.out,hje]
     subst hrr
     have hsf:(rj == rj)=true:=by rw[ba_beq];exact decide_eq_true rfl
     clear hje
     go_wp2_with fail
     go_ret
     exact⟨rfl,HEJ.out⟩
    have b1:(j:Int) < (cs.length:Int):=by omega
    obtain⟨cj,hcj⟩:∃ c,cs[j]?=some c:=⟨_,List.getElem?_eq_getElem hlt⟩
    obtain⟨ub,uo,un,ucap,hush,hun,hucap,husub⟩:=rdc_sub HU.out hcj
    have HUS:=Hd husub
    have HCJ:=Hd hcj
    cases hush
    have hi45:j < 45:=by have:=HFC.out;omega
    have hw64:wrap64 ((j:Int)+1)=((j+1:Nat):Int):=by unfold wrap64;omega
    have b2:((j+1:Nat):Int)≤(c2:Int):=by omega
    have b3:j≤j+1:=by omega
    have b4:¬ c2=j:=by omega
    clear hcj husub hun
    go_wp2_with fail
    have h0:applyE mj [cj]=0:=by rw[HMD2.out];exact HOKN.out j cj hlt HCJ.out
    have hsucc:afterM mj [cj]=stepsM l cs (j+1):=by rw[steps_succ HCJ.out,HMD2.out]
    have hck:checkN (afterM mj [cj])=0:=after_check h0
    have hcm:=commit_t (HC.out.ext HEJ.out) (HEE.out.ext HEJ.out) HTJ.out (by omega) HI.out HND.out HMJ.out _ [cj] (HUS.out.ext HEJ.out) (by simp) (fun d hd=>by rw[List.mem_singleton.1 hd];exact HS.out.2 cj (List.mem_of_getElem? HCJ.out)) (by decide) (by decide) h0 (by rw[hsucc];exact HIN.out (j+1) hlt) (k:=16) (new_few HMJ.out hck (makes_one h0)) (by omega) (by decide)
    rw[←HRJ.out,hsucc]at hcm
    refine hcm.mono ?_
    rintro e w9 ⟨rfl,S9,hT,hM,hA,hK⟩
    have HT9:=Hd hT
    have HM9:=Hd hM
    clear hT hM hA hK hcm h0 hsucc hck
    go_wp2_with fail
    go_roundw
    case rel=>exact⟨j+1,S9,hlt,by go_num,rfl,by have h:=HT9.out;rw[show 240+16 * (j+1)=240+16 * j+16 by omega];exact h,HM9.out⟩
    case measure=>simp[intOf];omega
end
end Go.Proofs.YtpaacnhboilkkaaGreatDoor
