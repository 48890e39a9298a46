/- Parts of the proof, one behind the other: RefT, RefFi, Same2, MixF. Each is under no condition but those that it states. -/
import Derived.Test.YtcpnjmcipainpaaGreatDoorPc36
import Derived.Test.YtcpnjmcipainpaaGreatDoorPc25
import Derived.Test.YtcpnjmcipainpaaGreatDoorPc29
import Derived.Test.YtcpnjmcipainpaaGreatDoorPc31
import Derived.Test.YtcpnjmcipainpaaGreatDoorPc24
import Derived.Test.YtcpnjmcipainpaaGreatDoorPc20
import Derived.Test.YtcpnjmcipainpaaGreatDoorPc15
namespace Go.Proofs.YtcpnjmcipainpaaGreatDoor
set_option linter.unusedSimpArgs false
set_option linter.unusedVariables false
set_option maxRecDepth 100000
set_option maxHeartbeats 16000000
section
open Go Go.RowKit
attribute [local go_sem] Oper.semAt_some
theorem jql{a q:ByteArray}(h:a.size≤q.size):((q.extract 0 a.size).toList == a.toList)=preB a q:=by
 rw[ByteArray.toList_eq,ByteArray.toList_eq,jbG];cases hp:preB a q with
 | true =>
  obtain⟨r,hr⟩:=(jfh a q).1 hp
  rw[hr]
  have:a.size=a.data.toList.length:=rfl
  rw[this,List.take_left];simp
 | false =>
  rw[Bool.eq_false_iff];intro e;have e:=eq_of_beq e
  have:preB a q=true:=(jfh a q).2 ⟨q.data.toList.drop a.size,by rw[←e];exact (List.take_append_drop _ _).symm⟩
  rw[hp]at this;cases this
theorem rpre_no{a q:ByteArray}(h:q.size < a.size):preB a q=false:=by
 rw[Bool.eq_false_iff];intro e
 obtain⟨r,hr⟩:=(jfh a q).1 e
 have:q.data.toList.length=a.data.toList.length+r.length:=by rw[hr,List.length_append]
 have h1:q.data.toList.length=q.size:=rfl;have h2:a.data.toList.length=a.size:=rfl;omega
def P8R(w:World)(N:List ByteArray)(lv pv ov:Value)(wr:World):Prop:=
 ∃ (f:Nat) (m:List Pair) (q:ByteArray) (T:List ByteArray) (n:Nat),RdP wr lv m∧pv=.string q∧SRow w wr ov n T∧jaG f m∧jaA q=true∧m.length≤1000∧q.size≤1000000∧T.length≤13∧T.length+f≤13∧T++wayL f m q=N
theorem jqJ{f:Nat}{m:List Pair}{q:ByteArray}(h:m.length≤1):wayL f m q=[]:=by
 cases f with
 | zero=>rfl
 | succ f=>exact jcV (by unfold goL;rw[if_pos h])
theorem jkC(w:World)(v:Value)(l:List Pair)(key:ByteArray)(hv:RdP w v l)(h:ja6 l=0)(hk:key.size≤100000) :
  Calls Tryz.prog 23 #[v,.string key] w fun e w'=>∃ u n,e=.returned u∧SRow w w' u n (wayN l key):=by
 have hm:=jbS h;have HP:=Hd (joQ w v l hv (by have:=hm.len;omega) (fun p hp=>by have:=(hm.size p hp).2.1;omega));have hr:=jdu hm;have hln:(ja3 l).length≤1000:=by unfold ja3;rw[List.length_map];have:=hm.len;omega
 have HBY:=Hd (jeT 12 (ja3 l) (jmU 12 _ hr hln) hr);have HRW:=Hd (And.intro hr hln);have HPV:=Hd (And.intro (jch key) (jeQ key));have HRP:=Hd (jhU)
 obtain⟨N,hN⟩:∃ N,N=wayN l key:=⟨_,rfl⟩
 have HN:=Hd (show [(jad (12+1) (ja3 l)).text]++wayL 12 (ja3 l) (jbe key)=N by rw[hN];rfl);rw[←hN]
 obtain⟨t,ht⟩:∃ t,t=(jad (12+1) (ja3 l)).text:=⟨_,rfl⟩
 rw[←ht]at HBY HN
 obtain⟨a0,c0,hsl⟩:=hv.sl
 subst hsl;clear hv hm hr hln ht h hN;go_enter Tryz.func23,Tryz.ntmps23;go_wp2_with fail
 refine HP.o.mono ?_;rintro e w1 ⟨u,rfl,hU⟩
 obtain⟨a1,c1,rfl⟩:=hU.sl
 have HU:=Hd hU;clear hU;go_wp2_with fail
 refine (HRP.o w1 key (by omega)).mono ?_;rintro e w2 ⟨rfl,hE⟩;have HX2:=Hd (HU.o.ext.trans hE);have HU2:=Hd (HU.o.mono hE)
 obtain⟨pk,hpk⟩:∃ pk,pk=jbe key:=⟨_,rfl⟩
 rw[←hpk]at HPV HN ⊢;clear hE hpk HU;go_wp2_with fail
 refine (HBY.o w2 _ (ERow.rd HU2.o)).mono ?_;rintro e w3 ⟨rfl,hE⟩;have HX3:=Hd (HX2.o.trans hE);have HU3:=Hd (HU2.o.mono hE);clear hE HU2 HX2;go_wp2_with fail
 have hx4:=(ExtR w3).alloc (.cells #[.string t] 9);have hrow:SRow w (w3.alloc (.cells #[.string t] 9)) (.slice (some ⟨w3.heap.size,0,none⟩) 1 1) 1 [t]:=
  ⟨⟨_,_,rfl⟩,⟨rfl,.inr ⟨_,1,_,rfl,Nat.zero_le _,Blk.new w3 _,Nat.le_refl _,by unfold maxLen;omega,rfl,rfl⟩⟩,HX3.o.trans hx4,fun b hb=>by
   have e:some w3.heap.size=some b:=hb;obtain rfl:=Option.some.inj e;exact HX3.o.size⟩
 have HROW:=Hd hrow;have HU4:=Hd (HU3.o.mono hx4)
 obtain⟨w4,hw4⟩:∃ w4,w4=w3.alloc (.cells #[.string t] 9):=⟨_,rfl⟩
 rw[←hw4]at HROW HU4 ⊢
 obtain⟨g,hg⟩:∃ g,g=w3.heap.size:=⟨_,rfl⟩
 rw[←hg]at HROW ⊢;clear hx4 hrow hw4 hg HU3 HX3;go_loopw [5,6,7,8,9] (fun lv pv ov cv sv wr=>P8R w N lv pv ov wr) (fun _ pv _ _ _ _=>jfB pv)
 case atStart =>
  exact⟨12,ja3 l,pk,[t],1,ERow.rd HU4.o,rfl,HROW.o,HRW.o.1,HPV.o.1,HRW.o.2,by rw[HPV.o.2];omega,by simp,by simp,HN.o⟩
 case round =>
  obtain⟨f,m,q,T,n,hm,rfl,hT,hok,hq,hml,hqs,hT13,hTf,hN⟩:=hrel
  have HM:=Hd hm;have HT:=Hd hT;have HINV:=Hd (And.intro hok (And.intro hq (And.intro hml (And.intro hqs (And.intro hT13 hTf)))));have HNN:=Hd hN
  obtain⟨am,cm,hsl⟩:=hm.sl
  subst hsl
  obtain⟨ao,co,hsl⟩:=hT.sl
  subst hsl
  by_cases h1:m.length≤1
  ·have b1:¬(1:Int) < (m.length:Int):=by omega
   have HF:=Hd (show T=N by rw[←hN,jqJ h1,List.append_nil]);clear hm hT hok hq hml hqs hT13 hTf hN h1;go_wp2_with fail
   go_ret
   exact⟨_,rfl,n,by rw[←HF.o];exact HT.o⟩
  have b1:(1:Int) < (m.length:Int):=by omega
  have h2:2≤m.length:=by omega
  obtain⟨g',rfl⟩:∃ g',f=g'+1:=by
   cases f with
   | zero=>exact absurd (ji4 hok) (by omega)
   | succ g=>exact⟨g,rfl⟩
  have HSZ:=Hd (show ∀ p∈m,p.1.size≤1000000 from fun p hp=>Nat.le_trans (hok.size p hp).2.1 (by decide));have hco:=jjH wr _ m hm (fun e=>by rw[e]at h2;simp at h2) (by omega) HSZ.o;rw[jhu hok h2]at hco;have HCO:=Hd hco;have H2:=Hd h2;clear hm hT hok hq hml hqs hT13 hTf hN h1 hco h2;go_wp2_with fail
  refine HCO.o.mono ?_;rintro e w5 ⟨rfl,hE⟩;have HM5:=Hd (HM.o.ext hE);have HT5:=Hd (HT.o.mono hE);clear hE
  obtain⟨a,ha⟩:∃ a,a=(m.getD 0 pd).1.extract 0 (comK m):=⟨_,rfl⟩
  have HA:=Hd ha;rw[←ha];clear ha
  by_cases hk:0 < comK m
  ·have hz:=jdO HINV.o.1 H2.o
   rw[←HA.o]at hz;have HZ:=Hd hz;have hpe:a.toList.isEmpty=false:=by
    rw[ByteArray.toList_eq];cases h:a.data.toList with
    | nil=>have e:a.data.toList.length=a.size:=rfl;rw[h]at e;simp at e;omega
    | cons=>rfl
   have hno:preB a q=false→T=N:=fun hp=>by
    rw[←HNN.o,jcV (by unfold goL;rw[if_neg (by have:=H2.o;omega),if_pos hk, ←HA.o,hp];rfl),List.append_nil]
   have HNO:=Hd hno;have HK:=Hd hk;clear hz hno hk
   by_cases hlt:(q.size:Int) < (a.size:Int)
   ·have HF:=Hd (HNO.o (rpre_no (by omega)))
    go_wp2_with fail
    go_ret
    exact⟨_,n,rfl,by rw[←HF.o];exact HT5.o⟩
   have hpx:=jql (a:=a) (q:=q) (by omega);cases hpb:preB a q with
   | false =>
    rw[hpb]at hpx;have HF:=Hd (HNO.o hpb);clear hpb;go_wp2_with fail
    go_ret
    exact⟨_,n,rfl,by rw[←HF.o];exact HT5.o⟩
   | true =>
    rw[hpb]at hpx;have HPB:=Hd hpb;clear hpb
    obtain⟨m',hm'⟩:∃ m',m'=jax (comK m) m:=⟨_,rfl⟩
    obtain⟨q',hq'⟩:∃ q',q'=q.extract a.size q.size:=⟨_,rfl⟩
    have hg:goL m q=some (m',q'):=by
     rw[hm',hq'];unfold goL;exact (by rw[if_neg (by have:=H2.o;omega),if_pos HK.o, ←HA.o,HPB.o,if_pos rfl,HZ.o])
    have hkd:=jgb HINV.o.1 HINV.o.2.1 hg;have hln':m'.length≤1000:=by
     rw[hm'];exact (by rw[jhx];exact HINV.o.2.2.1)
    have HUN:=Hd (show jb0 a m=m' from by rw[hm'];exact (by rw[HA.o];exact jjc HINV.o.1 H2.o));have hne':m'.length≠0:=fun e=>hkd.ne (List.eq_nil_of_length_eq_zero e);have g7:¬(m'.length:Int)=0:=by omega
    have HQ':=Hd hq';have HBY:=Hd (jeT g' m' (jmU g' m' hkd.rows hln') hkd.rows);have hNN:=HNN.o;rw[jeb hg]at hNN
    obtain⟨s,hs⟩:∃ s,s=(jad (g'+1) m').text:=⟨_,rfl⟩
    rw[←hs]at HBY hNN;have HN':=hNN;rw[←List.append_assoc]at HN';have HN':=Hd HN';have HOK':=Hd (show jaG g' m'∧jaA q'=true∧m'.length≤1000∧q'.size≤1000000∧q'.size < q.size from⟨hkd.rows,hkd.valid,hln',by have:=hkd.less;have:=HINV.o.2.2.2.1;omega,hkd.less⟩);clear hm' hq' hg hkd hln' hNN hs hne';go_wp2_with fail
    rw[←HQ'.o];refine (jeX w5 _ m a HM5.o (by have:=HINV.o.2.2.1;omega) HSZ.o (by have:=HZ.o;have:=HINV.o.2.2.2.1;omega)).mono ?_;rintro e w6 ⟨u,rfl,hU⟩;rw[HUN.o]at hU
    obtain⟨a6,c6,rfl⟩:=hU.sl
    have HU:=Hd hU;have HT6:=Hd (HT5.o.mono hU.ext);clear hU;go_wp2_with fail
    refine (HBY.o w6 _ (ERow.rd HU.o)).mono ?_;rintro e w7 ⟨rfl,hE⟩;have HU7:=Hd (HU.o.mono hE);have HT7:=Hd (HT6.o.mono hE);clear hE
    by_cases h32:32≤s.size
    ·have g6:(32:Int)≤(s.size:Int):=by omega
     have hbg:bigs s=[s]:=by unfold bigs;rw[if_neg (by omega)]
     rw[hbg]at HN';have hn13:n≤13:=by have:=HT7.o.own.1;simp at this;have:=HINV.o.2.2.2.2.1;omega
     clear h32 hbg;go_wp2_with (at_builtin;go_loud (refine jbr Tryz.sStrs (HT7.o.mono ((ExtR w7).alloc _)) (.tmp 59) (.tmp 61) rfl rfl rfl (jbg (Blk.new w7 _)) (news:=[.string s]) (by intro u hu;simp at hu;rw[hu];rfl) rfl rfl (by unfold maxLen;omega) (by omega) (fun v8 w8 r1 r2 r3=>?_);obtain⟨a8,c8,rfl⟩:=r1.sl;have HT8:=Hd (show SRow w w8 (.slice a8 (n+1) c8) (n+1) (T++[s]) by unfold SRow;rw[List.map_append];exact r1);have HU8:=Hd (show RdP w8 (.slice a6 m'.length c6) m' from ERow.rd (ORow.any (ja7 (jbx HU7.o.own ((ExtR w7).alloc _)) r2 (jiL HU7.o.own HT7.o.own (by decide)))));clear r1 r2 r3))
     go_roundw
     case rel=>exact⟨g',m',q',T++[s],n+1,HU8.o,rfl,HT8.o,HOK'.o.1,HOK'.o.2.1,HOK'.o.2.2.1,HOK'.o.2.2.2.1,by have:=HINV.o.2.2.2.2.2;rw[List.length_append,List.length_singleton];omega,by have:=HINV.o.2.2.2.2.2;rw[List.length_append,List.length_singleton];omega,HN'.o⟩
     case measure=>exact HOK'.o.2.2.2.2
    ·have g6:¬(32:Int)≤(s.size:Int):=by omega
     have hbg:bigs s=[]:=by unfold bigs;rw[if_pos (by omega)]
     rw[hbg,List.append_nil]at HN';clear h32 hbg;go_wp2_with fail
     go_roundw
     case rel=>exact⟨g',m',q',T,n,ERow.rd HU7.o,rfl,HT7.o,HOK'.o.1,HOK'.o.2.1,HOK'.o.2.2.1,HOK'.o.2.2.2.1,HINV.o.2.2.2.2.1,by have:=HINV.o.2.2.2.2.2;omega,HN'.o⟩
     case measure=>exact HOK'.o.2.2.2.2
  ·have hk0:comK m=0:=by omega
   have hae:a=⟨#[]⟩:=by rw[HA.o,hk0];exact jcx (by rw[jbG];rfl)
   rw[hae];have HK:=Hd hk;clear HA hae hk hk0;have hpe:(⟨#[]⟩:ByteArray).toList.isEmpty=true:=by rw[ByteArray.toList_eq];rfl
   cases hql:q.data.toList with
   | nil =>
    have hqe:q.toList.isEmpty=true:=by rw[ByteArray.toList_eq,hql];rfl
    have HF:=Hd (show T=N by rw[←HNN.o,jcV (by unfold goL;rw[if_neg (by have:=H2.o;omega),if_neg HK.o,hql]),List.append_nil]);clear hql;go_wp2_with fail
    go_ret
    exact⟨_,n,rfl,by rw[←HF.o];exact HT5.o⟩
   | cons x r =>
    have hqe:q.toList.isEmpty=false:=by rw[ByteArray.toList_eq,hql];rfl
    have hqz:1≤q.size:=by
     have e:q.data.toList.length=q.size:=rfl;rw[hql,List.length_cons]at e;omega
    have hc1:(q.extract 0 1).size=1:=by rw[ByteArray.size_extract];omega
    have HQX:=Hd (show q.extract 0 1=⟨#[x.toNat.toUInt8]⟩from jcx (by rw[jbG,hql];simp));have HGO:=Hd (show goL m q=if (cutL x.toNat m).length=0 then none else some (jax 1 (cutL x.toNat m),q.extract 1 q.size) by unfold goL;rw[if_neg (by have:=H2.o;omega),if_neg HK.o,hql]);have hcut:(jax 1 (cutL x.toNat m)).length≤1000:=by rw[jhx];exact Nat.le_trans (List.length_filter_le _ _) HINV.o.2.2.1
    have HCU:=Hd hcut;clear hql hcut;go_wp2_with fail
    by_cases hc0:(cutL x.toNat m).length=0
    ·obtain⟨m',hm'⟩:∃ m',m'=jax 1 (cutL x.toNat m):=⟨_,rfl⟩
     have HUN:=Hd (show jb0 (q.extract 0 1) m=m' by rw[hm',HQX.o];exact jgE x.toNat (by have:=x.toNat_lt;omega) m);have g7:(m'.length:Int)=0:=by rw[hm',jhx,hc0];rfl
     have HF:=Hd (show T=N by rw[←HNN.o,jcV (by rw[HGO.o,if_pos hc0]),List.append_nil]);clear hm' hc0;refine (jeX w5 _ m (q.extract 0 1) HM5.o (by have:=HINV.o.2.2.1;omega) HSZ.o (by rw[hc1];decide)).mono ?_;rintro e w6 ⟨u,rfl,hU⟩;rw[HUN.o]at hU
     obtain⟨a6,c6,rfl⟩:=hU.sl
     have HU:=Hd hU;have HT6:=Hd (HT5.o.mono hU.ext);clear hU;go_wp2_with fail
     go_ret
     exact⟨_,n,rfl,by rw[←HF.o];exact HT6.o⟩
    ·have HC0:=Hd hc0
     clear hc0
     obtain⟨m',hm'⟩:∃ m',m'=jax 1 (cutL x.toNat m):=⟨_,rfl⟩
     obtain⟨q',hq'⟩:∃ q',q'=q.extract 1 q.size:=⟨_,rfl⟩
     have hg:goL m q=some (m',q'):=by
      rw[hm',hq',HGO.o,if_neg HC0.o]
     have hkd:=jgb HINV.o.1 HINV.o.2.1 hg;have hln':m'.length≤1000:=by
      rw[hm'];exact HCU.o
     have HUN:=Hd (show jb0 (q.extract 0 1) m=m' from by rw[hm'];exact (by rw[HQX.o];exact jgE x.toNat (by have:=x.toNat_lt;omega) m));have hne':m'.length≠0:=fun e=>hkd.ne (List.eq_nil_of_length_eq_zero e);have g7:¬(m'.length:Int)=0:=by omega
     have HQ':=Hd hq';have HBY:=Hd (jeT g' m' (jmU g' m' hkd.rows hln') hkd.rows);have hNN:=HNN.o;rw[jeb hg]at hNN
     obtain⟨s,hs⟩:∃ s,s=(jad (g'+1) m').text:=⟨_,rfl⟩
     rw[←hs]at HBY hNN;have HN':=hNN;rw[←List.append_assoc]at HN';have HN':=Hd HN';have HOK':=Hd (show jaG g' m'∧jaA q'=true∧m'.length≤1000∧q'.size≤1000000∧q'.size < q.size from⟨hkd.rows,hkd.valid,hln',by have:=hkd.less;have:=HINV.o.2.2.2.1;omega,hkd.less⟩);clear hm' hq' hg hkd hln' hNN hs hne';rw[←HQ'.o];refine (jeX w5 _ m (q.extract 0 1) HM5.o (by have:=HINV.o.2.2.1;omega) HSZ.o (by rw[hc1];decide)).mono ?_;rintro e w6 ⟨u,rfl,hU⟩;rw[HUN.o]at hU
     obtain⟨a6,c6,rfl⟩:=hU.sl
     have HU:=Hd hU;have HT6:=Hd (HT5.o.mono hU.ext);clear hU;go_wp2_with fail
     refine (HBY.o w6 _ (ERow.rd HU.o)).mono ?_;rintro e w7 ⟨rfl,hE⟩;have HU7:=Hd (HU.o.mono hE);have HT7:=Hd (HT6.o.mono hE);clear hE
     by_cases h32:32≤s.size
     ·have g6:(32:Int)≤(s.size:Int):=by omega
      have hbg:bigs s=[s]:=by unfold bigs;rw[if_neg (by omega)]
      rw[hbg]at HN';have hn13:n≤13:=by have:=HT7.o.own.1;simp at this;have:=HINV.o.2.2.2.2.1;omega
      clear h32 hbg;go_wp2_with (at_builtin;go_loud (refine jbr Tryz.sStrs (HT7.o.mono ((ExtR w7).alloc _)) (.tmp 59) (.tmp 61) rfl rfl rfl (jbg (Blk.new w7 _)) (news:=[.string s]) (by intro u hu;simp at hu;rw[hu];rfl) rfl rfl (by unfold maxLen;omega) (by omega) (fun v8 w8 r1 r2 r3=>?_);obtain⟨a8,c8,rfl⟩:=r1.sl;have HT8:=Hd (show SRow w w8 (.slice a8 (n+1) c8) (n+1) (T++[s]) by unfold SRow;rw[List.map_append];exact r1);have HU8:=Hd (show RdP w8 (.slice a6 m'.length c6) m' from ERow.rd (ORow.any (ja7 (jbx HU7.o.own ((ExtR w7).alloc _)) r2 (jiL HU7.o.own HT7.o.own (by decide)))));clear r1 r2 r3))
      go_roundw
      case rel=>exact⟨g',m',q',T++[s],n+1,HU8.o,rfl,HT8.o,HOK'.o.1,HOK'.o.2.1,HOK'.o.2.2.1,HOK'.o.2.2.2.1,by have:=HINV.o.2.2.2.2.2;rw[List.length_append,List.length_singleton];omega,by have:=HINV.o.2.2.2.2.2;rw[List.length_append,List.length_singleton];omega,HN'.o⟩
      case measure=>exact HOK'.o.2.2.2.2
     ·have g6:¬(32:Int)≤(s.size:Int):=by omega
      have hbg:bigs s=[]:=by unfold bigs;rw[if_pos (by omega)]
      rw[hbg,List.append_nil]at HN';clear h32 hbg;go_wp2_with fail
      go_roundw
      case rel=>exact⟨g',m',q',T,n,ERow.rd HU7.o,rfl,HT7.o,HOK'.o.1,HOK'.o.2.1,HOK'.o.2.2.1,HOK'.o.2.2.2.1,HINV.o.2.2.2.2.1,by have:=HINV.o.2.2.2.2.2;omega,HN'.o⟩
      case measure=>exact HOK'.o.2.2.2.2
end
section
open Go Go.RowKit
def jq5(w:World)(l:List Pair)(k:ByteArray)(iv:Value)(wr:World):Prop:=∃ i:Nat,i≤l.length∧iv=.int .i64 i∧Ext w wr∧look (l.take i) k.data.toList=none
theorem jhF(k:List UInt8):∀ a b:List Pair,look (a++b) k=(look a k).or (look b k)
 | [],b=>by rw[joy];simp
 | q :: a,b=>by
  rw[List.cons_append,jdQ,jdQ,jhF k a b];split <;> rfl
theorem jnj(w:World)(v:Value)(l:List Pair)(k:ByteArray)(hv:RdP w v l)(hn:l.length≤1000000):Calls Tryz.prog 18 #[v,.string k] w fun e w'=>e=.returned (optV (look l k.data.toList))∧Ext w w':=by
 have HV:=Hd hv
 obtain⟨a,c,hsl⟩:=hv.sl
 subst hsl;clear hv
 obtain⟨R,hR⟩:∃ R,R=optV (look l k.data.toList):=⟨_,rfl⟩
 rw[←hR];have HR:=Hd hR;clear hR;go_enter Tryz.func18,Tryz.ntmps18;go_wp2_with fail
 go_loopw [6] (fun iv wr=>jq5 w l k iv wr) (fun iv _=>l.length - (intOf iv).toNat)
 case atStart=>exact⟨0,by omega,rfl,ExtR w,rfl⟩
 case round =>
  obtain⟨i,hi,rfl,hE,hno⟩:=hrel
  have HE:=Hd hE;have HNO:=Hd hno;clear hE hno
  by_cases hlt:i < l.length
  ·have b1:(i:Int) < (l.length:Int):=by omega
   rcases HV.o with⟨_,_,_,h0⟩ |⟨b,o,c1,hh,hb,hcc,hcell⟩
   ·rw[h0]at hlt;cases hlt
   cases hh
   obtain⟨p,hp⟩:∃ p,l[i]?=some p:=⟨_,List.getElem?_eq_getElem hlt⟩
   obtain⟨q1,q2⟩:=hcell i p hp
   have q1:=jab q1 HE.o;have q2:=jab q2 HE.o;have HP:=Hd hp
   obtain⟨x,y⟩:=p
   simp only at q1 q2;have hkb:=jqc x k;clear hcell hb hcc hp;have hspl:l=l.take i++(x,y) :: l.drop (i+1):=by
    obtain⟨h1,e1⟩:=List.getElem?_eq_some_iff.1 HP.o
    rw[←e1, ←List.drop_eq_getElem_cons h1,List.take_append_drop]
   have HSPL:=Hd hspl;clear hspl
   by_cases hxk:k.data.toList=x.data.toList
   ·rw[decide_eq_true hxk]at hkb
    have HF:=Hd (show R=optV (some y) by
     rw[HR.o,HSPL.o,jhF,HNO.o,jdQ,if_pos hxk];rfl)
    clear hxk;go_wp2_with fail
    go_ret2
    exact⟨by rw[HF.o];rfl,HE.o⟩
   ·rw[decide_eq_false hxk]at hkb
    have HG:=Hd (show look (l.take (i+1)) k.data.toList=none by
     rw[List.take_add_one,HP.o,jhF,HNO.o];show (none:Option ByteArray).or (look [(x,y)] k.data.toList)=none;rw[jdQ,if_neg hxk];rfl)
    clear hxk;go_wp2_with fail
    go_roundw
    case rel=>exact⟨i+1,by omega,by go_num,HE.o,HG.o⟩
    case measure=>simp[intOf];omega
  ·have b1:¬(i:Int) < (l.length:Int):=by omega
   have HF:=Hd (show R=optV none by rw[HR.o];have h:=HNO.o;rw[List.take_of_length_le (by omega)]at h;rw[h]);go_wp2_with fail
   go_ret2
   exact⟨by rw[HF.o];rfl,HE.o⟩
end
section
open Go Go.RowKit
attribute [local go_sem] Oper.semAt_some
def jsm(w:World)(n:Nat)(iv:Value)(W:World)(l m:List ByteArray):Prop:=∃ i:Nat,i≤n∧iv=.int .i64 i∧l.take i=m.take i∧Ext w W
theorem jnr(w:World)(v u:Value)(l m:List ByteArray)(hv:RdS w v l)(hu:RdS w u m)(hn:l.length≤1000000)(hn2:m.length≤1000000):Calls Tryz.prog 22 #[v,u] w fun e w'=>e=.returned (.bool (decide (l=m)))∧Ext w w':=by
 obtain⟨a,c,rfl,_⟩:=hv.slice
 obtain⟨a2,c2,rfl,_⟩:=hu.slice
 have HV:=Hd hv;have HU:=Hd hu;clear hv hu
 by_cases hl:l.length=m.length
 ·have hli:(l.length:Int)=(m.length:Int):=by omega
  obtain⟨n,hn0⟩:∃ n,n=l.length:=⟨_,rfl⟩
  have hml:m.length=n:=by omega
  have HML:=Hd hml;have HNL:=Hd hn0;rw[hml, ←hn0];rw[←hn0]at hn;clear hli hl hml hn0 hn2;go_enter Tryz.func22,Tryz.ntmps22;go_wp2_with fail
  go_loopw [5] (fun iv wr=>jsm w n iv wr l m) (fun iv _=>n - (intOf iv).toNat)
  case atStart=>exact⟨0,Nat.zero_le _,rfl,rfl,ExtR w⟩
  case round =>
   obtain⟨i,hi,rfl,htk,hE⟩:=hrel
   have HE:=Hd hE;have HTK:=Hd htk;clear hE htk
   by_cases hlt:i < n
   ·have b1:(i:Int) < (n:Int):=by omega
    have hl1:i < l.length:=by have:=HNL.o;omega
    have hl2:i < m.length:=by have:=HML.o;omega
    obtain⟨x,hx⟩:∃ x,l[i]?=some x:=⟨_,List.getElem?_eq_getElem hl1⟩
    obtain⟨y,hy⟩:∃ y,m[i]?=some y:=⟨_,List.getElem?_eq_getElem hl2⟩
    have hVn:RdS w (.slice a n c) l:=by have:=HV.o;rwa [←HNL.o]at this
    have hUn:RdS w (.slice a2 n c2) m:=by have:=HU.o;rwa [HML.o]at this
    have hq1:∃ ba oa,a=some ⟨ba,oa,none⟩∧wr.cell? ⟨ba,oa+i,none⟩=some (.string x):=by
     rcases HV.o with⟨_,_,_,h0⟩ |⟨bq,oq,cq,hh,_,_,hcell⟩
     ·rw[h0]at hl1;cases hl1
     ·exact⟨bq,oq,(Value.slice.inj hh).1,jab (hcell i x hx) HE.o⟩
    have hq2:∃ ba oa,a2=some ⟨ba,oa,none⟩∧wr.cell? ⟨ba,oa+i,none⟩=some (.string y):=by
     rcases HU.o with⟨_,_,_,h0⟩ |⟨bq,oq,cq,hh,_,_,hcell⟩
     ·rw[h0]at hl2;cases hl2
     ·exact⟨bq,oq,(Value.slice.inj hh).1,jab (hcell i y hy) HE.o⟩
    obtain⟨ba,oa,rfl,hq1⟩:=hq1
    obtain⟨ba',oa',rfl,hq2⟩:=hq2
    have HX:=Hd hx;have HY:=Hd hy;have Q1:=Hd hq1;have Q2:=Hd hq2;clear hVn hUn hl1 hl2 hx hy hq1 hq2;go_wp2_with fail
    refine jan [0,1,2,3,4,5,6,7,8] Ext ExtR ExtT (by kernel_rfl) (by kernel_rfl) (by kernel_rfl) ?_;iterate 3 (refine jae _ rfl (by kernel_rfl) rfl rfl (fun K hK=>?_);go_big_quiet_op;refine hK _ ?_;clear hK K)
    refine jak ⟨ba,oa+i,none⟩ _ rfl (by kernel_rfl) rfl rfl (fun w1 h1=>jaa Tryz.underlying9 rfl (jab Q1.o ((jas wr).trans h1))) ?_;simp only[Act.put,sA,sB,sC];iterate 3 (refine jae _ rfl (by kernel_rfl) rfl rfl (fun K hK=>?_);go_big_quiet_op;refine hK _ ?_;clear hK K)
    refine jak ⟨ba',oa'+i,none⟩ _ rfl (by kernel_rfl) rfl rfl (fun w1 h1=>jaa Tryz.underlying9 rfl (jab Q2.o ((jas wr).trans h1))) ?_;simp only[Act.put,sA,sB,sC]
    (refine jae _ rfl (by kernel_rfl) rfl rfl (fun K hK=>?_);go_big_quiet_op;refine hK _ ?_;clear hK K)
    refine jaJ (by kernel_rfl) (fun w3 he=>?_);have HE3:=Hd (HE.o.trans ((jas wr).trans he));clear he HE Q1 Q2
    by_cases hxy:x=y
    ·subst hxy
     have hne:(!x.toList == x.toList)=false:=by simp
     rw[hne];clear hne;have HT:=Hd (show l.take (i+1)=m.take (i+1) by rw[List.take_add_one,List.take_add_one,HX.o,HY.o,HTK.o]);go_wp2_with fail
     go_roundw
     case rel=>exact⟨i+1,by omega,by go_num,HT.o,HE3.o⟩
     case measure=>simp[intOf];omega
    ·have hne:(!x.toList == y.toList)=true:=by
      have:¬ x.toList=y.toList:=fun e=>hxy (jcj e)
      simpa using this
     rw[hne];clear hne;have HN:=Hd (show decide (l=m)=false from decide_eq_false (fun e=>by
      have h1:=HX.o;rw[e,HY.o]at h1;exact hxy (Option.some.inj h1).symm))
     go_wp2_with fail
     go_ret
     exact⟨by rw[HN.o];rfl,HE3.o⟩
   ·have hie:i=n:=by omega
    have HD:=Hd (show decide (l=m)=true from decide_eq_true (by
     have h1:=HTK.o;rw[hie,List.take_of_length_le (by rw[←HNL.o];exact Nat.le_refl _),List.take_of_length_le (by rw[HML.o];exact Nat.le_refl _)]at h1;exact h1))
    go_wp2_with fail
    go_ret
    exact⟨by rw[HD.o];rfl,HE.o⟩
 ·have HL:=Hd (show decide (l=m)=false from decide_eq_false (fun e=>hl (by rw[e])))
  have hb:((l.length:Int) ==(m.length:Int))=false:=by simp;omega
  have hb2:¬(l.length:Int)=(m.length:Int):=by omega
  rw[HL.o];go_enter Tryz.func22,Tryz.ntmps22;go_wp2_with fail
  go_ret
  exact⟨rfl,ExtR w⟩
end
section
open Go Go.RowKit
section mixf
variable {P:Program} {l:List Oper} {E:World→World→Prop}
variable {R:List Nat→Act→World→Prop} {ord done:List Nat} {a:Act} {w:World} {k:Nat} {o:Oper}
end mixf
end
end Go.Proofs.YtcpnjmcipainpaaGreatDoor
