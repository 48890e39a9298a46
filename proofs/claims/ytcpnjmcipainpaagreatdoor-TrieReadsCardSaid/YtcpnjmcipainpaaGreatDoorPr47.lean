/- Lemmas; each is under no condition but those that it states. -/
import Derived.Test.YtcpnjmcipainpaaGreatDoorPr46
namespace Go.Proofs.YtcpnjmcipainpaaGreatDoor
set_option linter.unusedSimpArgs false
set_option linter.unusedVariables false
set_option maxRecDepth 100000
set_option maxHeartbeats 16000000
open Go Go.RowKit
section
attribute [local go_sem] Oper.semAt_some
theorem jvK{a q:vB}(h:a.size<=q.size):((q.extract 0 a.size).toList == a.toList)=preB a q:=by
 rw[ByteArray.toList_eq,ByteArray.toList_eq,jbS];cases hp:preB a q with
 | true =>
  obtain⟨r,hr⟩:=(jfG a q).1 hp
  rw[hr]
  have:a.size=a.data.toList.length:=rfl
  rw[this,List.take_left];simp
 | false =>
  rw[Bool.eq_false_iff];intro e;have e:=eq_of_beq e
  have:preB a q=true:=(jfG a q).2 ⟨q.data.toList.drop a.size,by rw[<-e];exact (List.take_append_drop _ _).symm⟩
  rw[hp]at this;cases this
theorem jvZ{a q:vB}(h:q.size < a.size):preB a q=false:=by
 rw[Bool.eq_false_iff];intro e
 obtain⟨r,hr⟩:=(jfG a q).1 e
 have:q.data.toList.length=a.data.toList.length+r.length:=by rw[hr,List.length_append]
 have h1:q.data.toList.length=q.size:=rfl;have h2:a.data.toList.length=a.size:=rfl;omega
def P8R(w:World)(N:List vB)(lv pv ov:Value)(wr:World):Prop:=
 ∃ (f:Nat) (m:List Pair) (q:vB) (T:List vB) (n:Nat),RdP wr lv m/\pv=.string q/\SRow w wr ov n T/\jaA f m/\jat q=true/\m.length<=1000/\q.size<=1000000/\T.length<=13/\T.length+f<=13/\T++wayL f m q=N
theorem jwg{f:Nat}{m:List Pair}{q:vB}(h:m.length<=1):wayL f m q=[]:=by
 cases f with
 | zero=>rfl
 | succ f=>exact jfo (by unfold goL;rw[if_pos h])
theorem jnN(w:World)(v:Value)(l:List Pair)(key:vB)(hv:RdP w v l)(h:jaG l=0)(hk:key.size<=100000) :
  vQ 23 #[v,.string key] w fun e w'=>∃ u n,e=.returned u/\SRow w w' u n (wayN l key):=by
 have hm:=jaP h;have HP:=Hd (jtN w v l hv (by have:=hm.len;omega) (fun p hp=>by have:=(hm.size p hp).2.1;omega));have hr:=jbA hm;have hln:(jaO l).length<=1000:=by unfold jaO;rw[List.length_map];have:=hm.len;omega
 have HBY:=Hd (jf9 12 (jaO l) (jqX 12 _ hr hln) hr);have HRW:=Hd (And.intro hr hln);have HPV:=Hd (And.intro (jch key) (jdz key));have HRP:=Hd (jj4)
 obtain⟨N,hN⟩:=vE (wayN l key)
 have HN:=Hd (show [(jac (12+1) (jaO l)).text]++wayL 12 (jaO l) (ja5 key)=N by rw[hN];rfl);rw[<-hN]
 obtain⟨t,ht⟩:=vE (jac (12+1) (jaO l)).text
 rw[<-ht]at HBY HN
 obtain⟨a0,c0,rfl⟩:=hv.sl;clear hv hm hr hln ht h hN;go_enter Tryz.func23,Tryz.ntmps23;go_wp2_with fail
 refine HP.o.mono ?_;rintro e w1 ⟨u,rfl,hU⟩
 obtain⟨a1,c1,rfl⟩:=hU.sl
 have HU:=Hd hU;clear hU;go_wp2_with fail
 refine vC (HRP.o w1 key vO) fun w2 hE=>?_;have HX2:=Hd (HU.o.ext.trans hE);have HU2:=Hd (HU.o.mono hE)
 obtain⟨pk,hpk⟩:=vE (ja5 key)
 rw[<-hpk]at HPV HN ⊢;clear hE hpk HU;go_wp2_with fail
 refine vC (HBY.o w2 _ (ERow.rd HU2.o)) fun w3 hE=>?_;have HX3:=Hd (HX2.o.trans hE);have HU3:=Hd (HU2.o.mono hE);clear hE HU2 HX2;go_wp2_with fail
 have hx4:=(ExtR w3).alloc (.cells #[.string t] 9);have hrow:SRow w (w3.alloc (.cells #[.string t] 9)) (.slice (some ⟨w3.heap.size,0,none⟩) 1 1) 1 [t]:=
  ⟨⟨_,_,rfl⟩,⟨rfl,.inr ⟨_,1,_,rfl,Nat.zero_le _,Blk.new w3 _,Nat.le_refl _,by unfold maxLen;omega,rfl,rfl⟩⟩,HX3.o.trans hx4,fun b hb=>by
   have e:some w3.heap.size=some b:=hb;obtain rfl:=Option.some.inj e;exact HX3.o.size⟩
 have HROW:=Hd hrow;have HU4:=Hd (HU3.o.mono hx4)
 obtain⟨w4,hw4⟩:=vE (w3.alloc (.cells #[.string t] 9))
 rw[<-hw4]at HROW HU4 ⊢
 obtain⟨g,hg⟩:=vE w3.heap.size
 rw[<-hg]at HROW ⊢;clear hx4 hrow hw4 hg HU3 HX3;go_loopw [5,6,7,8,9] (fun lv pv ov cv sv wr=>P8R w N lv pv ov wr) (fun _ pv _ _ _ _=>jik pv)
 case atStart =>
  exact⟨12,jaO l,pk,[t],1,ERow.rd HU4.o,rfl,HROW.o,HRW.o.1,HPV.o.1,HRW.o.2,by rw[HPV.o.2];omega,by simp,by simp,HN.o⟩
 case round =>
  obtain⟨f,m,q,T,n,hm,rfl,hT,hok,hq,hml,hqs,hT13,hTf,hN⟩:=hrel
  have HM:=Hd hm;have HT:=Hd hT;have HINV:=Hd (And.intro hok (And.intro hq (And.intro hml (And.intro hqs (And.intro hT13 hTf)))));have HNN:=Hd hN
  obtain⟨am,cm,rfl⟩:=hm.sl
  obtain⟨ao,co,rfl⟩:=hT.sl
  by_cases h1:m.length<=1
  ·have b1:¬(1:Int) < (m.length:Int):=by omega
   have HF:=Hd (show T=N by rw[<-hN,jwg h1,List.append_nil]);clear hm hT hok hq hml hqs hT13 hTf hN h1;go_wp2_with fail
   go_ret
   exact⟨_,rfl,n,by rw[<-HF.o];exact HT.o⟩
  have b1:(1:Int) < (m.length:Int):=by omega
  have h2:2<=m.length:=by omega
  obtain⟨g',rfl⟩:∃ g',f=g'+1:=by
   cases f with
   | zero=>exact absurd (jlB hok) vO
   | succ g=>exact⟨g,rfl⟩
  have HSZ:Hid (∀ p∈m,p.1.size<=1000000):=(fun p hp=>Nat.le_trans (hok.size p hp).2.1 vI);have hco:=jmC wr _ m hm (fun e=>by rw[e]at h2;simp at h2) vO HSZ.o;rw[jjq hok h2]at hco;have HCO:=Hd hco;have H2:=Hd h2;clear hm hT hok hq hml hqs hT13 hTf hN h1 hco h2;go_wp2_with fail
  refine HCO.o.mono ?_;rintro e w5 ⟨rfl,hE⟩;have HM5:=Hd (HM.o.ext hE);have HT5:=Hd (HT.o.mono hE);clear hE
  obtain⟨a,ha⟩:=vE ((m.getD 0 pd).1.extract 0 (comK m))
  have HA:=Hd ha;rw[<-ha];clear ha
  by_cases hk:0 < comK m
  ·have hz:=jc5 HINV.o.1 H2.o
   rw[<-HA.o]at hz;have HZ:=Hd hz;have hpe:a.toList.isEmpty=false:=by
    rw[ByteArray.toList_eq];cases h:a.data.toList with
    | nil=>have e:a.data.toList.length=a.size:=rfl;rw[h]at e;simp at e;omega
    | cons=>rfl
   have hno:preB a q=false->T=N:=fun hp=>by
    rw[<-HNN.o,jfo (by unfold goL;rw[if_neg (by have:=H2.o;omega),if_pos hk, <-HA.o,hp];rfl),List.append_nil]
   have HNO:=Hd hno;have HK:=Hd hk;clear hz hno hk
   by_cases hlt:(q.size:Int) < (a.size:Int)
   ·have HF:=Hd (HNO.o (jvZ vO))
    go_wp2_with fail
    go_ret
    exact⟨_,n,rfl,by rw[<-HF.o];exact HT5.o⟩
   have hpx:=jvK (a:=a) (q:=q) vO;cases hpb:preB a q with
   | false =>
    rw[hpb]at hpx;have HF:=Hd (HNO.o hpb);clear hpb;go_wp2_with fail
    go_ret
    exact⟨_,n,rfl,by rw[<-HF.o];exact HT5.o⟩
   | true =>
    rw[hpb]at hpx;have HPB:=Hd hpb;clear hpb
    obtain⟨m',hm'⟩:∃ m',m'=jal (comK m) m:=⟨_,rfl⟩
    obtain⟨q',hq'⟩:∃ q',q'=q.extract a.size q.size:=⟨_,rfl⟩
    have hg:goL m q=some (m',q'):=by
     rw[hm',hq'];unfold goL;exact (by rw[if_neg (by have:=H2.o;omega),if_pos HK.o, <-HA.o,HPB.o,if_pos rfl,HZ.o])
    have hkd:=jgC HINV.o.1 HINV.o.2.1 hg;have hln':m'.length<=1000:=by
     rw[hm'];exact (by rw[jju];exact HINV.o.2.2.1)
    have HUN:=Hd (show jcs a m=m' from by rw[hm'];exact (by rw[HA.o];exact jlL HINV.o.1 H2.o));have hne':m'.length≠0:=fun e=>hkd.ne (List.eq_nil_of_length_eq_zero e);have g7:¬(m'.length:Int)=0:=by omega
    have HQ':=Hd hq';have HBY:=Hd (jf9 g' m' (jqX g' m' hkd.rows hln') hkd.rows);have hNN:=HNN.o;rw[jhm hg]at hNN
    obtain⟨s,hs⟩:=vE (jac (g'+1) m').text
    rw[<-hs]at HBY hNN;have HN':=hNN;rw[<-List.append_assoc]at HN';have HN':=Hd HN';have HOK':=Hd (show jaA g' m'/\jat q'=true/\m'.length<=1000/\q'.size<=1000000/\q'.size < q.size from⟨hkd.rows,hkd.valid,hln',by have:=hkd.less;have:=HINV.o.2.2.2.1;omega,hkd.less⟩);clear hm' hq' hg hkd hln' hNN hs hne';go_wp2_with fail
    rw[<-HQ'.o];refine (jgc w5 _ m a HM5.o (by have:=HINV.o.2.2.1;omega) HSZ.o (by have:=HZ.o;have:=HINV.o.2.2.2.1;omega)).mono ?_;rintro e w6 ⟨u,rfl,hU⟩;rw[HUN.o]at hU
    obtain⟨a6,c6,rfl⟩:=hU.sl
    have HU:=Hd hU;have HT6:=Hd (HT5.o.mono hU.ext);clear hU;go_wp2_with fail
    refine vC (HBY.o w6 _ (ERow.rd HU.o)) fun w7 hE=>?_;have HU7:=Hd (HU.o.mono hE);have HT7:=Hd (HT6.o.mono hE);clear hE
    by_cases h32:32<=s.size
    ·have g6:(32:Int)<=(s.size:Int):=by omega
     have hbg:bigs s=[s]:=by unfold bigs;rw[if_neg vO]
     rw[hbg]at HN';have hn13:n<=13:=by have:=HT7.o.own.1;simp at this;have:=HINV.o.2.2.2.2.1;omega
     clear h32 hbg;go_wp2_with (at_builtin;go_loud (refine jba Tryz.sStrs (HT7.o.mono ((ExtR w7).alloc _)) (.tmp 59) (.tmp 61) rfl rfl rfl (jaS (Blk.new w7 _)) (news:=[.string s]) (by intro u hu;simp at hu;rw[hu];rfl) rfl rfl (by unfold maxLen;omega) vO (fun v8 w8 r1 r2 r3=>?_);obtain⟨a8,c8,rfl⟩:=r1.sl;have HT8:=Hd (show SRow w w8 (.slice a8 (n+1) c8) (n+1) (T++[s]) by unfold SRow;rw[List.map_append];exact r1);have HU8:Hid (RdP w8 (.slice a6 m'.length c6) m'):=(ERow.rd (ORow.any (jaW (jbe HU7.o.own ((ExtR w7).alloc _)) r2 (jle HU7.o.own HT7.o.own vI))));clear r1 r2 r3))
     go_roundw
     case rel=>exact⟨g',m',q',T++[s],n+1,HU8.o,rfl,HT8.o,HOK'.o.1,HOK'.o.2.1,HOK'.o.2.2.1,HOK'.o.2.2.2.1,by have:=HINV.o.2.2.2.2.2;rw[List.length_append,List.length_singleton];omega,by have:=HINV.o.2.2.2.2.2;rw[List.length_append,List.length_singleton];omega,HN'.o⟩
     case measure=>exact HOK'.o.2.2.2.2
    ·have g6:¬(32:Int)<=(s.size:Int):=by omega
     have hbg:bigs s=[]:=by unfold bigs;rw[if_pos vO]
     rw[hbg,List.append_nil]at HN';clear h32 hbg;go_wp2_with fail
     go_roundw
     case rel=>exact⟨g',m',q',T,n,ERow.rd HU7.o,rfl,HT7.o,HOK'.o.1,HOK'.o.2.1,HOK'.o.2.2.1,HOK'.o.2.2.2.1,HINV.o.2.2.2.2.1,by have:=HINV.o.2.2.2.2.2;omega,HN'.o⟩
     case measure=>exact HOK'.o.2.2.2.2
  ·have hk0:comK m=0:=by omega
   have hae:a=⟨#[]⟩:=by rw[HA.o,hk0];exact jbt (by rw[jbS];rfl)
   rw[hae];have HK:=Hd hk;clear HA hae hk hk0;have hpe:(⟨#[]⟩:vB).toList.isEmpty=true:=by rw[ByteArray.toList_eq];rfl
   cases hql:q.data.toList with
   | nil =>
    have hqe:q.toList.isEmpty=true:=by rw[ByteArray.toList_eq,hql];rfl
    have HF:=Hd (show T=N by rw[<-HNN.o,jfo (by unfold goL;rw[if_neg (by have:=H2.o;omega),if_neg HK.o,hql]),List.append_nil]);clear hql;go_wp2_with fail
    go_ret
    exact⟨_,n,rfl,by rw[<-HF.o];exact HT5.o⟩
   | cons x r =>
    have hqe:q.toList.isEmpty=false:=by rw[ByteArray.toList_eq,hql];rfl
    have hqz:1<=q.size:=by
     have e:q.data.toList.length=q.size:=rfl;rw[hql,List.length_cons]at e;omega
    have hc1:(q.extract 0 1).size=1:=by rw[ByteArray.size_extract];omega
    have HQX:=Hd (show q.extract 0 1=⟨#[x.toNat.toUInt8]⟩from jbt (by rw[jbS,hql];simp));have HGO:=Hd (show goL m q=if (cutL x.toNat m).length=0 then none else some (jal 1 (cutL x.toNat m),q.extract 1 q.size) by unfold goL;rw[if_neg (by have:=H2.o;omega),if_neg HK.o,hql]);have hcut:(jal 1 (cutL x.toNat m)).length<=1000:=by rw[jju];exact Nat.le_trans (List.length_filter_le _ _) HINV.o.2.2.1
    have HCU:=Hd hcut;clear hql hcut;go_wp2_with fail
    by_cases hc0:(cutL x.toNat m).length=0
    ·obtain⟨m',hm'⟩:∃ m',m'=jal 1 (cutL x.toNat m):=⟨_,rfl⟩
     have HUN:=Hd (show jcs (q.extract 0 1) m=m' by rw[hm',HQX.o];exact jir x.toNat (by have:=x.toNat_lt;omega) m);have g7:(m'.length:Int)=0:=by rw[hm',jju,hc0];rfl
     have HF:=Hd (show T=N by rw[<-HNN.o,jfo (by rw[HGO.o,if_pos hc0]),List.append_nil]);clear hm' hc0;refine (jgc w5 _ m (q.extract 0 1) HM5.o (by have:=HINV.o.2.2.1;omega) HSZ.o (by rw[hc1];decide)).mono ?_;rintro e w6 ⟨u,rfl,hU⟩;rw[HUN.o]at hU
     obtain⟨a6,c6,rfl⟩:=hU.sl
     have HU:=Hd hU;have HT6:=Hd (HT5.o.mono hU.ext);clear hU;go_wp2_with fail
     go_ret
     exact⟨_,n,rfl,by rw[<-HF.o];exact HT6.o⟩
    ·have HC0:=Hd hc0
     clear hc0
     obtain⟨m',hm'⟩:∃ m',m'=jal 1 (cutL x.toNat m):=⟨_,rfl⟩
     obtain⟨q',hq'⟩:∃ q',q'=q.extract 1 q.size:=⟨_,rfl⟩
     have hg:goL m q=some (m',q'):=by
      rw[hm',hq',HGO.o,if_neg HC0.o]
     have hkd:=jgC HINV.o.1 HINV.o.2.1 hg;have hln':m'.length<=1000:=by
      rw[hm'];exact HCU.o
     have HUN:=Hd (show jcs (q.extract 0 1) m=m' from by rw[hm'];exact (by rw[HQX.o];exact jir x.toNat (by have:=x.toNat_lt;omega) m));have hne':m'.length≠0:=fun e=>hkd.ne (List.eq_nil_of_length_eq_zero e);have g7:¬(m'.length:Int)=0:=by omega
     have HQ':=Hd hq';have HBY:=Hd (jf9 g' m' (jqX g' m' hkd.rows hln') hkd.rows);have hNN:=HNN.o;rw[jhm hg]at hNN
     obtain⟨s,hs⟩:=vE (jac (g'+1) m').text
     rw[<-hs]at HBY hNN;have HN':=hNN;rw[<-List.append_assoc]at HN';have HN':=Hd HN';have HOK':=Hd (show jaA g' m'/\jat q'=true/\m'.length<=1000/\q'.size<=1000000/\q'.size < q.size from⟨hkd.rows,hkd.valid,hln',by have:=hkd.less;have:=HINV.o.2.2.2.1;omega,hkd.less⟩);clear hm' hq' hg hkd hln' hNN hs hne';rw[<-HQ'.o];refine (jgc w5 _ m (q.extract 0 1) HM5.o (by have:=HINV.o.2.2.1;omega) HSZ.o (by rw[hc1];decide)).mono ?_;rintro e w6 ⟨u,rfl,hU⟩;rw[HUN.o]at hU
     obtain⟨a6,c6,rfl⟩:=hU.sl
     have HU:=Hd hU;have HT6:=Hd (HT5.o.mono hU.ext);clear hU;go_wp2_with fail
     refine vC (HBY.o w6 _ (ERow.rd HU.o)) fun w7 hE=>?_;have HU7:=Hd (HU.o.mono hE);have HT7:=Hd (HT6.o.mono hE);clear hE
     by_cases h32:32<=s.size
     ·have g6:(32:Int)<=(s.size:Int):=by omega
      have hbg:bigs s=[s]:=by unfold bigs;rw[if_neg vO]
      rw[hbg]at HN';have hn13:n<=13:=by have:=HT7.o.own.1;simp at this;have:=HINV.o.2.2.2.2.1;omega
      clear h32 hbg;go_wp2_with (at_builtin;go_loud (refine jba Tryz.sStrs (HT7.o.mono ((ExtR w7).alloc _)) (.tmp 59) (.tmp 61) rfl rfl rfl (jaS (Blk.new w7 _)) (news:=[.string s]) (by intro u hu;simp at hu;rw[hu];rfl) rfl rfl (by unfold maxLen;omega) vO (fun v8 w8 r1 r2 r3=>?_);obtain⟨a8,c8,rfl⟩:=r1.sl;have HT8:=Hd (show SRow w w8 (.slice a8 (n+1) c8) (n+1) (T++[s]) by unfold SRow;rw[List.map_append];exact r1);have HU8:Hid (RdP w8 (.slice a6 m'.length c6) m'):=(ERow.rd (ORow.any (jaW (jbe HU7.o.own ((ExtR w7).alloc _)) r2 (jle HU7.o.own HT7.o.own vI))));clear r1 r2 r3))
      go_roundw
      case rel=>exact⟨g',m',q',T++[s],n+1,HU8.o,rfl,HT8.o,HOK'.o.1,HOK'.o.2.1,HOK'.o.2.2.1,HOK'.o.2.2.2.1,by have:=HINV.o.2.2.2.2.2;rw[List.length_append,List.length_singleton];omega,by have:=HINV.o.2.2.2.2.2;rw[List.length_append,List.length_singleton];omega,HN'.o⟩
      case measure=>exact HOK'.o.2.2.2.2
     ·have g6:¬(32:Int)<=(s.size:Int):=by omega
      have hbg:bigs s=[]:=by unfold bigs;rw[if_pos vO]
      rw[hbg,List.append_nil]at HN';clear h32 hbg;go_wp2_with fail
      go_roundw
      case rel=>exact⟨g',m',q',T,n,ERow.rd HU7.o,rfl,HT7.o,HOK'.o.1,HOK'.o.2.1,HOK'.o.2.2.1,HOK'.o.2.2.2.1,HINV.o.2.2.2.2.1,by have:=HINV.o.2.2.2.2.2;omega,HN'.o⟩
      case measure=>exact HOK'.o.2.2.2.2
end
def jwI(w:World)(l:List Pair)(k:vB)(iv:Value)(wr:World):Prop:=∃ i:Nat,i<=l.length/\iv=.int .i64 i/\Ext w wr/\look (l.take i) k.data.toList=none
theorem jjH(k:List UInt8):∀ a b:List Pair,look (a++b) k=(look a k).or (look b k)
 | [],b=>by rw[jtf];simp
 | q :: a,b=>by
  rw[List.cons_append,jbf,jbf,jjH k a b];split <;> rfl
theorem jrx(w:World)(v:Value)(l:List Pair)(k:vB)(hv:RdP w v l)(hn:l.length<=1000000):vR 18 #[v,.string k] w (optV (look l k.data.toList)):=by
 have HV:=Hd hv
 obtain⟨a,c,rfl⟩:=hv.sl;clear hv
 obtain⟨R,hR⟩:=vE (optV (look l k.data.toList))
 rw[<-hR];have HR:=Hd hR;clear hR;go_enter Tryz.func18,Tryz.ntmps18;go_wp2_with fail
 go_loopw [6] (fun iv wr=>jwI w l k iv wr) (fun iv _=>l.length - (intOf iv).toNat)
 case atStart=>exact⟨0,by omega,rfl,ExtR w,rfl⟩
 case round =>
  obtain⟨i,hi,rfl,hE,hno⟩:=hrel
  have HE:=Hd hE;have HNO:=Hd hno;clear hE hno
  by_cases hlt:i < l.length
  ·have b1:(i:Int) < (l.length:Int):=by omega
   rcases HV.o with⟨_,_,_,h0⟩ |⟨b,o,c1,hh,hb,hcc,hcell⟩
   ·rw[h0]at hlt;cases hlt
   cases hh
   obtain⟨p,hp⟩:∃ p,l[i]?=some p:=⟨_,List.getElem?_eq_getElem hlt⟩
   obtain⟨q1,q2⟩:=hcell i p hp
   have q1:=jaa q1 HE.o;have q2:=jaa q2 HE.o;have HP:=Hd hp
   obtain⟨x,y⟩:=p
   simp only at q1 q2;have hkb:=jvr x k;clear hcell hb hcc hp;have hspl:l=l.take i++(x,y) :: l.drop (i+1):=by
    obtain⟨h1,e1⟩:=List.getElem?_eq_some_iff.1 HP.o
    rw[<-e1, <-List.drop_eq_getElem_cons h1,List.take_append_drop]
   have HSPL:=Hd hspl;clear hspl
   by_cases hxk:k.data.toList=x.data.toList
   ·rw[decide_eq_true hxk]at hkb
    have HF:=Hd (show R=optV (some y) by
     rw[HR.o,HSPL.o,jjH,HNO.o,jbf,if_pos hxk];rfl)
    clear hxk;go_wp2_with fail
    go_ret2
    exact⟨by rw[HF.o];rfl,HE.o⟩
   ·rw[decide_eq_false hxk]at hkb
    have HG:=Hd (show look (l.take (i+1)) k.data.toList=none by
     rw[List.take_add_one,HP.o,jjH,HNO.o];show (none:Option vB).or (look [(x,y)] k.data.toList)=none;rw[jbf,if_neg hxk];rfl)
    clear hxk;go_wp2_with fail
    go_roundw
    case rel=>exact⟨i+1,by omega,by go_num,HE.o,HG.o⟩
    case measure=>simp[intOf];omega
  ·have b1:¬(i:Int) < (l.length:Int):=by omega
   have HF:=Hd (show R=optV none by rw[HR.o];have h:=HNO.o;rw[List.take_of_length_le vO]at h;rw[h]);go_wp2_with fail
   go_ret2
   exact⟨by rw[HF.o];rfl,HE.o⟩
section
attribute [local go_sem] Oper.semAt_some
def jyw(w:World)(n:Nat)(iv:Value)(W:World)(l m:List vB):Prop:=∃ i:Nat,i<=n/\iv=.int .i64 i/\l.take i=m.take i/\Ext w W
theorem jrI(w:World)(v u:Value)(l m:List vB)(hv:RdS w v l)(hu:RdS w u m)(hn:l.length<=1000000)(hn2:m.length<=1000000):vR 22 #[v,u] w (.bool (decide (l=m))):=by
 obtain⟨a,c,rfl,_⟩:=hv.slice
 obtain⟨a2,c2,rfl,_⟩:=hu.slice
 have HV:=Hd hv;have HU:=Hd hu;clear hv hu
 by_cases hl:l.length=m.length
 ·have hli:(l.length:Int)=(m.length:Int):=by omega
  obtain⟨n,hn0⟩:=vE l.length
  have hml:m.length=n:=by omega
  have HML:=Hd hml;have HNL:=Hd hn0;rw[hml, <-hn0];rw[<-hn0]at hn;clear hli hl hml hn0 hn2;go_enter Tryz.func22,Tryz.ntmps22;go_wp2_with fail
  go_loopw [5] (fun iv wr=>jyw w n iv wr l m) (fun iv _=>n - (intOf iv).toNat)
  case atStart=>exact⟨0,Nat.zero_le _,rfl,rfl,ExtR w⟩
  case round =>
   obtain⟨i,hi,rfl,htk,hE⟩:=hrel
   have HE:=Hd hE;have HTK:=Hd htk;clear hE htk
   by_cases hlt:i < n
   ·have b1:(i:Int) < (n:Int):=by omega
    have hl1:i < l.length:=by have:=HNL.o;omega
    have hl2:i < m.length:=by have:=HML.o;omega
    obtain⟨x,hx⟩:∃ x,l[i]?=some x:=⟨_,List.getElem?_eq_getElem hl1⟩
    obtain⟨y,hy⟩:∃ y,m[i]?=some y:=⟨_,List.getElem?_eq_getElem hl2⟩
    have hVn:RdS w (.slice a n c) l:=by have:=HV.o;rwa [<-HNL.o]at this
    have hUn:RdS w (.slice a2 n c2) m:=by have:=HU.o;rwa [HML.o]at this
    have hq1:∃ ba oa,a=some ⟨ba,oa,none⟩/\wr.cell? ⟨ba,oa+i,none⟩=some (.string x):=by
     rcases HV.o with⟨_,_,_,h0⟩ |⟨bq,oq,cq,hh,_,_,hcell⟩
     ·rw[h0]at hl1;cases hl1
     ·exact⟨bq,oq,(Value.slice.inj hh).1,jaa (hcell i x hx) HE.o⟩
    have hq2:∃ ba oa,a2=some ⟨ba,oa,none⟩/\wr.cell? ⟨ba,oa+i,none⟩=some (.string y):=by
     rcases HU.o with⟨_,_,_,h0⟩ |⟨bq,oq,cq,hh,_,_,hcell⟩
     ·rw[h0]at hl2;cases hl2
     ·exact⟨bq,oq,(Value.slice.inj hh).1,jaa (hcell i y hy) HE.o⟩
    obtain⟨ba,oa,rfl,hq1⟩:=hq1
    obtain⟨ba',oa',rfl,hq2⟩:=hq2
    have HX:=Hd hx;have HY:=Hd hy;have Q1:=Hd hq1;have Q2:=Hd hq2;clear hVn hUn hl1 hl2 hx hy hq1 hq2;go_wp2_with fail
    refine jai [0,1,2,3,4,5,6,7,8] Ext ExtR ExtT vY vY vY ?_;iterate 3 refine vK ?_
    refine qKL ⟨ba,oa+i,none⟩ _ rfl (fun w1 h1=>jab Tryz.underlying9 rfl (jaa Q1.o ((jaj wr).trans h1))) ?_;refine vS ?_;iterate 3 refine vK ?_
    refine qKL ⟨ba',oa'+i,none⟩ _ rfl (fun w1 h1=>jab Tryz.underlying9 rfl (jaa Q2.o ((jaj wr).trans h1))) ?_;refine vS ?_
    refine vK ?_
    refine qKE (fun w3 he=>?_);have HE3:=Hd (HE.o.trans ((jaj wr).trans he));clear he HE Q1 Q2
    by_cases hxy:x=y
    ·subst hxy
     have hne:(!x.toList == x.toList)=false:=by simp
     rw[hne];clear hne;have HT:=Hd (show l.take (i+1)=m.take (i+1) by rw[List.take_add_one,List.take_add_one,HX.o,HY.o,HTK.o]);go_wp2_with fail
     go_roundw
     case rel=>exact⟨i+1,by omega,by go_num,HT.o,HE3.o⟩
     case measure=>simp[intOf];omega
    ·have hne:(!x.toList == y.toList)=true:=by
      have:¬ x.toList=y.toList:=fun e=>hxy (jdq e)
      simpa using this
     rw[hne];clear hne;have HN:=Hd (show decide (l=m)=false from decide_eq_false (fun e=>by
      have h1:=HX.o;rw[e,HY.o]at h1;exact hxy (Option.some.inj h1).symm))
     go_wp2_with fail
     go_ret
     exact⟨by rw[HN.o];rfl,HE3.o⟩
   ·have hie:i=n:=by omega
    have HD:=Hd (show decide (l=m)=true from decide_eq_true (by
     have h1:=HTK.o;rw[hie,List.take_of_length_le (by rw[<-HNL.o];exact Nat.le_refl _),List.take_of_length_le (by rw[HML.o];exact Nat.le_refl _)]at h1;exact h1))
    go_wp2_with fail
    go_ret
    exact⟨by rw[HD.o];rfl,HE.o⟩
 ·have HL:Hid (decide (l=m)=false):=(decide_eq_false (fun e=>hl (by rw[e])))
  have hb:((l.length:Int) ==(m.length:Int))=false:=by simp;omega
  have hb2:¬(l.length:Int)=(m.length:Int):=by omega
  rw[HL.o];go_enter Tryz.func22,Tryz.ntmps22;go_wp2_with fail
  go_ret
  exact⟨rfl,ExtR w⟩
end
def jwN(w:World)(l m:List Pair)(v:Value)(wr:World):Prop:=∃ i:Nat,i<=l.length/\v=.int .i64 i/\Ext w wr/\l.take i=m.take i
theorem juw(w:World)(v u:Value)(l m:List Pair)(hv:RdP w v l)(hu:RdP w u m)(hn:l.length<=1000000)(hn2:m.length<=1000000):vR 21 #[v,u] w (.bool (jg1 l m)):=by
 obtain⟨a,c,hsl⟩:=hv.sl
 obtain⟨a',c',hsl'⟩:=hu.sl
 have HV:=Hd hv;have HU:=Hd hu;subst hsl;subst hsl';clear hv hu
 by_cases hlen:l.length=m.length
 ·have hq:((l.length:Int) ==(m.length:Int))=true:=by simp;omega
  have hq3:((l.length:Int) !=(m.length:Int))=false:=by simp;omega
  have HLN:=Hd hlen
  obtain⟨n,hnn⟩:=vE l.length
  rw[<-hlen, <-hnn];rw[<-hnn]at hn;have HN:=Hd hnn;clear hq hq3 hlen hnn hn2;go_enter Tryz.func21,Tryz.ntmps21;go_wp2_with fail
  go_loopw [5] (fun i wr=>jwN w l m i wr) (fun i _=>n - (intOf i).toNat)
  case atStart=>exact⟨0,by omega,rfl,ExtR w,by simp⟩
  case round =>
   obtain⟨i,hi,rfl,hE,hall⟩:=hrel
   have HE:=Hd hE;have HALL:=Hd hall;have hi:i<=n:=by rw[HN.o];exact hi
   clear hE hall
   by_cases hlt:i < n
   ·have hl1:i < l.length:=by have:=HN.o;omega
    have hl2:i < m.length:=by have:=HN.o;have:=HLN.o;omega
    rcases HV.o with⟨_,_,_,h0⟩ |⟨b,o,c1,hh,hb,hc,hcell⟩
    ·rw[h0]at hl1;cases hl1
    rcases HU.o with⟨_,_,_,h0⟩ |⟨b',o',c2,hh',hb',hc',hcell'⟩
    ·rw[h0]at hl2;cases hl2
    obtain⟨rfl,hx1,hx2⟩:=Value.slice.inj hh
    obtain⟨rfl,hx3,hx4⟩:=Value.slice.inj hh'
    obtain⟨p,hp⟩:∃ p,l[i]?=some p:=⟨_,List.getElem?_eq_getElem hl1⟩
    obtain⟨q,hq⟩:∃ q,m[i]?=some q:=⟨_,List.getElem?_eq_getElem hl2⟩
    obtain⟨q1,q2⟩:=hcell i p hp
    obtain⟨q3,q4⟩:=hcell' i q hq
    have hla:∀ w1,Ext wr w1->(Instr.loadAt 95 (.pointer (some ⟨b,o+i * 2,none⟩))).run Tryz.prog w1=.ok (.agg #[.string p.1,.string p.2]) w1:=fun w1 h1=>jk5 (jaa q1 (HE.o.trans h1)) (jaa q2 (HE.o.trans h1));have hlb:∀ w1,Ext wr w1->(Instr.loadAt 95 (.pointer (some ⟨b',o'+i * 2,none⟩))).run Tryz.prog w1=.ok (.agg #[.string q.1,.string q.2]) w1:=fun w1 h1=>jk5 (jaa q3 (HE.o.trans h1)) (jaa q4 (HE.o.trans h1));have hnp:=fun w=>jtm p.1 p.2 q.1 q.2 w;have HLA:=Hd hla;have HLB:=Hd hlb;have HNP:=Hd hnp;have HP:=Hd hp;have HQ:=Hd hq;have b1:(i:Int) < (n:Int):=by omega
    clear hcell hcell' hh hh' hx1 hx2 hx3 hx4 hp hq q1 q2 q3 q4 hla hlb hnp hl1 hl2 hc hc';go_wp2_with fail
    refine jai [0,1,2,3,4,5,6,7,8] Ext ExtR ExtT vY vY vY ?_;iterate 3 refine vK ?_
    refine qKL ⟨b,o+i * 2,none⟩ _ rfl (fun w1 h1=>HLA.o w1 ((jaj wr).trans h1)) ?_;refine vS ?_;iterate 3 refine vK ?_
    refine qKL ⟨b',o'+i * 2,none⟩ _ rfl (fun w1 h1=>HLB.o w1 ((jaj wr).trans h1)) ?_;refine vS ?_;refine jcg _ (.bool (!eqP p q)) rfl vY rfl (fun w1 h1=>jsR rfl rfl vY (HNP.o w1)) ?_;refine vS ?_;refine qKE (fun w3 he=>?_);have HE3:=Hd ((HE.o.trans (jaj wr)).trans he);clear he;cases hpq:eqP p q with
    | true =>
     have hpe:=(jmf p q).1 hpq;have HT:=Hd (show l.take (i+1)=m.take (i+1) by rw[List.take_add_one,List.take_add_one,HP.o,HQ.o,HALL.o,hpe]);clear hpq hpe;go_wp2_with fail
     go_roundw
     case rel=>exact⟨i+1,by have:=HN.o;omega,by go_num,HE3.o,HT.o⟩
     case measure=>simp[intOf];omega
    | false =>
     have HF:=Hd (show jg1 l m=false by
      cases hs:jg1 l m with
      | false=>rfl
      | true =>
       have e:=(jea l m).1 hs;have e1:=HP.o;rw[e,HQ.o]at e1;rw[<-Option.some.inj e1,(jmf q q).2 rfl]at hpq;cases hpq)
     clear hpq;go_wp2_with fail
     go_ret
     exact⟨by rw[HF.o];rfl,HE3.o⟩
   ·have hin:i=n:=by omega
    have HF:=Hd (show jg1 l m=true by
     rw[jea]
     have:=HALL.o
     rw[hin,HN.o,List.take_length,HLN.o,List.take_length]at this;exact this)
    go_wp2_with fail
    go_ret
    exact⟨by rw[HF.o];rfl,HE.o⟩
 ·have hq:((l.length:Int) ==(m.length:Int))=false:=by simp;omega
  have hq3:((l.length:Int) !=(m.length:Int))=true:=by simp;omega
  have hq2:¬(l.length:Int)=(m.length:Int):=by omega
  have HF:=Hd (show jg1 l m=false by
   cases hs:jg1 l m with
   | false=>rfl
   | true=>exact absurd (by rw[(jea l m).1 hs]) hlen)
  go_enter Tryz.func21,Tryz.ntmps21;go_wp2_with fail
  go_ret
  exact⟨by rw[HF.o];rfl,ExtR w⟩
section
attribute [local go_sem] Oper.semAt_some
end
section
attribute [local go_sem] Oper.semAt_some
section wide
variable {P:Program}
end wide
end
section
attribute [local go_sem] Oper.semAt_some
end
section
section mixh
variable {P:Program} {l:List Oper} {E D:World->World->Prop}
variable {Q:Act->World->Prop} {done hd:List Nat} {a:Act} {w:World} {k n:Nat} {o:Oper}
end mixh
end
section
attribute [local go_sem] Oper.semAt_some
end
section
attribute [local go_sem] Oper.semAt_some
end
end Go.Proofs.YtcpnjmcipainpaaGreatDoor
namespace Go.Proofs.YtcpnjmcipainpaaGreatDoor
set_option linter.unusedSimpArgs false
set_option linter.unusedVariables false
set_option maxRecDepth 100000
set_option maxHeartbeats 16000000
open Go Go.RowKit
section
attribute [local go_sem] Oper.semAt_some
theorem joD(k:vB)(q:Pair)(l:List Pair):joC k (q :: l)=if q.1=k then some 0 else (joC k l).map (·+1):=by
 unfold joC;rw[List.findIdx?_cons]
 by_cases h:q.1=k
 ·subst h;simp
 ·rw[if_neg h];simp[jeg h]
theorem jm9(k:vB):∀ l:List Pair,jqb l k=valL l k
 | []=>rfl
 | q :: l=>by
  have ih:=jm9 k l;unfold jqb at ih ⊢;unfold valL;rw[joD]
  by_cases h:q.1=k
  ·rw[if_pos h,if_pos h];rfl
  ·rw[if_neg h,if_neg h, <-ih,Option.map_map]
   cases joC k l <;> rfl
theorem jt8(l:List Pair)(key:vB):1<=(wayN l key).length/\(wayN l key).length<=13:=by
 have:=jmN 12 (jaO l) (ja5 key)
 unfold wayN;rw[List.length_cons];omega
theorem jt2(w:World)(hc:jb2 w)(he:ErrT w)(v:Value)(l:List Pair)(hv:RdP w v l)(hn:l.length<=9223372036854775807)(hs:jud l)(key:vB)(hk:key.size<=9223372036854775807) :
  vR 3 #[v,.string key] w (.bool true):=by
 have HC:=Hd hc;have HEE:=Hd he;have HV:=Hd hv;have HS:=Hd hs;have HN:=Hd hn
 obtain⟨ad,c,rfl⟩:=hv.sl;clear hc hv hs hn he;go_enter Tryz.func3,Tryz.ntmps3;go_wp2_with fail
 refine vC (jt9 w HC.o HEE.o) fun w1 hE=>?_;have HE1:=Hd hE;clear hE;go_wp2_with fail
 refine (js5 w1 (HC.o.ext HE1.o) (HEE.o.ext HE1.o) _ l (HV.o.ext HE1.o) HN.o HS.o).mono ?_;rintro e w2 (⟨rfl,hE,hno⟩ |⟨s,bm,S,rfl,hH⟩)
 ·have HE2:=Hd (HE1.o.trans hE)
  clear hE hno;go_wp2_with fail
  go_ret
  exact⟨rfl,HE2.o⟩
 have HE2:=Hd (HE1.o.trans hH.ext);have HST:=Hd hH.st;have HM:=Hd hH.has;have HNS:Hid (jeK S):=hH.kp.nodes (jdD hH.ok)
 obtain⟨rt,hrt⟩:=vE (shaB (jaL l).text)
 have HRT:=Hd hrt;rw[<-hrt];clear hH hrt
 by_cases hf50:key.size<=50
 case neg =>
  have b0:(50:Int) < (key.size:Int):=by omega
  go_wp2_with fail
  go_ret
  exact⟨rfl,HE2.o⟩
 have b0:¬(50:Int) < (key.size:Int):=by omega
 have HK:=Hd hf50;have HLN:=Hd (show l.length<=1000000 by have:=(jaP HM.o.ok).len;omega);have hG:=jqg w2 s bm 2000 S HST.o HNS.o l HM.o key vO;rw[<-HRT.o]at hG;have HG:=Hd hG;have hAL:=fun W (e:Ext w2 W)=>jux W s bm 2000 S (HST.o.ext e) HNS.o l HM.o;unfold rootM at hAL;rw[<-HRT.o]at hAL;have HAL:=Hd hAL;have hP:=fun W (e:Ext w2 W)=>jrh W s bm 2000 S (HST.o.ext e) l HM.o key vO;rw[<-HRT.o]at hP;have HP:=Hd hP;have hwl:=jt8 l key
 obtain⟨N,hN⟩:=vE (wayN l key)
 rw[<-hN]at HP hwl;have HNN:=Hd hN;have HNL:=Hd (show N.length<=1000000 by omega)
 obtain⟨o,ho⟩:=vE (jqb l key)
 rw[jkd, <-jm9, <-ho]at HG;have HO:=Hd ho;clear hP hN hwl ho hG hAL hf50;go_wp2_with fail
 refine HG.o.mono ?_;rintro e w3 ⟨rfl,hE⟩;have HX3:=Hd hE;clear hE;cases o with
 | none =>
  unfold folV;go_wp2_with fail
  refine vC (jrx w3 _ l key (HV.o.ext (HE2.o.trans HX3.o)) HLN.o) fun w4 hE=>?_;rw[<-jgx, <-HO.o];unfold optV;have HX4:=Hd (HX3.o.trans hE);clear hE;go_wp2_with fail
  refine (HAL.o w4 HX4.o).mono ?_;rintro e w5 ⟨u5,rfl,hU⟩
  obtain⟨a5,c5,rfl⟩:=hU.sl;have HU5:=Hd hU;have HX5:=Hd (HX4.o.trans hU.ext);clear hU;go_wp2_with fail
  refine (HP.o w5 HX5.o).mono ?_;rintro e w6 ⟨a6,c6,rfl,hR⟩;have HR6:=Hd hR;have HX6:=Hd (HX5.o.trans hR.ext);clear hR;go_wp2_with fail
  refine vC (juw w6 _ _ l l (ERow.rd (HU5.o.mono HR6.o.ext)) (HV.o.ext (HE2.o.trans HX6.o)) HLN.o HLN.o) fun w7 hE=>?_;rw[(jea l l).2 rfl];have HX7:=Hd (HX6.o.trans hE);have HR7:=Hd (HR6.o.mono hE);clear hE;go_wp2_with fail
  refine (jnN w7 _ l key (HV.o.ext (HE2.o.trans HX7.o)) HM.o.ok (by have:=HK.o;omega)).mono ?_;rintro e w8 ⟨u8,n8,rfl,hU⟩;rw[<-HNN.o]at hU
  obtain⟨a8,c8,rfl⟩:=hU.sl;have HU8:=Hd hU;have HX8:=Hd (HX7.o.trans hU.ext);clear hU;go_wp2_with fail
  refine vC (jrI w8 _ _ N N (SRow.rd (HR7.o.mono HU8.o.ext)) (SRow.rd HU8.o) HNL.o HNL.o) fun w9 hE=>?_;rw[show decide (N=N)=true from decide_eq_true rfl];have HX9:=Hd (HX8.o.trans hE);clear hE;go_wp2_with fail
  go_ret
  exact⟨rfl,HE2.o.trans HX9.o⟩
 | some u =>
  unfold folV;go_wp2_with fail
  refine vC (jrx w3 _ l key (HV.o.ext (HE2.o.trans HX3.o)) HLN.o) fun w4 hE=>?_;rw[<-jgx, <-HO.o];unfold optV;have HX4:=Hd (HX3.o.trans hE);clear hE;go_wp2_with fail
  refine (HAL.o w4 HX4.o).mono ?_;rintro e w5 ⟨u5,rfl,hU⟩
  obtain⟨a5,c5,rfl⟩:=hU.sl;have HU5:=Hd hU;have HX5:=Hd (HX4.o.trans hU.ext);clear hU;go_wp2_with fail
  refine (HP.o w5 HX5.o).mono ?_;rintro e w6 ⟨a6,c6,rfl,hR⟩;have HR6:=Hd hR;have HX6:=Hd (HX5.o.trans hR.ext);clear hR;go_wp2_with fail
  refine vC (juw w6 _ _ l l (ERow.rd (HU5.o.mono HR6.o.ext)) (HV.o.ext (HE2.o.trans HX6.o)) HLN.o HLN.o) fun w7 hE=>?_;rw[(jea l l).2 rfl];have HX7:=Hd (HX6.o.trans hE);have HR7:=Hd (HR6.o.mono hE);clear hE;go_wp2_with fail
  refine (jnN w7 _ l key (HV.o.ext (HE2.o.trans HX7.o)) HM.o.ok (by have:=HK.o;omega)).mono ?_;rintro e w8 ⟨u8,n8,rfl,hU⟩;rw[<-HNN.o]at hU
  obtain⟨a8,c8,rfl⟩:=hU.sl;have HU8:=Hd hU;have HX8:=Hd (HX7.o.trans hU.ext);clear hU;go_wp2_with fail
  refine vC (jrI w8 _ _ N N (SRow.rd (HR7.o.mono HU8.o.ext)) (SRow.rd HU8.o) HNL.o HNL.o) fun w9 hE=>?_;rw[show decide (N=N)=true from decide_eq_true rfl];have HX9:=Hd (HX8.o.trans hE);clear hE;go_wp2_with fail
  go_ret
  exact⟨rfl,HE2.o.trans HX9.o⟩
end
end Go.Proofs.YtcpnjmcipainpaaGreatDoor
