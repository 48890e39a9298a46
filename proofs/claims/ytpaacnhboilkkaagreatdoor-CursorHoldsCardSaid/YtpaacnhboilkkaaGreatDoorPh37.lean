/- Parts of the proof, one behind the other: joG, DropD, HasM, GrowA, HoldA. Each is under no condition but those that it states. -/
import Derived.Test.YtpaacnhboilkkaaGreatDoorPh36
import Derived.Test.YtpaacnhboilkkaaGreatDoorPh33
import Derived.Test.YtpaacnhboilkkaaGreatDoorPh23
import Derived.Test.YtpaacnhboilkkaaGreatDoorPh29
namespace Go.Proofs.YtpaacnhboilkkaaGreatDoor
set_option linter.unusedSimpArgs false
set_option linter.unusedVariables false
set_option maxRecDepth 100000
set_option maxHeartbeats 16000000
section
open Go Go.RowKit
attribute [local go_sem] Oper.semAt_some
def jiT(S:List Nd5):Prop:=∀ x∈S,0 < x.2.2.used+x.2.2.held
structure jtP(w:World)(s bm:Nat)(room:Int)(S S':List Nd5)(y:Nd5)(w':World):Prop where
 st:jas w' s bm room S'
 cnt:Cnt S'
 full:jiT S'
 sum:jcb S'=jcb S - 1
 len:S'.length≤S.length
 sub:SubS (S.map (setB 3 y.2.1 (y.2.2.held - 1))) S'
 stay:∀ x∈S.map (setB 3 y.2.1 (y.2.2.held - 1)),0 < x.2.2.held→x.1∈S'.map (·.1)
 kp:jac (fun b=>b=bm∨b∈S.map (·.2.1)) w w'
 rk:RK w w'
def jvH(w:World)(s bm:Nat)(room:Int)(S:List Nd5)(k:ByteArray)(e:Ending)(w':World):Prop:=
 (jku (atL S k.data.toList)=0∧e=.returned (.int .i64 4)∧Ext w w')∨∃ S' y,atL S k.data.toList=some y∧0 < y.2.2.held∧e=.returned (.int .i64 0)∧jtP w s bm room S S' y w'
theorem drop_zero(w:World)(s bm:Nat)(room:Int)(S:List Nd5)(h:jas w s bm room S)(k:ByteArray)(hy:jku (atL S k.data.toList)=0) :
  Calls Tryz.prog 39 #[.pointer (some ⟨s,0,none⟩),.string k] w fun e w'=>e=.returned (.int .i64 4)∧Ext w w':=by
 have hc:=jre w s bm room S k h;rw[hy]at hc;have HC:=Hd (show Calls Tryz.prog 42 #[.pointer (some ⟨s,0,none⟩),.string k] w fun e w'=>e=.returned (.int .i64 0)∧Ext w w' from hc);clear hc h hy;go_enter Tryz.func39,Tryz.ntmps39;go_wp2_with fail
 refine HC.o.mono ?_;rintro e w1 ⟨rfl,hE⟩;have HE:=Hd hE;clear hE;go_wp2_with fail
 go_ret
 exact⟨rfl,HE.o⟩
def jvG(z s bm:Nat)(room:Int)(S0:List Nd5)(w3:World)(v:Value)(W:World):Prop:=∃ S T,DrO z s bm room S0 S T w3 v W
structure DrI(z s bm:Nat)(room:Int)(S0 S:List Nd5)(T R:List ByteArray)(rv:Value)(w3:World)(j:Nat)(v:Value)(W:World):Prop where
 st:jcx z W s bm room (S.map (jdr (R.take j)))
 row:W.ownsRow 0 9 1 v (T.length+j) ((T++R.take j).map Value.string)
 new:∀ b,v.ownBlock=some b→z≤b
 refs:W.ownsRow 0 9 1 rv R.length (R.map Value.string)
 kp:jac (fun b=>b=bm∨b∈S0.map (·.2.1)∨z≤b) w3 W
 rk:RK w3 W
def jvF(z s bm:Nat)(room:Int)(S0 S:List Nd5)(T R:List ByteArray)(rv:Value)(w3:World)(v iv:Value)(W:World):Prop:=∃ j:Nat,j≤R.length∧iv=.int .i64 j∧DrI z s bm room S0 S T R rv w3 j v W
theorem jkv{F G:BSet}{a b c:World}(h:jac F a b)(k:jac G b c)(hG:∀ x,G x→F x):jac F a c:=h.trans (k.mono fun x _ g=>hG x g)
theorem jum{S:List Nd5}(h:Cnt S){k:Key}(h0:¬ 0 < jmp (atL S k)):atL S k=none∨∃ y,atL S k=some y∧y.2.2.used=0∧y.2.2.held=0:=by
 cases hy:atL S k with
 | none=>exact .inl rfl
 | some y =>
  right;rw[hy]at h0;have h1:=h.held y (jaD hy).1;have h2:=h.used y (jaD hy).1;have h0:¬ 0 < y.2.2.used+y.2.2.held:=h0
  exact⟨y,rfl,by omega,by omega⟩
theorem jsF{S:List Nd5}(h:Cnt S)(hl:S.length≤1000){R:List ByteArray}(hR:R.length≤16)(j:Nat):∀ x∈S.map (jdr (R.take j)), -16≤x.2.2.used∧x.2.2.used≤16000:=fun x hx=>by
 obtain⟨z,hz,rfl⟩:=List.mem_map.1 hx
 have h1:=h.bd hl z hz;have h2:=jrW (R.take j) z.1;rw[List.length_take]at h2;show -16≤z.2.2.used - (cK (R.take j) z.1:Int)∧z.2.2.used - (cK (R.take j) z.1:Int)≤16000;omega
theorem jvk{w:World}{B g n cap:Nat}{T:List ByteArray}{t:ByteArray}(h:w.ownsRow B 9 1 (.slice (some ⟨g,0,none⟩) (n+1) cap) (n+1) ((T++[t]).map Value.string)):w.cell? ⟨g,n,none⟩=some (.string t):=by
 have hl:T.length=n:=by have:=h.1;simp at this;omega
 have:=World.ownsRow.cells (g:=g) h (by rfl) n (.string t) (by rw[List.map_append,List.getElem?_append_right (by simp[hl]),List.length_map,hl,Nat.sub_self];rfl)
 rw[Addr.add_lit,Nat.zero_add]at this;exact this
theorem jwZ{w:World}{B:Nat}{v:Value}{n:Nat}{xs:List Value}(h:w.ownsRow B 9 1 v (n+1) xs):∃ g cap,v=.slice (some ⟨g,0,none⟩) (n+1) cap:=by
 obtain⟨_,⟨_,h2⟩ |⟨g',cap',cur,h2,_⟩⟩:=h
 ·omega
 ·exact⟨g',cap',h2⟩
theorem jvj{w:World}{B n m:Nat}{a:Option Addr}{cap:Nat}{xs:List Value}(h:w.ownsRow B 9 1 (.slice a (n+1) cap) (n+1) xs)(hm:m=n):m+1≤cap:=by
 subst hm
 obtain⟨_,⟨_,h2⟩ |⟨g',cap',cur,h2,_,_,h5,_⟩⟩:=h
 ·omega
 ·obtain⟨_,_,e⟩:=Value.slice.inj h2;omega
theorem juc{S:List Nd5}(hn:(S.map (·.1)).Nodup){x:Nd5}{k:Key}(hx:x∈S)(e:x.1=k):atL S k=some x:=by
 obtain⟨y,hy⟩:=Option.isSome_iff_exists.1 (jdM.2 (List.mem_map.2 ⟨x,hx,e⟩))
 rw[hy,jud hn hx e hy]
theorem jpH(w:World)(s bm:Nat)(room:Int)(S:List Nd5)(h:jas w s bm room S)(hcn:Cnt S)(hfl:jiT S)(hl:S.length≤1000)(hh:∀ x∈S,x.2.2.held≤1000000)(k:ByteArray)(y:Nd5)(hy:atL S k.data.toList=some y)(h1:0 < y.2.2.held) :
  Calls Tryz.prog 39 #[.pointer (some ⟨s,0,none⟩),.string k] w (jvH w s bm room S k):=by
 have HS:=Hd h;have HCN:=Hd hcn;have HFL:=Hd hfl;have HY:=Hd hy;have HH:=Hd hh;have hym:=(jaD hy).1;have hbd:=hcn.bd hl y hym;have hhd2:=hh y hym;have hc:=jre w s bm room S k h;rw[hy]at hc
 obtain⟨yb,hyb⟩:∃ yb,yb=y.2.1:=⟨_,rfl⟩
 obtain⟨hd,hhd⟩:∃ hd,hd=y.2.2.held:=⟨_,rfl⟩
 have hho:jku (some y)=hd:=hhd.symm;rw[hho]at hc;rw[←hhd]at h1 hhd2;have HYB:=Hd hyb;have HHD:=Hd hhd;have HC:=Hd hc;have H1:=Hd h1;have hnz:(hd == 0)=false:=by simp;omega
 clear h hcn hfl hh hy hym hc hyb hhd hho;go_enter Tryz.func39,Tryz.ntmps39;go_wp2_with fail
 refine HC.o.mono ?_;rintro e w1 ⟨rfl,hE⟩;have h:=HS.o.ext hE;have hyb:=HYB.o;have hhd:=HHD.o;have hy:=HY.o;have hym:=(jaD hy).1;have hlo:=h.low.set hym (.inr rfl) (hd - 1);rw[←hyb]at hlo
 obtain⟨z,hz⟩:∃ z,z=w1.heap.size:=⟨_,rfl⟩
 rw[←hz]at hlo;have HZ:=Hd hz;have hK:jac (fun z=>z=yb) w1 (w1.setCell ⟨yb,3,none⟩ (.int .i64 (hd - 1))):=jac.oneSet w1 ⟨yb,3,none⟩ _;have hlk:=h.mp.look k false;rw[hy]at hlk;unfold ptrO at hlk;simp only[Bool.false_eq_true,if_false]at hlk;rw[←hyb]at hlk
 obtain⟨S0,hS0⟩:∃ S0,S0=S.map (setB 3 yb (hd - 1)):=⟨_,rfl⟩
 rw[←hS0]at hlo;have HS0:=Hd hS0
 obtain⟨rv,hBk,_⟩:=(h.mp.items y hym).cells
 rw[←hyb, ←hhd]at hBk;have qs:=h.st.cell (i:=1) (v:=.map (some bm)) (by rfl);have qh:=hBk.cell (i:=3) (v:=.int .i64 hd) (by rfl);have fh:w1.frozen? ⟨yb,3,none⟩=false:=hBk.frozen;have hc0:Cnt S0:=by rw[hS0];exact jup HCN.o yb (by omega)
 have hl0:S0.length=S.length:=by rw[hS0,List.length_map]
 have hsum:jcb S0=jcb S - 1:=by rw[hS0,hyb,jp3 h.nd h.mp.blks hym];omega
 have hnd0:(S0.map (·.1)).Nodup:=by rw[hS0,jiN];exact h.nd
 have hls0:jny S0 [k]:=by
  rw[hS0];intro x hx h0
  obtain⟨u,hu,rfl⟩:=List.mem_map.1 hx
  refine⟨k,by simp,?_⟩
  by_cases e:u.2.1=yb
  ·have:u=y:=ja4 h.mp.blks hu hym (by rw[e,hyb])
   rw[(jdb yb (hd - 1) u).2.2.1,this,(jaD hy).2]
  ·unfold setB at h0
   rw[if_neg e]at h0
   have:=HFL.o u hu;omega
 have HLO:=Hd hlo;have HC0:=Hd hc0;have HSUM:=Hd hsum;have HND0:=Hd hnd0;have HLS:=Hd hls0;have HL0:=Hd hl0;have HB0:=Hd (show S0.map (·.2.1)=S.map (·.2.1) by rw[hS0,jnh]);have HK:=Hd (And.intro hE hK);have HYM:=Hd (show yb∈S.map (·.2.1) by rw[hyb];exact List.mem_map.2 ⟨y,hym,rfl⟩);have hw1 : -9223372036854775808≤hd - 1:=by omega
 have hw2:hd - 1≤9223372036854775807:=by omega
 clear h hy hym hyb hhd hlo hK hS0 hBk HS hc0 hl0 hsum hnd0 hls0 HC hE HFL
 obtain⟨w2,hw2'⟩:∃ w2,w2=w1.setCell ⟨yb,3,none⟩ (.int .i64 (hd - 1)):=⟨_,rfl⟩
 rw[←hw2']at HLO HK;have HSZ:=Hd (show w2.heap.size=z by rw[hw2',hz];simp);have HRK2:=Hd (show RK w1 w2 by rw[hw2'];exact (RK.refl w1).set yb (.inr rfl) _);go_wp2_with fail
 rw[←hw2', ←hz];clear hw2' qs qh fh hlk hz
 obtain⟨w3,hw3⟩:∃ w3,w3=w2.alloc (.cells #[.string k] 9):=⟨_,rfl⟩
 rw[←hw3];have hr3:ORow 9 1 w2 w3 (.slice (some ⟨w2.heap.size,0,none⟩) 1 1) 1 [.string k]:=by rw[hw3];exact ORow.lit #[.string k] (ExtR w2) (by decide) rfl
 have HR3:=Hd (show w3.ownsRow 0 9 1 (.slice (some ⟨z,0,none⟩) 1 1) 1 [.string k] by have h:=hr3.own;rw[HSZ.o]at h;exact h);have HE3:=Hd (show Ext w2 w3 by rw[hw3];exact (ExtR w2).alloc _);clear hw3 hr3;go_loopw [5] (fun v wr=>jvG z s bm room S0 w1 v wr) (fun v wr=>17 * mapSz wr bm+slN v)
 case atStart =>
  refine⟨S0,[k],HLO.o.ext HE3.o,HC0.o,HLS.o,HR3.o,fun b hb=>?_,fun x hx=>⟨x,hx,rfl,rfl,rfl,rfl,rfl⟩,rfl,Nat.le_refl _,Nat.le_refl _,fun x hx _=>List.mem_map.2 ⟨x,hx,rfl⟩,jkv (F:=fun b=>b=bm∨b∈S0.map (·.2.1)∨z≤b) (HK.o.2.mono fun x _ e=>.inr (.inl (by rw[show x=yb from e,HB0.o];exact HYM.o))) HE3.o (fun x e=>e.elim),HRK2.o.ext HE3.o⟩
  have e:some z=some b:=hb
  have:=Option.some.inj e;omega
 case round =>
  obtain⟨S1,T,hD⟩:=hrel
  have HD:=Hd hD;rcases List.eq_nil_or_concat T with hT |⟨T',t,hT⟩
  ·subst hT
   obtain⟨a,c,rfl⟩:=jay hD.row
   clear hD;go_wp2_with fail
   go_ret;refine .inr ⟨S1,y,HY.o,by rw[←HHD.o];exact H1.o,rfl,HD.o.st.st,HD.o.cnt,fun x hx=>?_,?_,?_,?_,?_,?_,?_⟩
   ·by_cases h0:x.2.2.used+x.2.2.held≤0
    ·obtain⟨r,hr,_⟩:=HD.o.loose x hx h0
     cases hr
    ·omega
   ·rw[HD.o.sum,HSUM.o]
   ·have:=HD.o.len;rw[HL0.o]at this;exact this
   ·rw[←HYB.o, ←HHD.o, ←HS0.o];exact HD.o.sub
   ·rw[←HYB.o, ←HHD.o, ←HS0.o];exact HD.o.stay
   ·have hz:=HZ.o
    refine jac.trans' (F:=fun b=>b=bm∨b∈S.map (·.2.1)) (HK.o.1.mono fun _ _ g=>g.elim) HD.o.kp (fun x hx e=>?_);rcases e with e | e | e
    ·exact .inl e
    ·rw[HB0.o]at e;exact .inr e
    ·have:=HK.o.1.size;omega
   ·exact ((RK.refl w).ext HK.o.1).trans HD.o.rk
  ·have hT:T=T'++[t]:=by rw[hT];simp
   subst hT;have hrow:=hD.row;rw[show (T'++[t]).length=T'.length+1 by simp]at hrow
   obtain⟨g,cp,rfl⟩:=jwZ hrow
   have q1:=jvk hrow;have HROW:=Hd (jq8 hrow)
   obtain⟨n,hn⟩:∃ n,n=T'.length:=⟨_,rfl⟩
   rw[←hn]at HROW q1 ⊢;have HNN:=Hd hn;have hl1:=hD.len;have HL1:=Hd (show S1.length≤1000 by have:=HL0.o;omega);have hm:=hD.st.st.mapSz;have HMS:=Hd hm;have HGZ:=Hd (show z≤g from hD.new g rfl);have hcap:n+1≤cp:=jvj hrow hn;have HB:=Hd (show ∀ x∈S1, -1000000000≤x.2.2.used∧x.2.2.used≤1000000000 ∧ -1000000000≤x.2.2.held∧x.2.2.held≤1000000000 from fun x hx=>by
    have:=hD.cnt.bd HL1.o x hx
    have:=hD.cnt.held x hx
    obtain⟨u,hu,_,_,_,_,e5⟩:=hD.sub x hx
    have h5:u.2.2.held≤1000000:=by
     rw[HS0.o]at hu
     obtain⟨v,hv,rfl⟩:=List.mem_map.1 hu
     have:=HH.o v hv
     unfold setB putF;split
     ·show hd - 1≤1000000;omega
     ·exact this
    omega)
   have HTL:=Hd (show n+1+16 * S1.length≤1+16 * S0.length by have h:=hD.tl;rw[List.length_append, ←hn]at h;exact h);have hn63:n≤20000:=by have:=HTL.o;have:=HL0.o;omega
   clear hD hrow hn hl1 hm;go_wp2_with fail
   refine (js9 wr s bm room S1 t HD.o.st.st HB.o).mono ?_;rintro e w5 ⟨rfl,hE⟩
   obtain⟨cn,hcn⟩:∃ cn,cn=jmp (atL S1 t.data.toList):=⟨_,rfl⟩
   rw[←hcn];have HCN1:=Hd hcn;have hst5:=HD.o.st.ext hE;have HST5:=Hd hst5;have HROW5:=Hd (jbd HROW.o hE);have HK5:=Hd (HD.o.kp.trans (hE.mono (fun _ _ g=>g.elim)));have HRK5:=Hd (HD.o.rk.ext hE);have qs:=hst5.st.st.cell (i:=1) (v:=.map (some bm)) (by rfl);have hlk:=hst5.st.mp.look t false;simp only[Bool.false_eq_true,if_false]at hlk;have HMS5:=Hd hst5.st.mapSz;have HNEW:=Hd (show ∀ b c m,(Value.slice (some ⟨g,0,none⟩) m c).ownBlock=some b→z≤b from fun b c m hb=>by
    have e:some g=some b:=hb
    have:=Option.some.inj e;have:=HGZ.o;omega)
   clear hE hcn hst5 q1
   by_cases hp:0 < cn
   ·go_wp2_with fail
    go_roundw
    case rel =>
     refine⟨S1,T',HST5.o,HD.o.cnt,jkF HD.o.loose (fun x hx e=>?_),by rw[←HNN.o];exact HROW5.o,fun b hb=>HNEW.o b _ _ hb,HD.o.sub,HD.o.sum,HD.o.len,by have:=HTL.o;have:=HNN.o;omega,HD.o.stay,HK5.o,HRK5.o⟩
     have h1:=HCN1.o;rw[show atL S1 t.data.toList=some x from juc HD.o.st.st.nd hx e]at h1;have h1:cn=x.2.2.used+x.2.2.held:=h1;omega
    case measure=>rw[HMS5.o,HMS.o];simp[slN]
   have hp0:¬ 0 < jmp (atL S1 t.data.toList):=by rw[←HCN1.o];exact hp
   rcases jum HD.o.cnt hp0 with hno |⟨y1,hy1,hu0,hh0⟩
   ·rw[hno]at hlk
    unfold ptrO at hlk;simp only at hlk;have HNO:=Hd hno;clear hp0 hno;go_wp2_with fail
    go_roundw
    case rel =>
     exact⟨S1,T',HST5.o,HD.o.cnt,jkF HD.o.loose (fun x hx e=>absurd e.symm (jg1.1 HNO.o x hx)),by rw[←HNN.o];exact HROW5.o,fun b hb=>HNEW.o b _ _ hb,HD.o.sub,HD.o.sum,HD.o.len,by have:=HTL.o;have:=HNN.o;omega,HD.o.stay,HK5.o,HRK5.o⟩
    case measure=>rw[HMS5.o,HMS.o];simp[slN]
   ·rw[hy1]at hlk
    unfold ptrO at hlk;simp only at hlk;have hy1m:=(jaD hy1).1
    obtain⟨_,rv,hb1,hr1,hrz⟩:=HST5.o.lo y1 hy1m
    obtain⟨R,hR⟩:∃ R,R=y1.2.2.refs:=⟨_,rfl⟩
    rw[←hR]at hr1
    obtain⟨ar,cr,rfl⟩:=jay hr1
    have qr:=hb1.cell (i:=1) (v:=.slice ar R.length cr) (by rfl);have HR16:=Hd (show R.length≤16 by rw[hR];exact HD.o.cnt.r16 y1 hy1m);have HRS:=Hd (show ∀ r∈R,r.data.toList∈S1.map (·.1)from fun r hr=>HD.o.cnt.shut r (List.mem_flatMap.2 ⟨y1,hy1m,by rw[←hR];exact hr⟩));have HI0:=Hd (show DrI z s bm room S0 S1 T' R (.slice ar R.length cr) w1 0 (.slice (some ⟨g,0,none⟩) n cp) w5 from⟨by rw[List.take_zero,jqh];exact HST5.o,by rw[List.take_zero,List.append_nil,Nat.add_zero, ←HNN.o];exact HROW5.o,fun b hb=>HNEW.o b _ _ hb,hr1,HK5.o,HRK5.o⟩);have HY1:=Hd hy1;have HRR:=Hd hR;have HRZ:=Hd hrz;have HKN:=Hd (And.intro hy1m (jaD hy1).2);have HU0:=Hd (And.intro hu0 hh0)
    obtain⟨y1b,hy1b⟩:∃ y1b,y1b=y1.2.1:=⟨_,rfl⟩
    rw[←hy1b]at hlk qr;clear hp0 hy1 hu0 hh0 hy1m hb1 hr1 hrz hR hy1b;go_wp2_with fail
    go_loopw [5,65] (fun v5 iv wr2=>jvF z s bm room S0 S1 T' R (.slice ar R.length cr) w1 v5 iv wr2) (fun _ iv _=>R.length - (intOf iv).toNat)
    case atStart=>exact⟨0,Nat.zero_le _,rfl,HI0.o⟩
    case round =>
     obtain⟨j,hj,rfl,hI⟩:=hrel
     have HI:=Hd hI
     obtain⟨a5,c5,rfl⟩:=jay hI.row
     by_cases hlt:j < R.length
     ·have b1:(j:Int) < (R.length:Int):=by omega
      obtain⟨r,hr⟩:∃ r,R[j]?=some r:=⟨_,List.getElem?_eq_getElem hlt⟩
      obtain⟨ax,cx,hhs,hcell⟩:=(jhP hI.refs).slice
      obtain⟨ba,oa,hao,hqa⟩:=hcell j r hr
      subst hao;cases hhs;have qs2:=hI.st.st.st.cell (i:=1) (v:=.map (some bm)) (by rfl);have hlk2:=hI.st.st.mp.look r false;simp only[Bool.false_eq_true,if_false]at hlk2
      obtain⟨x1,hx1⟩:=Option.isSome_iff_exists.1 (jdM.2 (show r.data.toList∈(S1.map (jdr (R.take j))).map (·.1) by rw[jgL];exact HRS.o r (List.mem_of_getElem? hr)))
      rw[hx1]at hlk2;unfold ptrO at hlk2;simp only at hlk2;have hx1m:=(jaD hx1).1;have hub:=jsF HD.o.cnt HL1.o HR16.o j x1 hx1m
      obtain⟨rx,hbx,_⟩:=(hI.st.st.mp.items x1 hx1m).cells
      have hsx:=hI.st.set hx1m (.inl rfl) (x1.2.2.used - 1);rw[jta hI.st.st.mp hx1, ←job]at hsx;have hKx:jac (fun z=>z=x1.2.1) wr (wr.setCell ⟨x1.2.1,2,none⟩ (.int .i64 (x1.2.2.used - 1))):=jac.oneSet wr ⟨x1.2.1,2,none⟩ _;have hNx:jgW wr (fun z=>z=x1.2.1):=fun z cur fz e hz=>by
       have e:z=x1.2.1:=e;subst e
       have:=hbx.uniq hz;injection this with _ h2;exact absurd h2 (by decide)
      have HOW:=Hd (jcY hI.row hKx hNx);have HRF:=Hd (jcY hI.refs hKx hNx);have HXB:=Hd (show x1.2.1∈S0.map (·.2.1)from by
       obtain⟨u,hu,e⟩:=List.mem_map.1 hx1m
       obtain⟨u0,hu0,_,e2,_⟩:=HD.o.sub u hu
       exact List.mem_map.2 ⟨u0,hu0,by rw[←e];exact e2.symm⟩)
      have qx:=hbx.cell (i:=2) (v:=.int .i64 x1.2.2.used) (by rfl);have fx:wr.frozen? ⟨x1.2.1,2,none⟩=false:=hbx.frozen
      obtain⟨u,hu⟩:∃ u,u=x1.2.2.used:=⟨_,rfl⟩
      obtain⟨xb,hxb⟩:∃ xb,xb=x1.2.1:=⟨_,rfl⟩
      rw[←hu]at hub hsx qx HOW HRF hKx;rw[←hxb]at hlk2 qx fx hsx HOW HRF hKx HXB;have HKX:=Hd hKx;have HSX:=Hd (show jcx z (wr.setCell ⟨xb,2,none⟩ (.int .i64 (u - 1))) s bm room (S1.map (jdr (R.take (j+1)))) by rw[List.take_add_one,hr];exact hsx);have HTK:=Hd (show T'++R.take (j+1)=(T'++R.take j)++[r] by rw[List.take_add_one,hr, ←List.append_assoc];rfl);have hnw:=ja9 (Blk.new (wr.setCell ⟨xb,2,none⟩ (.int .i64 (u - 1))) (.cells #[.string r] 9));rw[World.size_setCell]at hnw;have HNW:=Hd hnw;have hw1 : -9223372036854775808≤u - 1:=by omega
      have hw2:u - 1≤9223372036854775807:=by omega
      have hm1:T'.length+j+1≤maxLen:=by have:=HTL.o;have:=HNN.o;have:=HR16.o;unfold maxLen;omega
      have hm2:(T'.length+j+1) * 16≤140737488355328:=by have:=HTL.o;have:=HNN.o;have:=HR16.o;omega
      clear hI hr hcell hx1 hx1m hbx hsx hKx hNx hu hxb hnw hlk qr qs
      obtain⟨i0,hi,hz0,hz1,hz2⟩:=info_parts Tryz.infoStr
      go_wp2_with (at_builtin;refine jcw _ rfl (.tmp 84) (.tmp 86) 34 rfl 9 i0 _ 1 16 Tryz.uStrs hi hz0 hz1 hz2 rfl (by decide) (.slice a5 (T'.length+j) c5) (T'.length+j) _ rfl (jbd HOW.o ((ExtR _).alloc _)) ⟨wr.heap.size,0,none⟩ 1 1 [.string r] rfl rfl HNW.o (by simp[Value.oneCell']) hm1 hm2 ?_;intro v' w6 r1 r2 r3;have HR1:=Hd r1;have HR2:=Hd r2;have HR3:=Hd r3;obtain⟨a6,c6,rfl⟩:=jay r1;clear r1 r2 r3)
      go_roundw
      case rel =>
       have hzw:z≤wr.heap.size:=by have:=HI.o.kp.size;have:=HZ.o;omega
       have e3:=(ExtR (wr.setCell ⟨xb,2,none⟩ (.int .i64 (u - 1)))).alloc (.cells #[.string r] 9)
       refine⟨j+1,by omega,by go_num,(HSX.o.ext e3).past HR2.o (fun c hc=>HI.o.new c hc),?_,fun b hb=>?_,jaG (jbd HRF.o e3) HR2.o (fun c hc f=>by have:=HRZ.o c hc;have:=HI.o.new c f;omega),?_,((HI.o.rk.set xb (.inl rfl) _).ext e3).keeps HR2.o (fun c hc=>by have:=HI.o.new c hc;have:=HZ.o;omega)⟩
       ·have h:=HR1.o
        rw[HTK.o,List.map_append];exact h
       ·rcases HR3.o with h | h
        ·exact HI.o.new b (h ▸ hb)
        ·have:=h b hb
         rw[World.size_alloc,World.size_setCell]at this;omega
       ·refine jkv (jkv (jkv HI.o.kp HKX.o (fun x e=>.inr (.inl ?_))) e3 (fun x e=>e.elim)) HR2.o (fun x e=>.inr (.inr (HI.o.new x e)))
        rw[show x=xb from e];exact HXB.o
      case measure=>simp[intOf];omega
     ·have hje:j=R.length:=by omega
      subst hje;have hst:=hI.st;rw[List.take_length]at hst;have hrow9:=hI.row;rw[List.take_length]at hrow9
      obtain⟨ob,hdl,hSd⟩:=hst.del t
      have qs2:=hst.st.st.cell (i:=1) (v:=.map (some bm)) (by rfl);have hKd:jac (fun z=>z=bm) wr (wr.putObj bm ob):=jac.onePut wr bm ob;have HSD:=Hd hSd;have HR9:=Hd (jaG hrow9 hKd (fun b hb e=>by have:=hI.new b hb;have:=hst.b0;have e:b=bm:=e;omega));have HN9:=Hd hI.new;have HK9:=Hd (jkv hI.kp hKd (fun x e=>.inl e))
      obtain⟨oes,ock,hobm,_⟩:=hSd.st.mp.mp
      have HRK9:=Hd (hI.rk.put hKd hobm);clear hobm;clear hst hrow9 hSd hKd hI HI hlk qr qs;go_wp2_with fail
      go_roundw
      case rel =>
       have hym:=HKN.o.1;have hk:=HKN.o.2;have hdn:=jpD hym R;rw[hk]at hdn;have hln:=HD.o.len;have htl:=HTL.o;have hnn:=HNN.o;have hr16:=HR16.o
       refine⟨delL (S1.map (jdr R)) t.data.toList,T'++R,HSD.o,?_,jql HD.o.loose rfl,by rw[List.length_append];exact HR9.o,HN9.o,jvq HD.o.sub R _,?_,by omega,by rw[List.length_append];omega,?_,HK9.o,HRK9.o⟩
       ·have:=jun HD.o.st.st.nd HD.o.cnt hym HU0.o.1
        rw[hk, ←HRR.o]at this;exact this
       ·rw[jfe,jn4, ←HD.o.sum,jp2 HD.o.st.st.nd hym,hk,HU0.o.2];omega
       ·have:=jtj HND0.o HD.o.sub HD.o.stay hym HU0.o.2 R
        rw[hk]at this;exact this
      case measure =>
       have hdn:=jpD HKN.o.1 R;rw[HKN.o.2]at hdn;have hr16:=HR16.o;have hnn:=HNN.o;rw[HSD.o.st.mapSz,HMS.o];simp only[slN];omega
theorem jsc(w:World)(s bm:Nat)(room:Int)(S:List Nd5)(h:jas w s bm room S)(hcn:Cnt S)(hfl:jiT S)(hl:S.length≤1000)(hh:∀ x∈S,x.2.2.held≤1000000)(k:ByteArray) :
  Calls Tryz.prog 39 #[.pointer (some ⟨s,0,none⟩),.string k] w (jvH w s bm room S k):=by
 by_cases h0:jku (atL S k.data.toList)=0
 ·exact (drop_zero w s bm room S h k h0).mono fun e w' ⟨h1,h2⟩=>.inl ⟨h0,h1,h2⟩
 ·cases hy:atL S k.data.toList with
  | none=>rw[hy]at h0;exact absurd rfl h0
  | some y =>
   rw[hy]at h0;have h0:¬ y.2.2.held=0:=h0
   have:=hcn.held y (jaD hy).1
   exact jpH w s bm room S h hcn hfl hl hh k y hy (by omega)
end
section
open Go Go.RowKit
theorem jjP{S G:List Nd5}{M:List ByteArray}{top:ByteArray}:jcD (addS S G M top)=jcD S++(frK S M).flatMap (jb4 G):=by
 rw[jcI];have h:=jpd ((frK S M).flatMap (jb4 G)) (shaB top) (S++jc2 G (frK S M));unfold jcD;rw[h,List.flatMap_append, ←jiF]
theorem jd1{S G:List Nd5}{M:List ByteArray}{top:ByteArray}:(addS S G M top).map (·.1)=(S++jc2 G (frK S M)).map (·.1):=by rw[jcI,jpc]
theorem jps{S G:List Nd5}{L M:List ByteArray}{top:ByteArray}(hc:Cnt S)(hG:G.map kvI=readG L)(hf:Fair G)(hP:jft S G (shaB top) M (frK S M).length):Cnt (addS S G M top):=by
 have hTM:∀ r∈(frK S M).flatMap (jb4 G),r∈M:=fun r hr=>by
  have:=hP.is
  rw[List.take_length]at this;rw[this];exact List.mem_cons_of_mem _ hr
 refine⟨fun x hx=>?_,fun r hr=>?_,fun x hx=>?_,fun x hx=>?_⟩
 ·rw[jjP,jmn]
  rw[jcI]at hx
  obtain⟨z,hz,rfl⟩:=List.mem_map.1 hx
  show z.2.2.used+((cK ((frK S M).flatMap (jb4 G)) z.1:Nat):Int)=((cK (jcD S) z.1+cK ((frK S M).flatMap (jb4 G)) z.1:Nat):Int);rcases List.mem_append.1 hz with hz | hz
  ·have:=hc.used z hz;omega
  ·obtain⟨hzG,f,hf1,e1⟩:=jb1 hz
   obtain⟨t,ht,_,e⟩:=jdd hG hzG
   have h0:cK (jcD S) z.1=0:=juk fun r hr er=>by
    have:=hc.shut r hr
    rw[er,e1, ←jdM,(jfM.1 hf1).2]at this;cases this
   have hu:z.2.2.used=0:=by rw[e];rfl
   omega
 ·rw[jd1]
  rw[jjP]at hr;rcases List.mem_append.1 hr with hr | hr
  ·rw[List.map_append];exact List.mem_append_left _ (hc.shut r hr)
  ·exact jdM.1 (jh0 hP (hTM r hr))
 ·rw[jcI]at hx
  obtain⟨z,hz,rfl⟩:=List.mem_map.1 hx
  show 0≤z.2.2.held+((cK [shaB top] z.1:Nat):Int);rcases List.mem_append.1 hz with hz | hz
  ·have:=hc.held z hz;omega
  ·obtain⟨t,ht,_,e⟩:=jdd hG (jb1 hz).1
   have hu:z.2.2.held=0:=by rw[e];rfl
   omega
 ·rw[jcI]at hx
  obtain⟨z,hz,rfl⟩:=List.mem_map.1 hx
  show z.2.2.refs.length≤16;rcases List.mem_append.1 hz with hz | hz
  ·exact hc.r16 z hz
  ·exact hf.refs z (jb1 hz).1
theorem jmF{S G:List Nd5}{L M:List ByteArray}{top:ByteArray}(hc:Cnt S)(hfl:jiT S)(hG:G.map kvI=readG L)(hP:jft S G (shaB top) M (frK S M).length):jiT (addS S G M top):=fun x hx=>by
 rw[jcI]at hx
 obtain⟨z,hz,rfl⟩:=List.mem_map.1 hx
 show 0 < z.2.2.used+((cK ((frK S M).flatMap (jb4 G)) z.1:Nat):Int)+(z.2.2.held+((cK [shaB top] z.1:Nat):Int));rcases List.mem_append.1 hz with hz | hz
 ·have:=hfl z hz;omega
 ·obtain⟨hzG,f,hf1,e1⟩:=jb1 hz
  obtain⟨t,ht,_,e⟩:=jdd hG hzG
  have hu:z.2.2.used=0:=by rw[e];rfl
  have hh:z.2.2.held=0:=by rw[e];rfl
  have hm:=(jfM.1 hf1).1
  have:=hP.is
  rw[List.take_length]at this;rw[this]at hm;rcases List.mem_cons.1 hm with h | h
  ·have:1≤cK [shaB top] z.1:=by rw[e1,h];exact jpl (by simp)
   omega
  ·have:1≤cK ((frK S M).flatMap (jb4 G)) z.1:=by rw[e1];exact jpl h
   omega
theorem jtk(T:List ByteArray)(r:ByteArray)(S:List Nd5):jcb (S.map (jgq T r))=jcb S+((S.map (·.1)).count r.data.toList:Int):=by
 induction S with
 | nil=>simp[jcb]
 | cons x l ih =>
  have e:∀ (a:Nd5) b,jcb (a :: b)=a.2.2.held+jcb b:=fun a b=>by unfold jcb;rw[List.map_cons,List.sum_cons]
  rw[List.map_cons,e,e,ih,List.map_cons,List.count_cons];have h1:(jgq T r x).2.2.held=x.2.2.held+((cK [r] x.1:Nat):Int):=rfl;have h2:cK [r] x.1=if x.1=r.data.toList then 1 else 0:=by
   have:=jhh r [] x.1
   rw[this];simp[cK]
  rw[h1,h2]
  by_cases hx:x.1=r.data.toList
  ·rw[if_pos hx,if_pos (by simp[hx])];push_cast;omega
  ·rw[if_neg hx,if_neg (by simpa using hx)];push_cast;omega
theorem jvs(A B:List Nd5):jcb (A++B)=jcb A+jcb B:=by unfold jcb;rw[List.map_append,List.sum_append]
theorem jnl:∀ {B:List Nd5},(∀ x∈B,x.2.2.held=0)→jcb B=0
 | [],_=>rfl
 | x :: r,h=>by
  have e:jcb (x :: r)=x.2.2.held+jcb r:=by unfold jcb;rw[List.map_cons,List.sum_cons]
  rw[e,h x List.mem_cons_self,jnl fun y hy=>h y (List.mem_cons_of_mem _ hy)];rfl
theorem jj6:∀ {l:List Key},l.Nodup→∀ {k:Key},k∈l→l.count k=1
 | [],_,_,hk=>by cases hk
 | x :: r,h,k,hk=>by
  rw[List.nodup_cons]at h;rw[List.count_cons]
  by_cases e:x=k
  ·subst e
   rw[List.count_eq_zero_of_not_mem h.1];simp
  ·have hk:k∈r:=(List.mem_cons.1 hk).resolve_left fun e2=>e e2.symm
   rw[jj6 h.2 hk];simp[e]
theorem jvr{S G:List Nd5}{L M:List ByteArray}{top:ByteArray}(hn:((addS S G M top).map (·.1)).Nodup)(hG:G.map kvI=readG L)(hP:jft S G (shaB top) M (frK S M).length):jcb (addS S G M top)=jcb S+1:=by
 have hroot:(shaB top).data.toList∈(S++jc2 G (frK S M)).map (·.1):=jdM.1 (jh0 hP (by rw[hP.is];exact List.mem_cons_self));rw[jd1]at hn;rw[jcI,jtk,jvs,jnl (B:=jc2 G (frK S M)) (fun x hx=>by
  obtain⟨t,ht,_,e⟩:=jdd hG (jb1 hx).1
  rw[e];rfl),jj6 hn hroot]
 omega
theorem jqg{S G:List Nd5}{M:List ByteArray}{top:ByteArray}:(addS S G M top).length≤S.length+(frK S M).length:=by
 rw[jcI,List.length_map,List.length_append]
 have:(jc2 G (frK S M)).length≤(frK S M).length:=List.length_filterMap_le _ _
 omega
theorem jmN{S G:List Nd5}{L M:List ByteArray}{top:ByteArray}{n:Int}(h:∀ x∈S,x.2.2.held≤n)(h0:0≤n)(hG:G.map kvI=readG L):∀ x∈addS S G M top,x.2.2.held≤n+1:=fun x hx=>by
 rw[jcI]at hx
 obtain⟨z,hz,rfl⟩:=List.mem_map.1 hx
 show z.2.2.held+((cK [shaB top] z.1:Nat):Int)≤n+1;have h1:=jrW [shaB top] z.1;rw[List.length_singleton]at h1;rcases List.mem_append.1 hz with hz | hz
 ·have:=h z hz;omega
 ·obtain⟨t,ht,_,e⟩:=jdd hG (jb1 hz).1
  have hu:z.2.2.held=0:=by rw[e];rfl
  omega
def HasS(S:List Nd5)(t:ByteArray):Prop:=∃ x,atL S (ky t)=some x∧x.2.2.text=t
structure HasM(S:List Nd5)(l:List Pair):Prop where
 ok:jaS l=0
 has:∀ x∈jaI (jaT l),HasS S x
def Inf(v t:ByteArray):Prop:=v.data.toList <:+: t.data.toList
theorem Inf.trans{a b c:ByteArray}(h:Inf a b)(k:Inf b c):Inf a c:=List.IsInfix.trans h k
theorem Inf.rfl'(a:ByteArray):Inf a a:=List.infix_refl _
theorem jeF(a b:ByteArray):Inf b (a++b):=⟨a.data.toList,[],by rw[ByteArray.data_append,Array.toList_append,List.append_nil]⟩
theorem jmQ(v:ByteArray):Inf v (jaO v):=by
 unfold jaO;split
 ·exact Inf.rfl' v
 ·exact jeF _ _
theorem jp7{x:ByteArray}:∀ {l:List ByteArray},x∈l→Inf x (catB l)
 | y :: l,h=>by
  rcases List.mem_cons.1 h with rfl | h
  ·refine⟨[],(l.map (·.data.toList)).flatten,?_⟩
   show _=x.data.toList++(l.map (·.data.toList)).flatten
   simp
  ·obtain⟨s,t,e⟩:=jp7 h
   have e:s++x.data.toList++t=(l.map (·.data.toList)).flatten:=e
   refine⟨y.data.toList++s,t,?_⟩
   show _=y.data.toList++(l.map (·.data.toList)).flatten;rw[←e];simp
theorem jg9{x:ByteArray}{l:List ByteArray}(h:x∈l):Inf x (jb8 l):=(jp7 h).trans (jeF _ _)
theorem jeE.inf{f:Nat}{T:PT}{n:jaf}(h:jeE f T n){v t:ByteArray}(ht:t∈jaI T)(hv:Inf v t):(∃ t∈jaK (jbZ T),Inf v t)∨Inf v (refB T.text):=by
 by_cases hs:T.text.size < 32
 ·have hk:=h.small hs
  obtain⟨x,ks⟩:=T
  have hk:ks=[]:=hk;subst hk;unfold jaI jaK at ht;rw[List.mem_singleton]at ht;right;unfold refB;rw[if_pos hs, ←(show t=(PT.mk x []).text from ht)];exact hv
 ·left
  refine⟨t,?_,hv⟩
  unfold jbZ;rw[if_neg hs,jca]
  exact⟨T,List.mem_singleton.2 rfl,ht⟩
def jdv(l:List Pair):Nat→Nat
 | 0=>0
 | n+1=>jdv l n+(if (cutL n l).length=0 then 0 else 1)
theorem jgN(l:List Pair)(n:Nat):∀ d,jdv l n≤jdv l (n+d)
 | 0=>Nat.le_refl _
 | d+1=>by have:=jgN l n d;rw[show n+(d+1)=(n+d)+1 from rfl,jdv];omega
theorem jhR{l:List Pair}{i n:Nat}(h:(cutL i l).length≠0)(hi:i < n):1≤jdv l n:=by
 have:=jgN l (i+1) (n - (i+1))
 rw[show i+1+(n - (i+1))=n by omega,jdv,if_neg h]at this;omega
theorem jgg{l:List Pair}{i j n:Nat}(h:(cutL i l).length≠0)(hj:(cutL j l).length≠0)(hij:i < j)(hn:j < n):2≤jdv l n:=by
 have h1:=jhR h hij
 have:=jgN l (j+1) (n - (j+1))
 rw[show j+1+(n - (j+1))=n by omega,jdv,if_neg hj]at this;omega
theorem jqb(B:List Pair→PT)(l:List Pair)(hB:∀ i,(cutL i l).length≠0→(jaI (B (jam 1 (cutL i l)))).length+2≤3 * (cutL i l).length):∀ n,(jaK (ksK B l n)).length+2 * jdv l n≤3 * jdj l n
 | 0=>by simp[ksK,jaK,jdj,jdv]
 | n+1=>by
  rw[jha,jdz,List.length_append,jdj,jdv]
  have:=jqb B l hB n
  by_cases h0:(cutL n l).length=0
  ·rw[if_pos h0,if_pos h0];simp[jaK];omega
  ·rw[if_neg h0,if_neg h0]
   have h1:=hB n h0;have h2:=jhN (B (jam 1 (cutL n l)));omega
theorem jj8{l:List Pair}(h:∃ p∈l,p.l=[])(n:Nat):jdj l n+1≤l.length:=by
 obtain⟨p,hp,e⟩:=h
 induction l with
 | nil=>cases hp
 | cons q r ih =>
  rw[jfH,List.length_cons];rcases List.mem_cons.1 hp with rfl | hp
  ·have:=jeN r n
   rw[e]
   have:hN [] n=0:=rfl
   omega
  ·have:=ih hp
   have:=jww q.l n
   omega
theorem jpy{l:List Pair}{p:Pair}{x:UInt8}{r:List UInt8}(hp:p∈l)(hpx:p.l=x :: r):p∈cutL x.toNat l:=List.mem_filter.2 ⟨hp,by unfold jfP;rw[show p.1.data.toList=x :: r from hpx];simp⟩
theorem jfI{l:List Pair}{p:Pair}{x:UInt8}{r:List UInt8}(hp:p∈l)(hpx:p.l=x :: r):(cutL x.toNat l).length≠0:=fun h0=>by
 have:=jpy hp hpx
 rw[List.eq_nil_of_length_eq_zero h0]at this;cases this
theorem jmx{k:Nat}{l:List Pair}{p:Pair}(h:p∈l):∃ q∈jam k l,q.2=p.2:=⟨_,List.mem_map_of_mem h,rfl⟩
structure jtS(T:PT)(l:List Pair):Prop where
 all:(jaI T).length+2≤3 * l.length
 two:2≤l.length→comK l=0→(jaI T).length+3≤3 * l.length
 inf:∀ p∈l,∃ t∈jaI T,Inf p.2 t
theorem jmL(f:Nat){l:List Pair}(h:l.length=1):jtS (jad (f+1) l) l:=by
 obtain⟨p,rfl⟩:=List.length_eq_one_iff.1 h
 have e:jaI (jad (f+1) [p])=[jkz ⟨1,p.1,p.2,jax 16⟩]:=by
  show jaI (.mk (ja5 (jau (jad f) [p])) (jaw (jad f) [p]))=_;have h1:jau (jad f) [p]=⟨1,p.1,p.2,jax 16⟩:=rfl;have h2:jaw (jad f) [p]=[]:=rfl;rw[h1,h2];rfl
 refine⟨by rw[e];simp,fun h2=>by simp at h2,fun q hq=>?_⟩
 rw[List.mem_singleton]at hq;subst hq;rw[e]
 refine⟨_,List.mem_singleton.2 rfl,(jmQ q.2).trans ?_⟩
 unfold jkz;exact jg9 (by simp)
theorem grow:∀ (f:Nat) (l:List Pair),jaQ f l→l≠[]→jtS (jad (f+1) l) l:=by
 intro f;induction f with
 | zero =>
  intro l h hn;have h0:l.length≠0:=fun e=>hn (List.eq_nil_of_length_eq_zero e);have hl:l.length≤1:=by
   rcases Nat.lt_or_ge l.length 2 with h2 | h2
   ·omega
   ·obtain⟨a,ha⟩:∃ a,l[0]?=some a:=⟨_,List.getElem?_eq_getElem (by omega)⟩
    obtain⟨b,hb⟩:∃ b,l[1]?=some b:=⟨_,List.getElem?_eq_getElem (by omega)⟩
    have hlt:=jct h.rise (by omega) ha hb
    have:=(h.size b (List.mem_of_getElem? hb)).1
    rw[show b.l=[]from List.eq_nil_of_length_eq_zero (by show b.1.size=0;omega)]at hlt;exact absurd hlt (not_lt_nil _)
  exact jmL 0 (by omega)
 | succ f ih =>
  intro l h hn;have h0:l.length≠0:=fun e=>hn (List.eq_nil_of_length_eq_zero e)
  by_cases h1:l.length=1
  ·exact jmL (f+1) h1
  have h2:2≤l.length:=by omega
  have hcom:=jbY h h2;have eT:jaI (jad (f+1+1) l)=ja5 (jau (jad (f+1)) l) :: jaK (jaw (jad (f+1)) l):=by
   show jaI (.mk (ja5 (jau (jad (f+1)) l)) (jaw (jad (f+1)) l))=_;rw[jaI]
  by_cases hk:0 < comK l
  ·have hok:jaQ f (jam (comK l) l):=(jcF (comK l) h (fun p hp q hq=>(hcom p hp).1.trans (hcom q hq).1.symm) (fun p hp=>(hcom p hp).2)).mono (by omega)
   have hne:jam (comK l) l≠[]:=fun e=>by have:=jaE (comK l) l;rw[e]at this;simp at this;omega
   have hg:=ih _ hok hne
   obtain⟨_,i2,_⟩:=good f _ hok
   have hst:=i2 hne;have eB:jaw (jad (f+1)) l=jbZ (jad (f+1) (jam (comK l) l)):=by
    unfold jaw;rw[if_neg (by omega),if_pos hk]
   have eN:jau (jad (f+1)) l=⟨2,(l.getD 0 pd).1.extract 0 (comK l),⟨#[]⟩,refB (jad (f+1) (jam (comK l) l)).text :: jax 15⟩:=by unfold jau;rw[if_neg h0,if_neg h1,if_pos hk]
   have hlen:=hg.two (by rw[jaE];omega) (jfX (by omega));rw[jaE]at hlen;have hh:=jhN (jad (f+1) (jam (comK l) l))
   refine⟨by rw[eT,eB,List.length_cons];omega,fun _ hz=>by omega,fun p hp=>?_⟩
   obtain⟨q,hq,e2⟩:=jmx (k:=comK l) hp
   obtain⟨t,ht,hv⟩:=hg.inf q hq
   rw[e2]at hv;rw[eT,eB];rcases hst.inf ht hv with⟨t',ht',hv'⟩ | hv'
   ·exact⟨t',List.mem_cons_of_mem _ ht',hv'⟩
   ·refine⟨_,List.mem_cons_self,hv'.trans ?_⟩
    have:ja5 (jau (jad (f+1)) l)=extB (jau (jad (f+1)) l):=by rw[eN];rfl
    rw[this,eN];unfold extB;exact jg9 (by simp)
  ·have hkid:∀ i,(cutL i l).length≠0→jam 1 (cutL i l)≠[]:=fun i hi e=>by have:=jaE 1 (cutL i l);rw[e]at this;simp at this;omega
   have hg:∀ i,(cutL i l).length≠0→jtS (jad (f+1) (jam 1 (cutL i l))) (jam 1 (cutL i l)):=fun i hi=>ih _ (jei i h) (hkid i hi);have hst:∀ i,(cutL i l).length≠0→jeE f (jad (f+1) (jam 1 (cutL i l))) (jau (jad f) (jam 1 (cutL i l))):=fun i hi=>(good f _ (jei i h)).2.1 (hkid i hi);have eB:jaw (jad (f+1)) l=ksK (jad (f+1)) l 16:=by
    unfold jaw;rw[if_neg (by omega),if_neg hk];rfl
   obtain⟨a,ha⟩:∃ a,l[0]?=some a:=⟨_,List.getElem?_eq_getElem (by omega)⟩
   obtain⟨b,hb⟩:∃ b,l[l.length - 1]?=some b:=⟨_,List.getElem?_eq_getElem (by omega)⟩
   have ga:l.getD 0 pd=a:=by rw[List.getD_eq_getElem?_getD,ha];rfl
   have gb:l.getD (l.length - 1) pd=b:=by rw[List.getD_eq_getElem?_getD,hb];rfl
   have ham:=List.mem_of_getElem? ha;have hbm:=List.mem_of_getElem? hb;have hlt:=jct h.rise (by omega) ha hb
   obtain⟨rs,hrs⟩:∃ rs,rs=(List.range 16).map fun i=>if (cutL i l).length=0 then (⟨#[]⟩:ByteArray)else refB (jad (f+1) (jam 1 (cutL i l))).text:=⟨_,rfl⟩
   have eN:jau (jad (f+1)) l=⟨3,⟨#[]⟩,if a.1.size=0 then a.2 else ⟨#[]⟩,rs⟩:=by unfold jau;rw[if_neg h0,if_neg h1,if_neg hk,ga,hrs]
   have hlen:(jaK (jaw (jad (f+1)) l)).length+4≤3 * l.length:=by
    rw[eB];have hks:=jqb (jad (f+1)) l (fun i hi=>by have:=(hg i hi).all;rwa [jaE]at this) 16;have hkc:jbl a.l b.l=0:=by have:comK l=jbl a.l b.l:=(by unfold comK jap;rw[ga,gb]);omega
    cases hbl:b.l with
    | nil=>rw[hbl]at hlt;exact absurd hlt (not_lt_nil _)
    | cons y t =>
     have hy:=jeW (h.size b hbm).2.2.1 hbl;have cb:=jfI hbm hbl;cases hal:a.l with
     | nil =>
      have:=jj8 ⟨a,ham,hal⟩ 16
      have:=jhR cb hy
      omega
     | cons x r =>
      have hx:=jeW (h.size a ham).2.2.1 hal;have ca:=jfI ham hal;have hxy:x≠y:=by
       intro e;rw[hal,hbl,e]at hkc;simp[jbl]at hkc
      have hne:x.toNat≠y.toNat:=fun e=>hxy (UInt8.toNat_inj.1 e)
      have:=jeN l 16
      have:2≤jdv l 16:=by
       rcases Nat.lt_or_ge x.toNat y.toNat with e | e
       ·exact jgg ca cb e hy
       ·exact jgg cb ca (by omega) hx
      omega
   refine⟨by rw[eT,List.length_cons];omega,fun _ _=>by rw[eT,List.length_cons];omega,fun p hp=>?_⟩
   have hnb:ja5 (jau (jad (f+1)) l)=jeL (jau (jad (f+1)) l):=by rw[eN];rfl
   have hbx:jbP (jau (jad (f+1)) l)=jbK rs (if a.1.size=0 then a.2 else ⟨#[]⟩):=by
    rw[je8 _ (by rw[eN,hrs];simp),eN]
   cases hpl:p.l with
   | nil =>
    have hpa:p=a:=by
     obtain⟨i,hi⟩:=List.getElem?_of_mem hp
     by_cases h00:i=0
     ·subst h00;rw[ha]at hi;exact (Option.some.inj hi).symm
     ·have:=jct h.rise (by omega) ha hi
      rw[hpl]at this;exact absurd this (not_lt_nil _)
    subst hpa;have hz:p.1.size=0:=by show p.1.data.toList.length=0;rw[show p.1.data.toList=[]from hpl];rfl
    rw[eT]
    refine⟨_,List.mem_cons_self,(jmQ p.2).trans ?_⟩
    rw[hnb];unfold jeL;rw[hbx,if_pos hz];refine jg9 ?_;unfold jbK;simp
   | cons x r =>
    have hx:=jeW (h.size p hp).2.2.1 hpl;have hc:=jfI hp hpl
    obtain⟨q,hq,e2⟩:=jmx (k:=1) (jpy hp hpl)
    obtain⟨t,ht,hv⟩:=(hg _ hc).inf q hq
    rw[e2]at hv;rw[eT,eB];rcases (hst _ hc).inf ht hv with⟨t',ht',hv'⟩ | hv'
    ·refine⟨t',List.mem_cons_of_mem _ ?_,hv'⟩
     obtain⟨T',hT',hm'⟩:=jca.1 ht'
     refine jca.2 ⟨T',?_,hm'⟩;unfold ksK;refine List.mem_flatMap.2 ⟨x.toNat,List.mem_range.2 hx,?_⟩;rw[if_neg hc];exact hT'
    ·refine⟨_,List.mem_cons_self,hv'.trans ?_⟩
     rw[hnb];unfold jeL;rw[hbx];refine jg9 ?_;unfold jbK;refine List.mem_append.2 (.inl ?_);have hrm:refB (jad (f+1) (jam 1 (cutL x.toNat l))).text∈rs:=by
      rw[hrs];refine List.mem_map.2 ⟨x.toNat,List.mem_range.2 hx,?_⟩;rw[if_neg hc]
     refine List.mem_map.2 ⟨_,hrm,?_⟩;rw[if_neg (hst _ hc).may.1.pos]
theorem jox{l:List Pair}(h:jaS l=0):(jbf (jaI (jaT l))).length≤1+3 * l.length∧∀ p∈l,∃ t∈jbf (jaI (jaT l)),Inf p.2 t:=by
 by_cases h0:l=[]
 ·subst h0
  refine⟨?_,by simp⟩
  have:=jgB (jaI (jaT []))
  have h1:=jnp (jaM h);simp at h1 ⊢;omega
 ·have hr:=jbR (jaM h)
  have hne:jaP l≠[]:=fun e=>h0 (by unfold jaP at e;simpa using e);have hg:=grow 12 (jaP l) hr hne;have h2:(jaP l).length=l.length:=by unfold jaP;rw[List.length_map]
  have h3:=hg.all;rw[h2]at h3;have h4:=jgB (jaI (jaT l));have h5:jaT l=jad (12+1) (jaP l):=rfl;rw[←h5]at h3
  refine⟨by omega,fun p hp=>?_⟩
  obtain⟨t,ht,hv⟩:=hg.inf _ (List.mem_map_of_mem hp)
  exact⟨t,(jbm _ _).2 ht,hv⟩
end
section
open Go Go.RowKit
attribute [local go_sem] Oper.semAt_some
def jcg(l:List Pair):List ByteArray:=jbf (jaI (jaT l))
theorem jdG{l:List Pair}(h:jaS l=0):(jcg l).length≤121:=by
 have h1:=(jox h).1;have h2:=(jaM h).len;show (jbf (jaI (jaT l))).length≤_;omega
def jtr(l:List Pair)(w:World)(e:Ending)(w':World):Prop:=e=.returned (.tuple #[.pointer none,.string ⟨#[]⟩])∧Ext w w'∧¬(fewB l=true∧jaS l=0∧InjL (jcg l))
def jtT(l:List Pair)(w:World)(e:Ending)(w':World):Prop:=∃ s bm S,e=.returned (.tuple #[.pointer (some ⟨s,0,none⟩),.string (shaB (jaT l).text)])∧Ext w w'∧jas w' s bm 2000 S∧HasM S l∧(∀ k,k∈S.map (·.1)↔∃ t∈jcg l,k=ky t)∧fewB l=true∧InjL (jcg l)
def jxd(l:List Pair)(w:World)(e:Ending)(w':World):Prop:=jtr l w e w'∨jtT l w e w'
end
end Go.Proofs.YtpaacnhboilkkaaGreatDoor
