/- Parts of the proof, one behind the other: RefSk, RefSl, RefSm, CanonKt, CanonP, CanonQ, ShaG, MixF, Clash2. Each is under no condition but those that it states. -/
import Derived.Test.YtcpnjmcipainpaaGreatDoorPb27
import Derived.Test.YtcpnjmcipainpaaGreatDoorPb22
import Derived.Test.YtcpnjmcipainpaaGreatDoorPb24
import Derived.Test.YtcpnjmcipainpaaGreatDoorPb13
import Derived.Test.YtcpnjmcipainpaaGreatDoorPb5
namespace Go.Proofs.YtcpnjmcipainpaaGreatDoor
set_option linter.unusedSimpArgs false
set_option linter.unusedVariables false
set_option maxRecDepth 100000
set_option maxHeartbeats 16000000
section
open Go Go.RowKit
attribute [local go_sem] Oper.semAt_some
theorem Tryz.sParts5:jcw Tryz.prog 200 22 1 24:=jcw.mk' (z:=.slice none 0 0) (by kernel_rfl) (by kernel_rfl) rfl (by decide)
def jgn(w wr:World)(pv:Value)(ps:List (List Pair)):Prop:=∃ vals:List Value,vals.length=ps.length∧ORow 22 1 w wr pv ps.length vals∧∀ (j:Nat) p,ps[j]?=some p→∃ val,vals[j]?=some val∧ERow w wr val p.length p
theorem ORow.back{T:TypeId}{sz:Nat}{w0 w1 w:World}{v:Value}{n:Nat}{xs:List Value}(h:ORow T sz w1 w v n xs)(e:Ext w0 w1):ORow T sz w0 w v n xs:=⟨h.sl,h.own,e.trans h.ext,fun b hb=>Nat.le_trans e.size (h.new b hb)⟩
theorem jkb{w:World}{B B':Nat}{T T':TypeId}{sz sz':Nat}{v v':Value}{n n':Nat}{xs xs':List Value}(h:w.ownsRow B T sz v n xs)(k:w.ownsRow B' T' sz' v' n' xs')(hT:T≠T'):∀ b,v.ownBlock=some b→¬ v'.ownBlock=some b:=by
 intro b hb hb'
 obtain⟨_,h2 |⟨g,cap,cur,h2,_,h4,_⟩⟩:=h
 ·rw[h2.1]at hb;cases hb
 obtain⟨_,k2 |⟨g',cap',cur',k2,_,k4,_⟩⟩:=k
 ·rw[k2.1]at hb';cases hb'
 rw[h2]at hb;rw[k2]at hb';have e:some g=some b:=hb;have e':some g'=some b:=hb';obtain rfl:=Option.some.inj e;obtain rfl:=Option.some.inj e'
 have:=Blk.uniq h4 k4
 injection this with _ e _;exact hT e
theorem jgn.add{w W W':World}{pv v' val:Value}{ps:List (List Pair)}{q:List Pair}{vals:List Value}(h1:vals.length=ps.length)(h2:ORow 22 1 w W pv ps.length vals)(h3:∀ (j:Nat) p,ps[j]?=some p→∃ val,vals[j]?=some val∧ERow w W val p.length p)(hq:ERow w W val q.length q)
  (r1:ORow 22 1 w W' v' (ps.length+1) (vals++[val])) (r2:jah (fun b=>pv.ownBlock=some b) W W'):jgn w W' v' (ps++[q]):=by
 have keep:∀ {u:Value} {p:List Pair},ERow w W u p.length p→ERow w W' u p.length p:=fun {u p} h=>⟨h.sl,jbj h.own r2 (fun b hb e=>jkb h2.own h.own (by decide) b e hb),r1.ext,h.new⟩
 refine⟨vals++[val],by simp[h1],by simpa [List.length_append]using r1,fun j p hj=>?_⟩
 by_cases hlt:j < ps.length
 ·rw[List.getElem?_append_left hlt]at hj
  obtain⟨u,hu,hE⟩:=h3 j p hj
  exact⟨u,by rw[List.getElem?_append_left (by omega)];exact hu,keep hE⟩
 ·rw[List.getElem?_append_right (by omega)]at hj
  have hj0:j - ps.length=0:=by
   have:=(List.getElem?_eq_some_iff.1 hj).1
   simp at this;omega
  rw[hj0]at hj;obtain rfl:=Option.some.inj hj
  exact⟨val,by rw[List.getElem?_append_right (by omega),h1,hj0];rfl,keep hq⟩
theorem jcW{w4 w6 w7:World}{v v':Value}(k:jah (fun b=>v.ownBlock=some b) w4 w6)(o:v'.ownBlock=v.ownBlock∨∀ b,v'.ownBlock=some b→w4.heap.size≤b)(k7:jah (fun b=>v'.ownBlock=some b) w6 w7):jah (fun b=>v.ownBlock=some b) w4 w7:=
 k.trans' k7 fun x hx e=>o.elim (fun h=>h ▸ e) fun h=>by have:=h x e;omega
theorem jel{w4 w6:World}{v v' u:Value}(o:v'.ownBlock=v.ownBlock∨∀ b,v'.ownBlock=some b→w4.heap.size≤b)(hz:w4.heap.size≤w6.heap.size)(o7:u.ownBlock=v'.ownBlock∨∀ b,u.ownBlock=some b→w6.heap.size≤b):u.ownBlock=v.ownBlock∨∀ b,u.ownBlock=some b→w4.heap.size≤b:=by
 rcases o7 with h | h
 ·rw[h];exact o
 ·exact .inr fun b hb=>Nat.le_trans hz (h b hb)
def Bl5R(w0 wP:World)(v:Value)(ps:List (List Pair))(f:Nat)(acc:List ByteArray)(ov iv sv:Value)(wr:World):Prop:=∃ k n':Nat,k≤ps.length∧iv=.int .i64 k∧SRow w0 wr ov n' ((ps.take k).foldl (jcm f) acc)∧jah (fun b=>v.ownBlock=some b) wP wr∧(ov.ownBlock=v.ownBlock∨∀ b,ov.ownBlock=some b→wP.heap.size≤b)
theorem jkY(f:Nat)(l:List Pair)(h2:2≤l.length)(hln:l.length≤1000)(hok:jaT (f+1) l)(hk:0 < comK l)(hB:jgm (jaC (comK l) l) (jaf f)):jgm l (jaf (f+1)):=by
 intro w0 w lv v n acc hv hR hacc;have HV:=Hd hv;have HO:=Hd hok;have HK0:=Hd hk;have hcf:=jet hok h2;have HUN:=Hd (jhd hok h2);have hall:=jbJ hok h2;have HSZ:=Hd (show ∀ p∈l,p.1.size≤1000000 from fun p hp=>Nat.le_trans (hok.size p hp).2.1 (by decide));have hps:((l.getD 0 pd).1.extract 0 (comK l)).size=comK l∧comK l≤12:=by
  have hm0:l.getD 0 pd∈l:=by
   rw[List.getD_eq_getElem?_getD,List.getElem?_eq_getElem (by omega)];exact List.getElem_mem _
  have h1:=(hall _ hm0).2;have h3:=(hok.size _ hm0).2.1;rw[ByteArray.size_extract];omega
 have hbp:=jgu hok h2 acc;have hco:=fun W (e:Ext w W)=>jgb W lv l (hv.ext e) (fun e=>by rw[e]at h2;simp at h2) (by omega) HSZ.o;rw[hcf]at hco
 obtain⟨p,hp⟩:∃ p,p=(l.getD 0 pd).1.extract 0 (comK l):=⟨_,rfl⟩
 rw[←hp]at HUN hps hco;have HPZ:=Hd (show 0 < p.size∧p.size≤12 by omega);have HCO:=Hd hco;have HR:=Hd hR
 obtain⟨T,hT⟩:∃ T,T=belF (jaf (f+1)) l acc:=⟨_,rfl⟩
 rw[←hT]at hbp ⊢;rw[jh0 h2]at hacc;have hpn:∀ q∈jcO l,q.length≠0→jaT f q∧q.length≤1000∧jgm q (jaf f):=fun q hq h0=>by
  unfold jcO at hq;rw[if_pos hk]at hq;rw[List.mem_singleton.1 hq]
  exact⟨jeu hok h2 hk,by rw[jbD];exact hln,hB⟩
 obtain⟨ps,hps2⟩:∃ ps,ps=jcO l:=⟨_,rfl⟩
 rw[←hps2]at hbp hacc hpn;have HBP:=Hd hbp;have HCS:=Hd hacc;have HPN:=Hd hpn;have HPS:=Hd (show ps=[jaC (comK l) l] by rw[hps2];unfold jcO;rw[if_pos hk])
 obtain⟨a0,c0,hsl⟩:=hv.sl
 subst hsl
 obtain⟨a1,c1,hsl⟩:=hR.sl
 subst hsl;have g0:¬(l.length:Int) < 2:=by omega
 have hpe:p.toList.isEmpty=false:=by
  rw[ByteArray.toList_eq];cases h:p.data.toList with
  | nil=>have:=HPZ.o.1;have e:p.data.toList.length=p.size:=rfl;rw[h]at e;simp at e;omega
  | cons=>rfl
 clear hv hok hall hps hp hk hR hT hbp hco hcf hacc hpn hps2 hB;go_enter Tryz.func88,Tryz.ntmps88;go_wp2_with fail
 refine (HCO.o w (ExtR w)).mono ?_;rintro e w2 ⟨rfl,hE⟩;have HE2:=Hd hE;clear hE;go_wp2_with fail
 refine (jeD w2 _ l p (HV.o.ext HE2.o) (by omega) HSZ.o (by have:=HPZ.o.2;omega)).mono ?_;rintro e w3 ⟨u,rfl,hU⟩;rw[HUN.o]at hU
 obtain⟨l',hl'⟩:∃ l',l'=jaC (comK l) l:=⟨_,rfl⟩
 rw[←hl']at hU HPS;have HLL:=Hd (show l'.length=l.length by rw[hl',jbD])
 obtain⟨a5,c5,rfl⟩:=hU.sl
 have HU:=Hd hU;have HX3:=Hd (HE2.o.trans hU.ext);clear hU hl';go_wp2_with (at_builtin;refine jaZ Tryz.sParts5 ((ORow.nil _ _ HX3.o).mono ((ExtR w3).alloc _)) (.tmp 18) (.tmp 22) rfl rfl rfl (jaS (Blk.new w3 _)) (news:=[.slice a5 l'.length c5]) (by intro u hu;simp at hu;rw[hu];rfl) rfl rfl (by unfold maxLen;have:=HLL.o;omega) (by omega) (fun v' w4 r1 r2 r3=>?_);obtain⟨a6,c6,hv6⟩:=r1.sl;subst hv6)
 have hX3a:=(ExtR w3).alloc (.cells [Value.slice a5 l'.length c5].toArray 22);have HP4:=Hd (show jgn w w4 (.slice a6 (0+1) c6) ps from by
  rw[HPS.o];exact jgn.add (vals:=[]) (ps:=[]) rfl ((ORow.nil _ _ HX3.o).mono hX3a) (fun j p hj=>by simp at hj) (ORow.mono (ORow.back HU.o HE2.o) hX3a) r1 r2)
 have HR4:=Hd (HR.o.mono (HP4.o.choose_spec.2.1.ext));clear r1 r2 r3 hX3a;have hpl:ps.length=0+1:=by rw[HPS.o];rfl
 rw[←hpl]at HP4;rw[show (Value.slice a6 1 c6)=.slice a6 ps.length c6 by rw[hpl]];have hpp:0 < ps.length∧ps.length≤16:=by omega
 clear hpl HU HX3 HE2
 obtain⟨vals,hv1,hv2,hv3⟩:=HP4.o
 obtain⟨_,⟨h3,h4⟩ |⟨g,cap,cur,h3,_⟩⟩:=hv2.own
 ·exfalso
  have e:([]:List Value).length=0:=rfl;rw[h4]at hv1;omega
 obtain⟨rfl,_,rfl⟩:=Value.slice.inj h3
 have HVC:=Hd (show ∀ (j:Nat) u,vals[j]?=some u→w4.cell? ⟨g,j,none⟩=some u from fun j u hj=>by
  have h:=World.ownsRow.cells (g:=g) hv2.own rfl j u hj
  rwa [Addr.add_lit,Nat.zero_add]at h)
 have HVG:=Hd (hv2.new g rfl);have HVL:=Hd (And.intro hv1 (And.intro hv2 hv3));have HX4:=Hd hv2.ext;clear HP4 hv1 hv2 hv3;go_wp2_with fail
 go_loopw [1,8,9] (fun ov iv sv wr=>Bl5R w0 w4 (.slice a1 n c1) ps f acc ov iv sv wr) (fun _ iv _ _=>ps.length - (intOf iv).toNat)
 case atStart=>exact⟨0,n,Nat.zero_le _,rfl,HR4.o,jah.refl _ _,.inl rfl⟩
 case round =>
  obtain⟨k,n',hk,rfl,hR,hK,hO⟩:=hrel
  have HR':=Hd hR;have HK:=Hd (And.intro hK hO)
  obtain⟨ao,co,hsl⟩:=hR.sl
  subst hsl;clear hR hK hO
  by_cases hlt:k < ps.length
  ·have b1:(k:Int) < (ps.length:Int):=by omega
   obtain⟨q,hq⟩:∃ q,ps[k]?=some q:=⟨_,List.getElem?_eq_getElem hlt⟩
   have HQ:=Hd hq
   obtain⟨val,hval,hE⟩:=HVL.o.2.2 k q hq
   obtain⟨a7,c7,hsl⟩:=hE.sl
   subst hsl;have NB:=Hd (show ∀ b,w.heap.size≤b→¬(Value.slice a1 n c1).ownBlock=some b from fun b hb e=>by have:=HR.o.lt b e;omega);have q1:wr.cell? ⟨g,k,none⟩=some (.slice a7 q.length c7):=jaw (HVC.o k _ hval) HK.o.1 (NB.o g HVG.o);have hrq:∀ W,jah (fun b=>(Value.slice a1 n c1).ownBlock=some b) w4 W→RdP W (.slice a7 q.length c7) q:=fun W kW=>by
    rcases ERow.rd hE with h |⟨b,o,c1,hh,hb,hc,hcell⟩
    ·exact .inl h
    ·cases hh
     have nb:=NB.o b (hE.new b rfl);exact .inr ⟨b,o,_,rfl,Nat.lt_of_lt_of_le hb kW.size,hc,fun j x hx=>⟨jaw (hcell j x hx).1 kW nb,jaw (hcell j x hx).2 kW nb⟩⟩
   have HRQ:=Hd hrq;clear hrq hE hval hq;have hst:(ps.take (k+1)).foldl (jcm f) acc=jcm f ((ps.take k).foldl (jcm f) acc) q:=by rw[List.take_add_one,HQ.o,List.foldl_append];rfl
   have hcal:=jd6 (f:=f) (ps.take k) acc (fun x hx h0=>(HPN.o x (List.mem_of_mem_take hx) h0).1);have hcat:=jeJ (f:=f) ps k q HQ.o
   obtain⟨A,hA⟩:∃ A,A=(ps.take k).foldl (jcm f) acc:=⟨_,rfl⟩
   rw[←hA]at HR' hst hcal;have HST:=Hd hst;have HCAL:=Hd (show A.length+cstP f q≤900000 by have:=HCS.o;omega);clear hst hcal hcat hA
   by_cases hq0:q.length=0
   ·have g5:(q.length:Int)=0:=by omega
    have HQ0:=Hd hq0;clear hq0;go_wp2_with fail
    go_roundw
    case rel=>exact⟨k+1,n',by omega,by go_num,by rw[HST.o];unfold jcm;rw[if_pos HQ0.o];exact HR'.o,HK.o⟩
    case measure=>simp[intOf];omega
   ·have g5:¬(q.length:Int)=0:=by omega
    obtain⟨ho1,ho2,ho3⟩:=HPN.o q (List.mem_of_getElem? HQ.o) hq0
    have HBY:=Hd (jc2 f q (jiQ f q ho1 ho2) ho1 wr _ (HRQ.o wr HK.o.1));have HB3:=Hd ho3;have HCC:=Hd (jeI ho1 hq0 A);have HSP:=Hd (show jcm f A q=belF (jaf f) q (addT A (jaf (f+1) q).text) by unfold jcm;rw[if_neg hq0])
    obtain⟨t,ht⟩:∃ t,t=(jaf (f+1) q).text:=⟨_,rfl⟩
    rw[←ht]at HBY HSP HCC;clear ho1 ho2 ho3 hq0 ht;go_wp2_with fail
    refine HBY.o.mono ?_;rintro e w5 ⟨rfl,hE⟩;have HR5:=Hd (HR'.o.mono hE);have HK5:=Hd (show jah (fun b=>(Value.slice a1 n c1).ownBlock=some b) w4 w5 from HK.o.1.trans (hE.mono fun _ _ h=>h.elim));have q1:=jab q1 hE;have HO5:=Hd HK.o.2;clear hE
    by_cases h32:32≤t.size
    ·have g6:(32:Int)≤(t.size:Int):=by omega
     have HT:=Hd h32;clear h32;go_wp2_with fail
     refine (in_c w5 _ A t (SRow.rd HR5.o) (by have:=HCAL.o;omega)).mono ?_;rintro e w6 ⟨rfl,hE⟩;have HR6:=Hd (HR5.o.mono hE);have HK6:=Hd (show jah (fun b=>(Value.slice a1 n c1).ownBlock=some b) w4 w6 from HK5.o.trans (hE.mono fun _ _ h=>h.elim));have q1:=jab q1 hE;clear hE;cases hi:inB A t with
     | true =>
      have hA:addT A t=A:=by unfold addT addF;rw[if_pos HT.o,if_pos (show memB A t=true from hi)]
      rw[hA]at HCC HSP;clear hi hA;go_wp2_with fail
      refine (HB3.o w0 _ _ _ n' A (HRQ.o _ HK6.o) HR6.o (by have:=HCC.o;have:=HCAL.o;omega)).mono ?_;rintro e w7 ⟨u,n7,rfl,hR7,hK7,hO7⟩
      obtain⟨a8,c8,rfl⟩:=hR7.sl
      have HR7:=Hd hR7;have HK7:=Hd (And.intro (jcW HK6.o HO5.o hK7) (jel HO5.o HK6.o.size hO7));clear hR7 hK7 hO7;go_wp2_with fail
      go_roundw
      case rel=>exact⟨k+1,n7,by omega,by go_num,by rw[HST.o,HSP.o];exact HR7.o,HK7.o⟩
      case measure=>simp[intOf];omega
     | false =>
      have hA:addT A t=A++[t]:=by unfold addT addF;rw[if_pos HT.o,if_neg (by rw[show memB A t=inB A t from rfl,hi];simp)]
      rw[hA]at HCC HSP;clear hi hA
      obtain⟨A2,hA2⟩:∃ A2,A2=A++[t]:=⟨_,rfl⟩
      have HA2:=Hd hA2;rw[←hA2]at HCC HSP;clear hA2;have HN':=Hd (show n'=A.length from by have:=HR6.o.own.1;simp at this;omega);have hn9:n'≤900000:=by have:=HCAL.o;have:=HN'.o;omega
      go_wp2_with (at_builtin;refine jaZ Tryz.sStrs (HR6.o.mono ((ExtR w6).alloc _)) (.tmp 63) (.tmp 65) rfl rfl rfl (jaS (Blk.new w6 _)) (news:=[.string t]) (by intro u hu;simp at hu;rw[hu];rfl) rfl rfl (by unfold maxLen;omega) (by omega) (fun v8 w8 r1 r2 r3=>?_);obtain⟨a8,c8,rfl⟩:=r1.sl;have HR8:=Hd (show SRow w0 w8 (.slice a8 (n'+1) c8) (n'+1) A2 by rw[HA2.o];unfold SRow;rw[List.map_append];exact r1);have HK8:=Hd (And.intro (jcW (HK6.o.trans (((ExtR w6).alloc _).mono fun _ _ h=>h.elim)) HO5.o r2) (jel HO5.o (Nat.le_trans HK6.o.size ((ExtR w6).alloc _).size) r3));have q1:=jaw (jab q1 ((ExtR w6).alloc _)) r2 (fun e=>by rcases HO5.o with h | h;exact NB.o g HVG.o (h ▸ e);have:=h g e;have:=HVL.o.2.1.lt g rfl;omega);clear r1 r2 r3)
      have hA2l:A2.length=A.length+1:=by rw[HA2.o];simp
      refine (HB3.o w0 _ _ _ (n'+1) A2 (HRQ.o _ HK8.o.1) HR8.o (by have:=HCC.o;have:=HCAL.o;omega)).mono ?_;rintro e w7 ⟨u,n7,rfl,hR7,hK7,hO7⟩
      obtain⟨a8,c8,rfl⟩:=hR7.sl
      have HR7:=Hd hR7;have HK7:=Hd (And.intro (jcW HK8.o.1 HK8.o.2 hK7) (jel HK8.o.2 HK8.o.1.size hO7));clear hR7 hK7 hO7 hA2l;go_wp2_with fail
      go_roundw
      case rel=>exact⟨k+1,n7,by omega,by go_num,by rw[HST.o,HSP.o];exact HR7.o,HK7.o⟩
      case measure=>simp[intOf];omega
    ·have g6:¬(32:Int)≤(t.size:Int):=by omega
     have hA:addT A t=A:=by unfold addT;rw[if_neg h32]
     rw[hA]at HCC HSP;clear hA h32;go_wp2_with fail
     refine (HB3.o w0 _ _ _ n' A (HRQ.o _ HK5.o) HR5.o (by have:=HCC.o;have:=HCAL.o;omega)).mono ?_;rintro e w7 ⟨u,n7,rfl,hR7,hK7,hO7⟩
     obtain⟨a8,c8,rfl⟩:=hR7.sl
     have HR7:=Hd hR7;have HK7:=Hd (And.intro (jcW HK5.o HO5.o hK7) (jel HO5.o HK5.o.size hO7));clear hR7 hK7 hO7;go_wp2_with fail
     go_roundw
     case rel=>exact⟨k+1,n7,by omega,by go_num,by rw[HST.o,HSP.o];exact HR7.o,HK7.o⟩
     case measure=>simp[intOf];omega
  ·have hkl:k=ps.length:=by omega
   subst hkl;rw[List.take_length]at HR';go_wp2_with fail
   go_ret
   refine⟨_,n',rfl,?_,?_,?_⟩
   ·rw[HBP.o];exact HR'.o
   ·exact (HX4.o.mono fun _ _ h=>h.elim).trans HK.o.1
   ·rcases HK.o.2 with h | h
    ·exact .inl h
    ·exact .inr fun b hb=>Nat.le_trans HX4.o.size (h b hb)
def jc1(l:List Pair):List (List Pair):=(List.range 16).map fun i=>jaC 1 (cutL i l)
theorem jhC{l:List Pair}{i:Nat}(h:i < 16):(jc1 l).take (i+1)=(jc1 l).take i++[jaC 1 (cutL i l)]:=by
 rw[List.take_add_one]
 congr 1
 unfold jc1;rw[List.getElem?_map,List.getElem?_range h];rfl
def BpR(w:World)(l:List Pair)(pv iv:Value)(wr:World):Prop:=∃ i:Nat,i≤16∧iv=.int .i64 i∧jgn w wr pv ((jc1 l).take i)
theorem jhl(f:Nat)(l:List Pair)(h2:2≤l.length)(hln:l.length≤1000)(hok:jaT (f+1) l)(hk:¬ 0 < comK l)(hB:∀ i,(cutL i l).length≠0→jgm (jaC 1 (cutL i l)) (jaf f)):jgm l (jaf (f+1)):=by
 intro w0 w lv v n acc hv hR hacc;have HV:=Hd hv;have hcf:=jet hok h2;rw[show comK l=0 by omega,show (l.getD 0 pd).1.extract 0 0=⟨#[]⟩from jdj (by rw[jbE];rfl)]at hcf;have HSZ:=Hd (show ∀ p∈l,p.1.size≤1000000 from fun p hp=>Nat.le_trans (hok.size p hp).2.1 (by decide));have hbp:=jgu hok h2 acc;have hco:=fun W (e:Ext w W)=>jgb W lv l (hv.ext e) (fun e=>by rw[e]at h2;simp at h2) (by omega) HSZ.o;rw[hcf]at hco;have HCO:=Hd hco;have HR:=Hd hR
 obtain⟨T,hT⟩:∃ T,T=belF (jaf (f+1)) l acc:=⟨_,rfl⟩
 rw[←hT]at hbp ⊢;rw[jh0 h2]at hacc;have hpn:∀ q∈jcO l,q.length≠0→jaT f q∧q.length≤1000∧jgm q (jaf f):=fun q hq h0=>by
  unfold jcO at hq;rw[if_neg hk]at hq
  obtain⟨i,_,rfl⟩:=List.mem_map.1 hq
  rw[jbD]at h0
  exact⟨jeo i hok,by rw[jbD];exact Nat.le_trans (List.length_filter_le _ _) hln,hB i h0⟩
 obtain⟨ps,hps2⟩:∃ ps,ps=jcO l:=⟨_,rfl⟩
 rw[←hps2]at hbp hacc hpn;have HBP:=Hd hbp;have HCS:=Hd hacc;have HPN:=Hd hpn;have HPS:=Hd (show ps=jc1 l by rw[hps2];unfold jcO jc1;rw[if_neg hk])
 obtain⟨a0,c0,hsl⟩:=hv.sl
 subst hsl
 obtain⟨a1,c1,hsl⟩:=hR.sl
 subst hsl;have g0:¬(l.length:Int) < 2:=by omega
 have hpe:(⟨#[]⟩:ByteArray).toList.isEmpty=true:=by rw[ByteArray.toList_eq];rfl
 clear hv hok hk hR hT hbp hco hcf hacc hpn hps2 hB;go_enter Tryz.func88,Tryz.ntmps88;go_wp2_with fail
 refine (HCO.o w (ExtR w)).mono ?_;rintro e w2 ⟨rfl,hE⟩;have HE2:=Hd hE;clear hE;go_wp2_with fail
 go_loopw [5,7] (fun pv iv wr=>BpR w l pv iv wr) (fun _ iv _=>16 - (intOf iv).toNat)
 case atStart=>exact⟨0,Nat.zero_le _,rfl,[],rfl,ORow.nil _ _ HE2.o,fun j p hj=>by simp at hj⟩
 case round =>
  obtain⟨i,hi,rfl,vals,hv1,hv2,hv3⟩:=hrel
  have HV3:=Hd (And.intro hv1 (And.intro hv2 hv3))
  obtain⟨a6,c6,hsl⟩:=hv2.sl
  subst hsl;clear hv1 hv2 hv3
  by_cases hi16:i < 16
  ·have b3:(i:Int) < 16:=by omega
   obtain⟨bi,hbi⟩:∃ bi:UInt8,bi=i.toUInt8:=⟨_,rfl⟩
   have hbn:bi.toNat=i:=by rw[hbi];simp;omega
   have hcv:=jbo wr bi;rw[hbn]at hcv;have HUC:=Hd (jhe i (by omega) l);rw[←hbi]at HUC;have HPT:=Hd (jhC (l:=l) hi16)
   obtain⟨pi,hpi⟩:∃ pi,pi=(jc1 l).take i:=⟨_,rfl⟩
   rw[←hpi]at HV3 HPT ⊢;have HPI:=Hd (show pi.length=i by rw[hpi];unfold jc1;rw[List.length_take];simp;omega);have HX2:=Hd (HV3.o.2.1.ext);rw[HPI.o]at HV3 ⊢;clear hbi hbn hpi;go_wp2_with fail
   obtain⟨w4,hw4⟩:∃ w4,w4=wr.alloc (.cells #[.int .u8 (i:Int)] 5):=⟨_,rfl⟩
   have HX34:=Hd (show Ext wr w4 by rw[hw4];exact (ExtR wr).alloc _);rw[←hw4];clear hcv hw4;refine (jeD w4 _ l ⟨#[bi]⟩ (HV.o.ext (HX2.o.trans HX34.o)) (by omega) HSZ.o (by show 1≤1000000;decide)).mono ?_;rintro e w5 ⟨u,rfl,hU⟩;rw[HUC.o]at hU
   obtain⟨l',hl'⟩:∃ l',l'=jaC 1 (cutL i l):=⟨_,rfl⟩
   have HLL:=Hd (show l'.length≤1000 by rw[hl',jbD];exact Nat.le_trans (List.length_filter_le _ _) hln);rw[←hl']at hU HPT
   obtain⟨a5,c5,rfl⟩:=hU.sl
   have HU:=Hd hU;have HX35:=Hd (HX34.o.trans hU.ext);clear hU hl';have hx5:=HX35.o.trans ((ExtR w5).alloc (.cells [Value.slice a5 l'.length c5].toArray 22));have HX5:=Hd hx5;clear hx5;go_wp2_with (at_builtin;refine jaZ Tryz.sParts5 (ORow.mono HV3.o.2.1 HX5.o) (.tmp 28) (.tmp 35) rfl rfl rfl (jaS (Blk.new w5 _)) (news:=[.slice a5 l'.length c5]) (by intro u hu;simp at hu;rw[hu];rfl) rfl rfl (by unfold maxLen;omega) (by omega) (fun v' w6 r1 r2 r3=>?_);obtain⟨a8,c8,rfl⟩:=r1.sl)
   have HP6:=Hd (show jgn w w6 (.slice a8 (i+1) c8) (pi++[l'])from jgn.add (pv:=.slice a6 i c6) (by rw[HPI.o];exact HV3.o.1) (by rw[HPI.o];exact ORow.mono HV3.o.2.1 HX5.o) (fun j p hj=>by
    obtain⟨u,hu,hE⟩:=HV3.o.2.2 j p hj
    exact⟨u,hu,ORow.mono hE HX5.o⟩) (ORow.mono (ORow.back HU.o (HX2.o.trans HX34.o)) ((ExtR w5).alloc _)) (by rw[HPI.o];exact r1) r2)
   clear r1 r2 r3;go_roundw
   case rel=>exact⟨i+1,by omega,by go_num,by rw[HPT.o];exact HP6.o⟩
   case measure=>simp[intOf];omega
  ·have hi':i=16:=by omega
   subst hi';have hpe2:(jc1 l).take 16=ps:=by rw[HPS.o];exact List.take_of_length_le (by unfold jc1;simp)
   have hpl:ps.length=16:=by rw[HPS.o];unfold jc1;simp
   rw[hpe2]at HV3 ⊢;have HP4:=Hd (show jgn w wr (.slice a6 ps.length c6) ps from⟨vals,HV3.o⟩);clear HV3 hpe2
   rename World=>w4
   have HR4:=Hd (HR.o.mono (HP4.o.choose_spec.2.1.ext));have hpp:0 < ps.length∧ps.length≤16:=by omega
   clear hpl hi16 hi HE2
   obtain⟨vals,hv1,hv2,hv3⟩:=HP4.o
   obtain⟨_,⟨h3,h4⟩ |⟨g,cap,cur,h3,_⟩⟩:=hv2.own
   ·exfalso
    have e:([]:List Value).length=0:=rfl;rw[h4]at hv1;omega
   obtain⟨rfl,_,rfl⟩:=Value.slice.inj h3
   have HVC:=Hd (show ∀ (j:Nat) u,vals[j]?=some u→w4.cell? ⟨g,j,none⟩=some u from fun j u hj=>by
    have h:=World.ownsRow.cells (g:=g) hv2.own rfl j u hj
    rwa [Addr.add_lit,Nat.zero_add]at h)
   have HVG:=Hd (hv2.new g rfl);have HVL:=Hd (And.intro hv1 (And.intro hv2 hv3));have HX4:=Hd hv2.ext;clear HP4 hv1 hv2 hv3;go_wp2_with fail
   go_loopw [1,8,9] (fun ov iv sv wr=>Bl5R w0 w4 (.slice a1 n c1) ps f acc ov iv sv wr) (fun _ iv _ _=>ps.length - (intOf iv).toNat)
   case atStart=>exact⟨0,n,Nat.zero_le _,rfl,HR4.o,jah.refl _ _,.inl rfl⟩
   case round =>
    obtain⟨k,n',hk,rfl,hR,hK,hO⟩:=hrel
    have HR':=Hd hR;have HK:=Hd (And.intro hK hO)
    obtain⟨ao,co,hsl⟩:=hR.sl
    subst hsl;clear hR hK hO
    by_cases hlt:k < ps.length
    ·have b1:(k:Int) < (ps.length:Int):=by omega
     obtain⟨q,hq⟩:∃ q,ps[k]?=some q:=⟨_,List.getElem?_eq_getElem hlt⟩
     have HQ:=Hd hq
     obtain⟨val,hval,hE⟩:=HVL.o.2.2 k q hq
     obtain⟨a7,c7,hsl⟩:=hE.sl
     subst hsl;have NB:=Hd (show ∀ b,w.heap.size≤b→¬(Value.slice a1 n c1).ownBlock=some b from fun b hb e=>by have:=HR.o.lt b e;omega);have q1:wr.cell? ⟨g,k,none⟩=some (.slice a7 q.length c7):=jaw (HVC.o k _ hval) HK.o.1 (NB.o g HVG.o);have hrq:∀ W,jah (fun b=>(Value.slice a1 n c1).ownBlock=some b) w4 W→RdP W (.slice a7 q.length c7) q:=fun W kW=>by
      rcases ERow.rd hE with h |⟨b,o,c1,hh,hb,hc,hcell⟩
      ·exact .inl h
      ·cases hh
       have nb:=NB.o b (hE.new b rfl);exact .inr ⟨b,o,_,rfl,Nat.lt_of_lt_of_le hb kW.size,hc,fun j x hx=>⟨jaw (hcell j x hx).1 kW nb,jaw (hcell j x hx).2 kW nb⟩⟩
     have HRQ:=Hd hrq;clear hrq hE hval hq;have hst:(ps.take (k+1)).foldl (jcm f) acc=jcm f ((ps.take k).foldl (jcm f) acc) q:=by rw[List.take_add_one,HQ.o,List.foldl_append];rfl
     have hcal:=jd6 (f:=f) (ps.take k) acc (fun x hx h0=>(HPN.o x (List.mem_of_mem_take hx) h0).1);have hcat:=jeJ (f:=f) ps k q HQ.o
     obtain⟨A,hA⟩:∃ A,A=(ps.take k).foldl (jcm f) acc:=⟨_,rfl⟩
     rw[←hA]at HR' hst hcal;have HST:=Hd hst;have HCAL:=Hd (show A.length+cstP f q≤900000 by have:=HCS.o;omega);clear hst hcal hcat hA
     by_cases hq0:q.length=0
     ·have g5:(q.length:Int)=0:=by omega
      have HQ0:=Hd hq0;clear hq0;go_wp2_with fail
      go_roundw
      case rel=>exact⟨k+1,n',by omega,by go_num,by rw[HST.o];unfold jcm;rw[if_pos HQ0.o];exact HR'.o,HK.o⟩
      case measure=>simp[intOf];omega
     ·have g5:¬(q.length:Int)=0:=by omega
      obtain⟨ho1,ho2,ho3⟩:=HPN.o q (List.mem_of_getElem? HQ.o) hq0
      have HBY:=Hd (jc2 f q (jiQ f q ho1 ho2) ho1 wr _ (HRQ.o wr HK.o.1));have HB3:=Hd ho3;have HCC:=Hd (jeI ho1 hq0 A);have HSP:=Hd (show jcm f A q=belF (jaf f) q (addT A (jaf (f+1) q).text) by unfold jcm;rw[if_neg hq0])
      obtain⟨t,ht⟩:∃ t,t=(jaf (f+1) q).text:=⟨_,rfl⟩
      rw[←ht]at HBY HSP HCC;clear ho1 ho2 ho3 hq0 ht;go_wp2_with fail
      refine HBY.o.mono ?_;rintro e w5 ⟨rfl,hE⟩;have HR5:=Hd (HR'.o.mono hE);have HK5:=Hd (show jah (fun b=>(Value.slice a1 n c1).ownBlock=some b) w4 w5 from HK.o.1.trans (hE.mono fun _ _ h=>h.elim));have q1:=jab q1 hE;have HO5:=Hd HK.o.2;clear hE
      by_cases h32:32≤t.size
      ·have g6:(32:Int)≤(t.size:Int):=by omega
       have HT:=Hd h32;clear h32;go_wp2_with fail
       refine (in_c w5 _ A t (SRow.rd HR5.o) (by have:=HCAL.o;omega)).mono ?_;rintro e w6 ⟨rfl,hE⟩;have HR6:=Hd (HR5.o.mono hE);have HK6:=Hd (show jah (fun b=>(Value.slice a1 n c1).ownBlock=some b) w4 w6 from HK5.o.trans (hE.mono fun _ _ h=>h.elim));have q1:=jab q1 hE;clear hE;cases hi:inB A t with
       | true =>
        have hA:addT A t=A:=by unfold addT addF;rw[if_pos HT.o,if_pos (show memB A t=true from hi)]
        rw[hA]at HCC HSP;clear hi hA;go_wp2_with fail
        refine (HB3.o w0 _ _ _ n' A (HRQ.o _ HK6.o) HR6.o (by have:=HCC.o;have:=HCAL.o;omega)).mono ?_;rintro e w7 ⟨u,n7,rfl,hR7,hK7,hO7⟩
        obtain⟨a8,c8,rfl⟩:=hR7.sl
        have HR7:=Hd hR7;have HK7:=Hd (And.intro (jcW HK6.o HO5.o hK7) (jel HO5.o HK6.o.size hO7));clear hR7 hK7 hO7;go_wp2_with fail
        go_roundw
        case rel=>exact⟨k+1,n7,by omega,by go_num,by rw[HST.o,HSP.o];exact HR7.o,HK7.o⟩
        case measure=>simp[intOf];omega
       | false =>
        have hA:addT A t=A++[t]:=by unfold addT addF;rw[if_pos HT.o,if_neg (by rw[show memB A t=inB A t from rfl,hi];simp)]
        rw[hA]at HCC HSP;clear hi hA
        obtain⟨A2,hA2⟩:∃ A2,A2=A++[t]:=⟨_,rfl⟩
        have HA2:=Hd hA2;rw[←hA2]at HCC HSP;clear hA2;have HN':=Hd (show n'=A.length from by have:=HR6.o.own.1;simp at this;omega);have hn9:n'≤900000:=by have:=HCAL.o;have:=HN'.o;omega
        go_wp2_with (at_builtin;refine jaZ Tryz.sStrs (HR6.o.mono ((ExtR w6).alloc _)) (.tmp 63) (.tmp 65) rfl rfl rfl (jaS (Blk.new w6 _)) (news:=[.string t]) (by intro u hu;simp at hu;rw[hu];rfl) rfl rfl (by unfold maxLen;omega) (by omega) (fun v8 w8 r1 r2 r3=>?_);obtain⟨a8,c8,rfl⟩:=r1.sl;have HR8:=Hd (show SRow w0 w8 (.slice a8 (n'+1) c8) (n'+1) A2 by rw[HA2.o];unfold SRow;rw[List.map_append];exact r1);have HK8:=Hd (And.intro (jcW (HK6.o.trans (((ExtR w6).alloc _).mono fun _ _ h=>h.elim)) HO5.o r2) (jel HO5.o (Nat.le_trans HK6.o.size ((ExtR w6).alloc _).size) r3));have q1:=jaw (jab q1 ((ExtR w6).alloc _)) r2 (fun e=>by rcases HO5.o with h | h;exact NB.o g HVG.o (h ▸ e);have:=h g e;have:=HVL.o.2.1.lt g rfl;omega);clear r1 r2 r3)
        have hA2l:A2.length=A.length+1:=by rw[HA2.o];simp
        refine (HB3.o w0 _ _ _ (n'+1) A2 (HRQ.o _ HK8.o.1) HR8.o (by have:=HCC.o;have:=HCAL.o;omega)).mono ?_;rintro e w7 ⟨u,n7,rfl,hR7,hK7,hO7⟩
        obtain⟨a8,c8,rfl⟩:=hR7.sl
        have HR7:=Hd hR7;have HK7:=Hd (And.intro (jcW HK8.o.1 HK8.o.2 hK7) (jel HK8.o.2 HK8.o.1.size hO7));clear hR7 hK7 hO7 hA2l;go_wp2_with fail
        go_roundw
        case rel=>exact⟨k+1,n7,by omega,by go_num,by rw[HST.o,HSP.o];exact HR7.o,HK7.o⟩
        case measure=>simp[intOf];omega
      ·have g6:¬(32:Int)≤(t.size:Int):=by omega
       have hA:addT A t=A:=by unfold addT;rw[if_neg h32]
       rw[hA]at HCC HSP;clear hA h32;go_wp2_with fail
       refine (HB3.o w0 _ _ _ n' A (HRQ.o _ HK5.o) HR5.o (by have:=HCC.o;have:=HCAL.o;omega)).mono ?_;rintro e w7 ⟨u,n7,rfl,hR7,hK7,hO7⟩
       obtain⟨a8,c8,rfl⟩:=hR7.sl
       have HR7:=Hd hR7;have HK7:=Hd (And.intro (jcW HK5.o HO5.o hK7) (jel HO5.o HK5.o.size hO7));clear hR7 hK7 hO7;go_wp2_with fail
       go_roundw
       case rel=>exact⟨k+1,n7,by omega,by go_num,by rw[HST.o,HSP.o];exact HR7.o,HK7.o⟩
       case measure=>simp[intOf];omega
    ·have hkl:k=ps.length:=by omega
     subst hkl;rw[List.take_length]at HR';go_wp2_with fail
     go_ret
     refine⟨_,n',rfl,?_,?_,?_⟩
     ·rw[HBP.o];exact HR'.o
     ·exact (HX4.o.mono fun _ _ h=>h.elim).trans HK.o.1
     ·rcases HK.o.2 with h | h
      ·exact .inl h
      ·exact .inr fun b hb=>Nat.le_trans HX4.o.size (h b hb)
theorem bel5:∀ (f:Nat) (l:List Pair),jaT f l→l.length≤1000→jgm l (jaf f)
 | f,[],_,_=>jhW _ _ (by simp)
 | f,[(x,y)],_,_=>jhW _ _ (by simp)
 | 0,a :: b :: r,h,_=>absurd (jg5 h) (by simp)
 | f+1,a :: b :: r,h,hl=>by
  have h2:2≤(a :: b :: r).length:=by simp
  by_cases hk:0 < comK (a :: b :: r)
  ·exact jkY f _ h2 hl h hk (bel5 f _ (jeu h h2 hk) (by rw[jbD];exact hl))
  ·exact jhl f _ h2 hl h hk (fun i hc=>bel5 f _ (jeo i h) (by rw[jbD];exact Nat.le_trans (List.length_filter_le _ _) hl))
theorem jku(w:World)(v:Value)(l:List Pair)(hv:RdP w v l)(h:jaD l=0) :
  Calls Tryz.prog 32 #[v] w fun e w'=>∃ u n,e=.returned u∧SRow w w' u n (ja7 (jba (jbr l))):=by
 have hm:=ja5 h;have HP:=Hd (jip w v l hv (by have:=hm.len;omega) (fun p hp=>by have:=(hm.size p hp).2.1;omega));have hr:=jdx hm;have hln:(jbb l).length≤1000:=by unfold jbb;rw[List.length_map];have:=hm.len;omega
 have HBY:=Hd (jc2 12 (jbb l) (jiQ 12 _ hr hln) hr);have HBL:=Hd (bel5 12 (jbb l) hr hln);have hf:ja7 (jba (jbr l))=belF (jaf 12) (jbb l) [(jaf (12+1) (jbb l)).text]:=rfl;have hlen:=jdT hm;have hfl:(jba (jbr l)).length=(jaH (ja4 (jaf 12) (jbb l))).length+1:=rfl;have hac:[(jaf (12+1) (jbb l)).text].length+(jaH (ja4 (jaf 12) (jbb l))).length≤900000:=by
  have:=hm.len
  rw[List.length_singleton];omega
 rw[hf]
 obtain⟨t,ht⟩:∃ t,t=(jaf (12+1) (jbb l)).text:=⟨_,rfl⟩
 rw[←ht]at HBY hac ⊢;have HAC:=Hd hac
 obtain⟨T,hT⟩:∃ T,T=belF (jaf 12) (jbb l) [t]:=⟨_,rfl⟩
 have HT:=Hd hT;rw[←hT]
 obtain⟨a0,c0,hsl⟩:=hv.sl
 subst hsl;clear hv hm hr hln ht h hf hlen hfl hac hT;go_enter Tryz.func32,Tryz.ntmps32;go_wp2_with fail
 refine HP.o.mono ?_;rintro e w1 ⟨u,rfl,hU⟩
 obtain⟨a1,c1,rfl⟩:=hU.sl
 have HU:=Hd hU;clear hU;go_wp2_with fail
 refine (HBY.o w1 _ (ERow.rd HU.o)).mono ?_;rintro e w2 ⟨rfl,hE⟩;have HE:=Hd hE;clear hE;go_wp2_with fail
 have hx3:=(ExtR w2).alloc (.cells #[.string t] 9);have hrow:SRow w (w2.alloc (.cells #[.string t] 9)) (.slice (some ⟨w2.heap.size,0,none⟩) 1 1) 1 [t]:=
  ⟨⟨_,_,rfl⟩,⟨rfl,.inr ⟨_,1,_,rfl,Nat.zero_le _,Blk.new w2 _,Nat.le_refl _,by unfold maxLen;omega,rfl,rfl⟩⟩,(HU.o.ext.trans HE.o).trans hx3,fun b hb=>by
   have e:some w2.heap.size=some b:=hb;obtain rfl:=Option.some.inj e;exact (HU.o.ext.trans HE.o).size⟩
 refine (HBL.o w _ _ _ 1 [t] (ERow.rd (HU.o.mono (HE.o.trans hx3))) hrow HAC.o).mono ?_;rintro e w4 ⟨u,n4,rfl,hR,_,_⟩
 obtain⟨a4,c4,rfl⟩:=hR.sl
 rw[←HT.o]at hR;have HR:=Hd hR;clear hR hrow hx3;go_wp2_with fail
 go_ret
 exact⟨_,_,rfl,HR.o⟩
end
section
open Go Go.RowKit
theorem jkJ(w:World)(v:Value)(l:List Pair)(hc:jbU w)(hv:RdP w v l)(h:jaD l=0):Calls Tryz.prog 45 #[v] w fun e w'=>e=.returned (.tuple #[.string (jbr l).text,.int .i64 0])∧Ext w w':=by
 have hm:=ja5 h
 obtain⟨a,c,hsl⟩:=hv.sl
 subst hsl;have HV:=Hd hv;have HM:=Hd hm;have HC:=Hd hc;have H:=Hd h;have HL:=Hd hm.len;clear hv hm hc h;go_enter Tryz.func45,Tryz.ntmps45;go_wp2_with fail
 refine (jcc w _ l HV.o (by have:=HL.o;omega) (fun p hp=>by have:=HM.o.size p hp;omega)).mono ?_;rintro e w1 ⟨rfl,hE⟩;rw[H.o];have HE:=Hd hE;clear hE;go_wp2_with fail
 refine (jl6 w1 _ l (HV.o.ext HE.o) (by have:=HL.o;omega) (fun p hp=>by have:=HM.o.size p hp;omega)).mono ?_;rintro e w2 ⟨u,rfl,hr⟩;have HR:=Hd hr.rd;have HX:=Hd (HE.o.trans hr.ext);clear hr
 obtain⟨a2,c2,hu⟩:=HR.o.sl
 subst hu;go_wp2_with fail
 refine (jfV 12 (jbb l) (jdx HM.o) (by unfold jbb;rw[List.length_map];have:=HL.o;omega) w2 _ (HC.o.ext HX.o) HR.o).mono ?_;rintro e w3 ⟨k,rfl,hk,hE⟩
 obtain⟨hkA,vk,bk,hkB,_⟩:=hk.open
 have q0:w3.cell? ⟨k,0,none⟩=some (.string (jaf 13 (jbb l)).text):=hkB.cell (by rfl);have HE3:=Hd (HX.o.trans hE);clear hk hkB hE;unfold ptrV;go_wp2_with fail
 go_ret2
 exact⟨rfl,HE3.o⟩
theorem jkI(w:World)(v:Value)(l:List Pair)(hv:RdP w v l)(hn:l.length≤9223372036854775807)(hs:∀ p∈l,p.1.size≤9223372036854775807∧p.2.size≤9223372036854775807)(h:jaD l≠0):Calls Tryz.prog 45 #[v] w fun e w'=>e=.returned (.tuple #[.string ⟨#[]⟩,.int .i64 (jaD l)])∧Ext w w':=by
 obtain⟨a,c,hsl⟩:=hv.sl
 subst hsl;have hck:=jcc w _ l hv hn hs
 obtain⟨x,hx⟩:∃ x,x=jaD l:=⟨_,rfl⟩
 rw[←hx]at h hck ⊢;have hne:(x == 0)=false:=by simpa using h
 have HCK:=Hd hck;clear hv hs hx hck;go_enter Tryz.func45,Tryz.ntmps45;go_wp2_with fail
 refine HCK.o.mono ?_;rintro e w1 ⟨rfl,hE⟩;have HE:=Hd hE;clear hE;go_wp2_with fail
 go_ret2
 exact⟨rfl,HE.o⟩
theorem jhG(w:World)(v:Value)(l:List Pair)(hc:jbU w)(hv:RdP w v l)(h:jaD l=0):Calls Tryz.prog 46 #[v] w fun e w'=>e=.returned (.tuple #[.string (shaB (jbr l).text),.int .i64 0])∧Ext w w':=by
 have hT:=jkJ w v l hc hv h
 obtain⟨a,c,hsl⟩:=hv.sl
 subst hsl
 obtain⟨t,ht⟩:∃ t,t=(jbr l).text:=⟨_,rfl⟩
 rw[←ht]at hT ⊢;have HT:=Hd hT;have HC:=Hd hc;clear hT hc hv ht h;go_enter Tryz.func46,Tryz.ntmps46;go_wp2_with fail
 refine HT.o.mono ?_;rintro e w1 ⟨rfl,hE⟩;have HE:=Hd hE;clear hE;go_wp2_with fail
 refine (of_t _ _ [t] (by simp) (jbZ w1 [t] 9) (HC.o.ext (HE.o.alloc _))).mono ?_;rintro e w2 ⟨rfl,hE⟩;rw[jb1];have HE2:=Hd ((HE.o.alloc _).trans hE);clear hE;go_wp2_with fail
 go_ret2
 exact⟨rfl,HE2.o⟩
theorem jlJ(w:World)(v:Value)(l:List Pair)(hv:RdP w v l)(hn:l.length≤9223372036854775807)(hs:∀ p∈l,p.1.size≤9223372036854775807∧p.2.size≤9223372036854775807)(h:jaD l≠0):Calls Tryz.prog 46 #[v] w fun e w'=>e=.returned (.tuple #[.string ⟨#[]⟩,.int .i64 (jaD l)])∧Ext w w':=by
 have hT:=jkI w v l hv hn hs h
 obtain⟨a,c,hsl⟩:=hv.sl
 subst hsl
 obtain⟨x,hx⟩:∃ x,x=jaD l:=⟨_,rfl⟩
 rw[←hx]at h hT ⊢;have hne:(x == 0)=false:=by simpa using h
 have HT:=Hd hT;clear hT hv hx;go_enter Tryz.func46,Tryz.ntmps46;go_wp2_with fail
 refine HT.o.mono ?_;rintro e w1 ⟨rfl,hE⟩;have HE:=Hd hE;clear hE;go_wp2_with fail
 go_ret2
 exact⟨rfl,HE.o⟩
theorem jmE(w:World)(x y k:ByteArray)(gk:Nat)(hk:w.cell? ⟨gk,0,none⟩=some (.string k)):Calls Tryz.prog 114 #[.agg #[.string x,.string y],.pointer (some ⟨gk,0,none⟩)] w fun e w'=>e=.returned (.bool (x.toList == k.toList))∧Ext w w':=by
 have hk':=jab hk ((ExtR w).alloc (.cells #[.string x,.string y] 95));clear hk;go_enter Tryz.func114,Tryz.ntmps114;go_wp2_with fail
 go_ret
 exact⟨rfl,(ExtR w).alloc _⟩
def jgM(k:ByteArray)(l:List Pair):Option Nat:=l.findIdx? fun p=>p.1.toList == k.toList
def idxV:Option Nat→Int | some i=>i | none => -1
def jns(w:World)(k:ByteArray)(l:List Pair)(v:Value)(wr:World):Prop:=∃ i:Nat,i≤l.length∧v=.int .i64 i∧Ext w wr∧∀ p∈l.take i,(p.1.toList == k.toList)=false
theorem jhz(w:World)(v:Value)(l:List Pair)(k:ByteArray)(gk:Nat)(hv:RdP w v l)(hn:l.length≤1000000)(hk:w.cell? ⟨gk,0,none⟩=some (.string k)):Calls Tryz.prog 113 #[v,.func (.func 114) #[] #[.pointer (some ⟨gk,0,none⟩)]] w fun e w'=>e=.returned (.int .i64 (idxV (jgM k l)))∧Ext w w':=by
 obtain⟨a,c,hsl⟩:=hv.sl
 have HV:=Hd hv;have HK:=Hd hk;subst hsl;clear hv hk;go_enter Tryz.func113,Tryz.ntmps113;go_wp2_with fail
 go_loopw [8] (fun i wr=>jns w k l i wr) (fun i _=>l.length - (intOf i).toNat)
 case atStart=>exact⟨0,by omega,rfl,ExtR w,fun p hp=>by simp at hp⟩
 case round =>
  obtain⟨i,hi,rfl,hE,hall⟩:=hrel
  have HE:=Hd hE;have HALL:=Hd hall;clear hE hall
  by_cases hlt:i < l.length
  ·rcases HV.o with⟨_,_,_,h0⟩ |⟨b,o,c',hh,hb,hc,hcell⟩
   ·rw[h0]at hlt;cases hlt
   cases hh
   obtain⟨p,hp⟩:∃ p,l[i]?=some p:=⟨_,List.getElem?_eq_getElem hlt⟩
   obtain⟨q1,q2⟩:=hcell i p hp
   have q1:=jab q1 HE.o;have q2:=jab q2 HE.o
   obtain⟨x,y⟩:=p
   simp only at q1 q2;have b1:(i:Int) < (l.length:Int):=by omega
   have HP:=Hd hp;clear hcell hp;go_wp2_with fail
   refine (jmE wr x y k gk (jab HK.o HE.o)).mono ?_;rintro e w3 ⟨rfl,hE⟩;have HE3:=Hd (HE.o.trans hE);clear hE q1 q2;cases hq:(x.toList == k.toList)with
   | true =>
    have HQ:=Hd hq;clear hq;go_wp2_with fail
    go_ret
    refine⟨?_,HE3.o⟩
    have hka:jgM k l=some i:=by
     unfold jgM;rw[List.findIdx?_eq_some_iff_getElem]
     refine⟨hlt,?_,fun j hj=>?_⟩
     ·rw[(List.getElem?_eq_some_iff.1 HP.o).2];exact HQ.o
     ·have:=HALL.o l[j] (List.mem_take_iff_getElem.2 ⟨j,by omega,rfl⟩)
      rw[this];simp
    rw[hka];rfl
   | false =>
    have HQ:=Hd hq;clear hq;go_wp2_with fail
    go_roundw
    case rel =>
     refine⟨i+1,by omega,by go_num,HE3.o,fun p hp=>?_⟩
     rw[List.take_add_one,HP.o]at hp;rcases List.mem_append.1 hp with hp | hp
     ·exact HALL.o p hp
     ·simp at hp;subst hp;exact HQ.o
    case measure=>simp[intOf];omega
  ·have hil:i=l.length:=by omega
   subst hil;have hka:jgM k l=none:=by
    unfold jgM;rw[List.findIdx?_eq_none_iff];exact fun p hp=>HALL.o p (by rw[List.take_length];exact hp)
   have HKA:=Hd hka;clear hka;go_wp2;go_ret
   exact⟨by rw[HKA.o];rfl,HE.o⟩
def jjR(l:List Pair)(k:ByteArray):Option ByteArray:=(jgM k l).map fun i=>(l.getD i pd).2
theorem jnV(w:World)(v:Value)(l:List Pair)(k:ByteArray)(hv:RdP w v l)(hn:l.length≤1000000):Calls Tryz.prog 64 #[v,.string k] w fun e w'=>e=.returned (optV (jjR l k))∧Ext w w':=by
 obtain⟨a,c,hsl⟩:=hv.sl
 have HV:=Hd hv;subst hsl;clear hv
 obtain⟨r,hr⟩:∃ r,r=optV (jjR l k):=⟨_,rfl⟩
 rw[←hr];have HR:=Hd hr;clear hr;go_enter Tryz.func64,Tryz.ntmps64;go_wp2_with fail
 refine (jhz _ _ l k w.heap.size (HV.o.ext ((ExtR w).alloc _)) hn ((Blk.new w _).cell (by rfl))).mono ?_;rintro e w1 ⟨rfl,hE⟩;have HE:=Hd (((ExtR w).alloc _).trans hE);clear hE;cases hka:jgM k l with
 | none =>
  have HRV:=Hd (show r=optV none by rw[HR.o];unfold jjR;rw[hka];rfl);clear hka;unfold idxV;go_wp2_with fail
  go_ret2
  exact⟨by rw[HRV.o];rfl,HE.o⟩
 | some i =>
  have hil:i < l.length:=by
   unfold jgM at hka;exact (List.findIdx?_eq_some_iff_getElem.1 hka).1
  rcases HV.o with⟨_,_,_,h0⟩ |⟨b,o,c',hh,hb,hc,hcell⟩
  ·rw[h0]at hil;cases hil
  cases hh
  obtain⟨p,hp⟩:∃ p,l[i]?=some p:=⟨_,List.getElem?_eq_getElem hil⟩
  have q2:=jab (hcell i p hp).2 HE.o;have HRV:=Hd (show r=optV (some p.2) by
   rw[HR.o];unfold jjR;rw[hka];show optV (some (l.getD i pd).2)=_;rw[List.getD_eq_getElem?_getD,hp];rfl)
  have b1:(i:Int) < (l.length:Int):=by omega
  clear hka hcell hp;unfold idxV;go_wp2_with fail
  go_ret2
  exact⟨by rw[HRV.o];rfl,HE.o⟩
def jnr(w:World)(l m:List Pair)(v:Value)(wr:World):Prop:=∃ i:Nat,i≤l.length∧v=.int .i64 i∧Ext w wr∧l.take i=m.take i
theorem jjL(w:World)(v u:Value)(l m:List Pair)(hv:RdP w v l)(hu:RdP w u m)(hn:l.length≤1000000)(hn2:m.length≤1000000):Calls Tryz.prog 149 #[v,u] w fun e w'=>e=.returned (.bool (jdi l m))∧Ext w w':=by
 obtain⟨a,c,hsl⟩:=hv.sl
 obtain⟨a',c',hsl'⟩:=hu.sl
 have HV:=Hd hv;have HU:=Hd hu;subst hsl;subst hsl';clear hv hu
 by_cases hlen:l.length=m.length
 ·have hq:((l.length:Int) ==(m.length:Int))=true:=by simp;omega
  have HLN:=Hd hlen
  obtain⟨n,hnn⟩:∃ n,n=l.length:=⟨_,rfl⟩
  rw[←hlen, ←hnn];rw[←hnn]at hn;have HN:=Hd hnn;clear hq hlen hnn hn2;go_enter Tryz.func149,Tryz.ntmps149;go_wp2_with fail
  go_loopw [13] (fun i wr=>jnr w l m i wr) (fun i _=>n - (intOf i).toNat)
  case atStart=>exact⟨0,by omega,rfl,ExtR w,by simp⟩
  case round =>
   obtain⟨i,hi,rfl,hE,hall⟩:=hrel
   have HE:=Hd hE;have HALL:=Hd hall;have hi:i≤n:=by rw[HN.o];exact hi
   clear hE hall
   by_cases hlt:i < n
   ·have hl1:i < l.length:=by have:=HN.o;omega
    have hl2:i < m.length:=by have:=HN.o;have:=HLN.o;omega
    rcases HV.o with⟨_,_,_,h0⟩ |⟨b,o,c1,hh,hb,hc,hcell⟩
    ·rw[h0]at hl1;cases hl1
    rcases HU.o with⟨_,_,_,h0⟩ |⟨b',o',c2,hh',hb',hc',hcell'⟩
    ·rw[h0]at hl2;cases hl2
    obtain⟨rfl,hx1,hx2⟩:=Value.slice.inj hh
    obtain⟨rfl,hx3,hx4⟩:=Value.slice.inj hh'
    obtain⟨p,hp⟩:∃ p,l[i]?=some p:=⟨_,List.getElem?_eq_getElem hl1⟩
    obtain⟨q,hq⟩:∃ q,m[i]?=some q:=⟨_,List.getElem?_eq_getElem hl2⟩
    obtain⟨q1,q2⟩:=hcell i p hp
    obtain⟨q3,q4⟩:=hcell' i q hq
    have hla:∀ w1,Ext wr w1→(Instr.loadAt 95 (.pointer (some ⟨b,o+i * 2,none⟩))).run Tryz.prog w1=.ok (.agg #[.string p.1,.string p.2]) w1:=fun w1 h1=>jgN (jab q1 (HE.o.trans h1)) (jab q2 (HE.o.trans h1));have hlb:∀ w1,Ext wr w1→(Instr.loadAt 95 (.pointer (some ⟨b',o'+i * 2,none⟩))).run Tryz.prog w1=.ok (.agg #[.string q.1,.string q.2]) w1:=fun w1 h1=>jgN (jab q3 (HE.o.trans h1)) (jab q4 (HE.o.trans h1));have hnp:=fun w=>jlv p.1 p.2 q.1 q.2 w;have HLA:=Hd hla;have HLB:=Hd hlb;have HNP:=Hd hnp;have HP:=Hd hp;have HQ:=Hd hq;have b1:(i:Int) < (n:Int):=by omega
    clear hcell hcell' hh hh' hx1 hx2 hx3 hx4 hp hq q1 q2 q3 q4 hla hlb hnp hl1 hl2 hc hc';go_wp2_with fail
    refine jad [0,1,2,3,4,5,6,7,8] Ext ExtR ExtT (by kernel_rfl) (by kernel_rfl) (by kernel_rfl) ?_;iterate 3 (refine jac _ rfl (by kernel_rfl) rfl rfl (fun K hK=>?_);go_big_quiet_op;refine hK _ ?_;clear hK K)
    refine jai ⟨b,o+i * 2,none⟩ _ rfl (by kernel_rfl) rfl rfl (fun w1 h1=>HLA.o w1 ((jaj wr).trans h1)) ?_;simp only[Act.put,sA,sB,sC];iterate 3 (refine jac _ rfl (by kernel_rfl) rfl rfl (fun K hK=>?_);go_big_quiet_op;refine hK _ ?_;clear hK K)
    refine jai ⟨b',o'+i * 2,none⟩ _ rfl (by kernel_rfl) rfl rfl (fun w1 h1=>HLB.o w1 ((jaj wr).trans h1)) ?_;simp only[Act.put,sA,sB,sC];refine jig _ (.bool (!eqP p q)) rfl (by kernel_rfl) rfl (fun w1 h1=>jli rfl rfl (by kernel_rfl) (HNP.o w1)) ?_;simp only[Act.put,sA,sB,sC];refine jas (by kernel_rfl) (fun w3 he=>?_);have HE3:=Hd ((HE.o.trans (jaj wr)).trans he);clear he;cases hpq:eqP p q with
    | true =>
     have hpe:=(jhs p q).1 hpq;have HT:=Hd (show l.take (i+1)=m.take (i+1) by rw[List.take_add_one,List.take_add_one,HP.o,HQ.o,HALL.o,hpe]);clear hpq hpe;go_wp2_with fail
     go_roundw
     case rel=>exact⟨i+1,by have:=HN.o;omega,by go_num,HE3.o,HT.o⟩
     case measure=>simp[intOf];omega
    | false =>
     have HF:=Hd (show jdi l m=false by
      cases hs:jdi l m with
      | false=>rfl
      | true =>
       have e:=(jdS l m).1 hs;have e1:=HP.o;rw[e,HQ.o]at e1;rw[←Option.some.inj e1,(jhs q q).2 rfl]at hpq;cases hpq)
     clear hpq;go_wp2_with fail
     go_ret
     exact⟨by rw[HF.o];rfl,HE3.o⟩
   ·have hin:i=n:=by omega
    have HF:=Hd (show jdi l m=true by
     rw[jdS]
     have:=HALL.o
     rw[hin,HN.o,List.take_length,HLN.o,List.take_length]at this;exact this)
    go_wp2_with fail
    go_ret
    exact⟨by rw[HF.o];rfl,HE.o⟩
 ·have hq:((l.length:Int) ==(m.length:Int))=false:=by simp;omega
  have hq2:¬(l.length:Int)=(m.length:Int):=by omega
  have HF:=Hd (show jdi l m=false by
   cases hs:jdi l m with
   | false=>rfl
   | true=>exact absurd (by rw[(jdS l m).1 hs]) hlen)
  go_enter Tryz.func149,Tryz.ntmps149;go_wp2_with fail
  go_ret
  exact⟨by rw[HF.o];rfl,ExtR w⟩
theorem jjy(w:World)(a b:ByteArray)(hc:jbU w) :
  Calls Tryz.prog 150 #[.string a,.string b] w fun e w'=>e=.returned (.bool (decide (a≠b) && decide (shaB a=shaB b)))∧Ext w w':=by
 have HC:=Hd hc;clear hc
 by_cases hab:a=b
 ·subst hab
  go_enter Tryz.func150,Tryz.ntmps150;go_wp2_with fail
  go_ret
  exact⟨by simp,ExtR w⟩
 ·have hne:¬ a.toList=b.toList:=fun h=>hab (jb7 h)
  have hq:(a.toList == b.toList)=false:=by simp[hne]
  have hd:decide (a≠b)=true:=by simp[hab]
  have HD:=Hd hd;clear hd;go_enter Tryz.func150,Tryz.ntmps150;go_wp2_with fail
  refine (of_t _ _ [a] (by simp) (jhE (ExtR _)) (HC.o.ext ((ExtR w).alloc _))).mono ?_;rintro e w1 ⟨rfl,hE1⟩;rw[jb1];have HE1:Hid (Ext w w1):=Hd (((ExtR w).alloc _).trans hE1);clear hE1;go_wp2_with fail
  refine (of_t _ _ [b] (by simp) (jhE (ExtR _)) ((HC.o.ext HE1.o).ext ((ExtR w1).alloc _))).mono ?_;rintro e w2 ⟨rfl,hE2⟩;rw[jb1];have HE2:Hid (Ext w w2):=Hd (HE1.o.trans (((ExtR w1).alloc _).trans hE2));clear hE2;go_wp2_with fail
  go_ret
  refine⟨?_,HE2.o⟩
  have e:((shaB a).toList ==(shaB b).toList)=decide (shaB a=shaB b):=by
   by_cases h:shaB a=shaB b
   ·simp[h]
   ·have h3:¬(shaB a).toList=(shaB b).toList:=fun h2=>h (jb7 h2)
    simp only[h,decide_false];exact beq_eq_false_iff_ne.2 h3
  rw[HD.o,Bool.true_and,e];rfl
end
section
open Go Go.RowKit
section mixf
variable {P:Program} {l:List Oper} {E:World→World→Prop}
def MixJ(P:Program)(l:List Oper)(E:World→World→Prop)(R:List Nat→Act→World→Prop):List Nat→List Nat→Act→World→Prop
 | [],done,a,w=>R done a w
 | k :: ord,done,a,w =>
  (k∈Region.ready .any l.toArray (jbd l done)∧Region.free .any l.toArray (jbd l done) k=true∧∃ o v,l[k]?=some o∧jbf P l.toArray E w o v a∧MixJ P l E R ord (k :: done) (a.put o.dst v) w) ∨
  (Region.ready .any l.toArray (jbd l done)=[k]∧∀ w1,E w w1→wpOp P l.toArray NoQ k (fun a' w'=>E w1 w'∧MixJ P l E R ord (k :: done) a' w') a w1)
theorem jcU(hE:∀ w,E w w)(hT:∀ x y z,E x y→E y z→E x z)(hs:Region.noSelect l.toArray=true){Q:Act→World→Prop}{R:List Nat→Act→World→Prop}{n:Nat}(hR:∀ done a w,R done a w→anyK P l.toArray E Q n (jbd l done) a w):∀ (ord:List Nat) (done:List Nat) (a:Act) (w:World),
  MixJ P l E R ord done a w→anyK P l.toArray E Q (n+ord.length) (jbd l done) a w
 | [],_,_,_,h=>hR _ _ _ h
 | k :: ord,done,a,w,h=>by
  rcases h with⟨hr,hf,o,v,ho,hy,h⟩ |⟨hr,h⟩
  ·have ho':l.toArray[k]?=some o:=by simpa using ho
   exact jfr hE hT ho' (Region.noSelect_spec hs) (n+ord.length) (jbd l done) a w (Region.free_spec ho' hf) hr hy (jcU hE hT hs hR ord _ _ _ h)
  ·intro w1 he
   refine⟨fun h0=>(by rw[hr]at h0;cases h0),fun i hi=>?_⟩
   rw[hr]at hi;obtain rfl:i=k:=by simpa using hi
   exact wpOp_mono (fun a' w' h2=>⟨h2.1,jcU hE hT hs hR ord (i :: done) a' w' h2.2⟩) (h w1 he)
def Fork(P:Program)(l:List Oper)(E:World→World→Prop)(Q:Act→World→Prop)(m:Nat)(done:List Nat)(a:Act)(w:World):Prop:=
 Region.ready .any l.toArray (jbd l done)≠[]∧∀ k∈Region.ready .any l.toArray (jbd l done),∀ w1,E w w1 →
  wpOp P l.toArray NoQ k (fun a' w'=>E w1 w'∧∃ ord,ord.length=m∧MixK P l E Q ord (k :: done) a' w') a w1
theorem jgs(hE:∀ w,E w w)(hT:∀ x y z,E x y→E y z→E x z)(hs:Region.noSelect l.toArray=true){Q:Act→World→Prop}{m:Nat}(done:List Nat)(a:Act)(w:World)(h:Fork P l E Q m done a w) :
  anyK P l.toArray E Q (m+1) (jbd l done) a w:=by
 intro w1 he
 refine⟨fun h0=>absurd h0 h.1,fun i hi=>?_⟩
 exact wpOp_mono (fun a' w' h2=>⟨h2.1,by obtain⟨ord,ho,h3⟩:=h2.2;have:=jcC hE hT hs ord (i :: done) a' w' h3;rw[ho]at this;exact this⟩) (h.2 i hi w1 he)
theorem jfo(m:Nat)(ord:List Nat)(E:World→World→Prop)(hE:∀ w,E w w)(hT:∀ x y z,E x y→E y z→E x z){id:Nat}{Q:Exit→Act→World→Prop}{a:Act}{w:World}
  (hm:P.follows .mixedOrders=true) (hs:Region.noSelect l.toArray=true) (hl:m+1+ord.length=l.toArray.size)
  (h:MixJ P l E (Fork P l E (fun a w=>Q .normal a w) m) ord [] a w.drew):(Code.region id l.toArray true).wp P Q a w:=by
 refine wp_region_any hm ?_;rw[←hl]
 have:=jcU hE hT hs (fun done a w hf=>jgs hE hT hs done a w hf) ord _ _ _ h
 unfold jbd at this;rw[hl]at this ⊢;exact jdZ hE (fun _ _ h=>h) _ _ _ _ this
def twoK(l:List Oper)(done:List Nat)(j k:Nat):Bool:=Region.ready .any l.toArray (jbd l done) == [j,k]
theorem jlm{Q:Act→World→Prop}{done:List Nat}{a:Act}{w:World}{m j k:Nat}(o1 o2:Oper)(ord1 ord2:List Nat)(hk:twoK l done j k=true)(h01:l[j]?=some o1)(h02:l[k]?=some o2)(hl1:ord1.length=m)(hl2:ord2.length=m)
  (hw1:Region.wanted o1 (yielded l.toArray a.tmps)=true) (hw2:Region.wanted o2 (yielded l.toArray a.tmps)=true)
  (h1:∀ w1,E w w1→∀ K:Act→World→Prop,(∀ a' w',E w1 w'→MixK P l E Q ord1 (j :: done) a' w'→K a' w')→o1.wp P a w1 K NoQ)
  (h2:∀ w1,E w w1→∀ K:Act→World→Prop,(∀ a' w',E w1 w'→MixK P l E Q ord2 (k :: done) a' w'→K a' w')→o2.wp P a w1 K NoQ):Fork P l E Q m done a w:=by
 simp only[twoK,beq_iff_eq]at hk;unfold Fork;rw[hk]
 refine⟨by simp,fun i hi w1 he=>?_⟩
 have h01':l.toArray[j]?=some o1:=by simpa using h01
 have h02':l.toArray[k]?=some o2:=by simpa using h02
 have hi:i=j∨i=k:=by simpa using hi
 unfold wpOp;rcases hi with rfl | rfl
 ·simp only[h01',hw1,if_true]
  exact .inl (h1 w1 he _ (fun a' w' e1 e2=>⟨e1,ord1,hl1,e2⟩))
 ·simp only[h02',hw2,if_true]
  exact .inl (h2 w1 he _ (fun a' w' e1 e2=>⟨e1,ord2,hl2,e2⟩))
variable {R:List Nat→Act→World→Prop} {ord done:List Nat} {a:Act} {w:World} {k:Nat} {o:Oper}
theorem jeW(o:Oper)(ho:l[k]?=some o)(hk:jdh l done k=true)(hw:Region.wanted o (yielded l.toArray a.tmps)=true)(hq:jfJ o.op=true)
  (h:∀ K:Act→Prop,(∀ a',MixJ P l E R ord (k :: done) a' w→K a')→o.quiet P a (fun _=>True) K):MixJ P l E R (k :: ord) done a w:=by
 simp only[jdh,Bool.and_eq_true,List.contains_iff_mem]at hk
 obtain⟨v,h1,h2⟩:=h _ (fun _ h=>h)
 have key:jbf P l.toArray E w o v a:=by
  refine .inl ⟨hw,fun w1 _=>?_⟩;have h3:=h1 w1 trivial;unfold Oper.quietAt at h3;have h4:=fun f args w'=>jga (ρ:=a.eval) hq P w1 w' f args;generalize (execOp a.eval o).run P w1=r at *;cases r with
  | ok n w'=>cases n <;> simp only[Oper.quietUpon]at h3 <;> first | exact h3 | exact absurd rfl (h4 _ _ _)
  | halt x w'=>simp only[Oper.quietUpon]at h3
 exact .inl ⟨hk.1,hk.2,o,v,ho,key,h2⟩
theorem jlu(o:Oper)(v:Value)(ho:l[k]?=some o)(hk:jdh l done k=true)(hw:Region.wanted o (yielded l.toArray a.tmps)=true)
  (hv:∀ w1,E w w1→(execOp a.eval o).run P w1=.ok (.value v) w1) (h:MixJ P l E R ord (k :: done) (a.put o.dst v) w):MixJ P l E R (k :: ord) done a w:=by
 simp only[jdh,Bool.and_eq_true,List.contains_iff_mem]at hk;exact .inl ⟨hk.1,hk.2,o,v,ho,.inl ⟨hw,fun w1 hc=>by rw[hv w1 hc];exact⟨rfl,rfl⟩⟩,h⟩
theorem jgP(p:Addr)(v:Value){t:TypeId}{x:Operand}{d:Option Tmp}{ty:TypeId}{pos:String}{af:Array Edge}{g:Option (Nat × Bool)}(ho:l[k]?=some ⟨d,.load t x,ty,pos,af,g⟩)(hk:jdh l done k=true)
  (hw:Region.wanted ⟨d,.load t x,ty,pos,af,g⟩ (yielded l.toArray a.tmps)=true) (hx:a.eval x=.pointer (some p))
  (hv:∀ w1,E w w1→(Instr.loadAt t (.pointer (some p))).run P w1=.ok v w1) (h:MixJ P l E R ord (k :: done) (a.put d v) w):MixJ P l E R (k :: ord) done a w:=by
 refine jlu _ v ho hk hw (fun w1 hc=>?_) h
 have:=hv w1 hc
 simp only[execOp,hx,Sem.run_bind,this,Result.andThen,Sem.run_pure]
theorem jj2(o:Oper)(f:FuncId)(args:Array Value)(v:Value)(ho:l[k]?=some o)(hk:jdh l done k=true)(hw:Region.wanted o (yielded l.toArray a.tmps)=true)
  (hv:∀ w1,(execOp a.eval o).run P w1=.ok (.enter f args) w1) (hc:∀ w1,E w w1→Calls P f args w1 (fun e w2=>e=.returned v∧E w1 w2))
  (h:MixJ P l E R ord (k :: done) (a.put o.dst v) w):MixJ P l E R (k :: ord) done a w:=by
 simp only[jdh,Bool.and_eq_true,List.contains_iff_mem]at hk;exact .inl ⟨hk.1,hk.2,o,v,ho,.inl ⟨hw,fun w1 hw1=>by rw[hv w1];exact⟨rfl,hc w1 hw1⟩⟩,h⟩
theorem jlt(h:R done a w):MixJ P l E R [] done a w:=h
end mixf
end
section
open Go Go.RowKit
def jk5(x y:ByteArray):Bool:=decide (x≠y) && decide (shaB x=shaB y)
def jcD(ys:List ByteArray)(x:ByteArray):Option (ByteArray × ByteArray):=(ys.find? (jk5 x)).map fun y=>(x,y)
def jfz(xs ys:List ByteArray):Option (ByteArray × ByteArray):=xs.findSome? (jcD ys)
theorem jjv{xs ys:List ByteArray}{i:Nat}{x:ByteArray}{r:ByteArray × ByteArray}(hx:xs[i]?=some x)(h0:(xs.take i).findSome? (jcD ys)=none)(h:jcD ys x=some r):jfz xs ys=some r:=by
 unfold jfz;have hs:xs=xs.take i++xs.drop i:=(List.take_append_drop i xs).symm;have hd:xs.drop i=x :: xs.drop (i+1):=by
  obtain⟨hlt,e⟩:=List.getElem?_eq_some_iff.1 hx
  rw[←e];exact List.drop_eq_getElem_cons hlt
 rw[hs,List.findSome?_append,h0,hd,List.findSome?_cons,h];rfl
theorem jho{xs ys:List ByteArray}{i:Nat}{x:ByteArray}(hx:xs[i]?=some x)(h0:(xs.take i).findSome? (jcD ys)=none)(h:ys.find? (jk5 x)=none):(xs.take (i+1)).findSome? (jcD ys)=none:=by
 rw[List.take_add_one,hx,List.findSome?_append,h0];simp[jcD,h]
theorem jmF{ys:List ByteArray}{p:ByteArray→Bool}{j:Nat}{y:ByteArray}(hy:ys[j]?=some y)(h0:(ys.take j).find? p=none)(h:p y=true):ys.find? p=some y:=by
 have hs:ys=ys.take j++ys.drop j:=(List.take_append_drop j ys).symm;have hd:ys.drop j=y :: ys.drop (j+1):=by
  obtain⟨hlt,e⟩:=List.getElem?_eq_some_iff.1 hy
  rw[←e];exact List.drop_eq_getElem_cons hlt
 rw[hs,List.find?_append,h0,hd,List.find?_cons,h];rfl
theorem jjS{ys:List ByteArray}{p:ByteArray→Bool}{j:Nat}{y:ByteArray}(hy:ys[j]?=some y)(h0:(ys.take j).find? p=none)(h:p y=false):(ys.take (j+1)).find? p=none:=by
 rw[List.take_add_one,hy,List.find?_append,h0];simp[h]
def jdK:Option (ByteArray × ByteArray)→Value
 | some (x,y)=>.tuple #[.string x,.string y,.bool true]
 | none=>.tuple #[.string ⟨#[]⟩,.string ⟨#[]⟩,.bool false]
end
end Go.Proofs.YtcpnjmcipainpaaGreatDoor
