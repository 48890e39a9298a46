/- Parts of the proof, one behind the other: NodeV. Each is under no condition but those that it states. -/
import Derived.Test.YtcpnjmcipainpaaGreatDoorPa32
import Derived.Test.YtcpnjmcipainpaaGreatDoorPa18
namespace Go.Proofs.YtcpnjmcipainpaaGreatDoor
set_option linter.unusedSimpArgs false
set_option linter.unusedVariables false
set_option maxRecDepth 100000
set_option maxHeartbeats 16000000
section
open Go Go.RowKit
attribute [local go_sem] Oper.semAt_some
theorem jlM{y h:ByteArray}(hh:jgF y=some h):jd4 y:=by
 unfold jgF at hh;cases hc:cutN y with
 | none=>rw[hc]at hh;cases hh
 | some r =>
  rw[hc]at hh;have hh:jds y r=some h:=hh;unfold jds at hh;rw[Option.filter_eq_some_iff]at hh
  obtain⟨h1,h2⟩:=hh
  have h2:h.size=32:=by simpa using h2
  unfold jcZ at h1
  by_cases hr:r.1=false∧r.2.1+r.2.2=y.size
  case neg=>rw[if_neg hr]at h1;cases h1
  rw[if_pos hr]at h1;have h1:=Option.some.inj h1
  obtain⟨b,o,n⟩:=r
  obtain⟨hb,hs⟩:=hr
  have hb:b=false:=hb;have hs:o+n=y.size:=hs;subst hb
  refine⟨h,h2,?_⟩
  have hn:n=32:=by
   have e:=congrArg ByteArray.size h1;rw[ByteArray.size_extract]at e;simp only at e;omega
  obtain⟨⟨l⟩⟩:=y
  cases l with
  | nil=>exact absurd (jcu hc).1 (by decide)
  | cons a t =>
   have hc:cutN ⟨(a :: t).toArray⟩=some (false,o,n):=hc;rw[jcS]at hc
   obtain⟨m,hm⟩:∃ m,m=(if a.toNat < 192 then a.toNat - 128 else a.toNat - 192):=⟨_,rfl⟩
   rw[←hm]at hc
   by_cases h4:a.toNat < 128
   ·rw[if_pos h4]at hc
    have:=(Prod.mk.inj (Prod.mk.inj (Option.some.inj hc)).2).2;omega
   rw[if_neg h4]at hc
   by_cases h5:m≤55
   ·rw[if_pos h5]at hc
    split at hc
    ·have e1:=(Prod.mk.inj (Option.some.inj hc)).1
     have e2:=(Prod.mk.inj (Prod.mk.inj (Option.some.inj hc)).2).1;have e3:=(Prod.mk.inj (Prod.mk.inj (Option.some.inj hc)).2).2;have e1:¬ 192≤a.toNat:=of_decide_eq_false e1;rw[if_pos (by omega)]at hm;have ha:a=160:=UInt8.toNat_inj.1 (by show a.toNat=160;omega);have ht:h=⟨t.toArray⟩:=by
      rw[←h1, ←e2,hn];apply ByteArray.ext;apply Array.ext';have hs':o+n=t.length+1:=hs;rw[ByteArray.data_extract,Array.toList_extract,List.extract_eq_take_drop];show ((a :: t).drop 1).take (1+32 - 1)=t;rw[List.drop_succ_cons,List.drop_zero,List.take_of_length_le (by omega)]
     unfold jaq;rw[if_neg (by omega),h2,ht,ha];apply ByteArray.ext;apply Array.ext';rw[ByteArray.data_append,Array.toList_append];rfl
    ·cases hc
   ·rw[if_neg h5]at hc
    split at hc
    ·rename_i n' hl
     split at hc
     ·have e3:=(Prod.mk.inj (Prod.mk.inj (Option.some.inj hc)).2).2
      have:=(jcD hl).2.2.2.1
      omega
     ·cases hc
    ·cases hc
theorem jjs:∀ (l:List ByteArray) (i:Nat) (r:ByteArray),r∈l→r.size≠0→∃ j,(j,r)∈jao i l
 | x :: l,i,r,h,h0=>by
  unfold jao;rcases List.mem_cons.1 h with rfl | h
  ·rw[if_neg h0];exact⟨i,List.mem_cons_self⟩
  ·obtain⟨j,hj⟩:=jjs l (i+1) r h h0
   split
   ·exact⟨j,hj⟩
   ·exact⟨j,List.mem_cons_of_mem _ hj⟩
theorem jkb(p r:ByteArray)(h3:r.size≠0):jac.behindN ⟨2,p,⟨#[]⟩,r :: jau 15⟩=1:=by
 have e:jao 0 (r :: jau 15)=[(0,r)]:=by unfold jao;rw[if_neg h3,jdb]
 unfold jac.behindN;have e2:jac.refsL ⟨2,p,⟨#[]⟩,r :: jau 15⟩=[(0,r)]:=e;rw[e2];show jac.ri _ 0+1=1;unfold jac.ri;rw[e2];rfl
def GetE(s:ByteArray):Prop:=∀ w,ErrT w→Calls Tryz.prog 97 #[.string s] w (joM w)
def InlE(s:ByteArray):Prop:=∀ w,ErrT w→Calls Tryz.prog 119 #[.string s] w fun e w'=>e=.returned (.tuple #[jar.V,.bool false])∧Ext w w'
theorem jpo(s:ByteArray)(hs:s.size < 32)(h:GetE s):InlE s:=fun w hG=>by
 have HR:=Hd h;have HG:=Hd hG;have c1:¬(32:Int)≤(s.size:Int):=by omega
 clear h hG;go_enter Tryz.func119,Tryz.ntmps119;go_wp2_with (refine jak Tryz.allocNode rfl rfl ?_;intro W1 hB1 hE1)
 refine (HR.o W1 (HG.o.ext hE1)).mono ?_;rintro e w2 ⟨rfl,hE⟩;have hB2:=hB1.keeps hE (fun h=>h);have HE2:=Hd (hE1.trans hE);clear hB1 hE1 hE;unfold jac.V;go_wp2_with (first |(refine jak Tryz.allocNode rfl rfl ?_;intro W3 hB3 hE3;refine jaf (vs:=jar.cells) rfl rfl rfl rfl hB3 rfl Tryz.szNode jar.one ?_;intro W4 hB4 hE4;have q0:W4.cell? ⟨w2.heap.size,0,none⟩=some (.int .i64 0):=hB4.cellL (by rfl);have hB24:=(hB2.keeps hE3 (fun h=>h)).keeps hE4 (by have:=hB2.lt;omega)) |(refine jaf (vs:=jar.cells) rfl rfl rfl rfl hB24 rfl Tryz.szNode (jac.one _) ?_;intro W8 hB8 hE8))
 refine bodyPost_ret (jag rfl rfl rfl (jal W8 _ jar rfl hB8)) rfl ?_;have hX4:Ext w2 W4:=hE3.trans' hE4 (fun x hx e=>by have e:x=w2.heap.size:=e;omega)
 exact⟨rfl,(HE2.o.trans hX4).trans' hE8 (fun x hx e=>by have e:x=w.heap.size:=e;omega)⟩
theorem jnD(w:World):Calls Tryz.prog 119 #[.string (jaq ⟨#[]⟩)] w fun e w'=>e=.returned (.tuple #[jar.V,.bool false])∧Ext w w':=by
 have HR:=Hd (fun w=>jfq (inlP 0) w jar jbl.none)
 obtain⟨s,hs⟩:∃ s,s=jaq ⟨#[]⟩:=⟨_,rfl⟩
 have hnb:jaK jar=s:=by rw[hs];rfl
 rw[hnb]at HR;have hsz:s.size < 32:=by rw[hs];decide
 have c1:¬(32:Int)≤(s.size:Int):=by omega
 rw[←hs];clear hs hnb hsz;go_enter Tryz.func119,Tryz.ntmps119;go_wp2_with (refine jak Tryz.allocNode rfl rfl ?_;intro W1 hB1 hE1)
 refine (HR.o W1).mono ?_;rintro e w2 ⟨rfl,hE⟩;have hB2:=hB1.keeps hE (fun h=>h);have HE2:=Hd (hE1.trans hE);clear hB1 hE1 hE;unfold jac.V;go_wp2_with (first |(refine jak Tryz.allocNode rfl rfl ?_;intro W3 hB3 hE3;refine jaf (vs:=jar.cells) rfl rfl rfl rfl hB3 rfl Tryz.szNode jar.one ?_;intro W4 hB4 hE4;have q0:W4.cell? ⟨w2.heap.size,0,none⟩=some (.int .i64 0):=hB4.cellL (by rfl);have hB24:=(hB2.keeps hE3 (fun h=>h)).keeps hE4 (by have:=hB2.lt;omega)) |(refine jaf (vs:=jar.cells) rfl rfl rfl rfl hB24 rfl Tryz.szNode (jac.one _) ?_;intro W8 hB8 hE8))
 refine bodyPost_ret (jag rfl rfl rfl (jal W8 _ jar rfl hB8)) rfl ?_;have hX4:Ext w2 W4:=hE3.trans' hE4 (fun x hx e=>by have e:x=w2.heap.size:=e;omega)
 exact⟨rfl,(HE2.o.trans hX4).trans' hE8 (fun x hx e=>by have e:x=w.heap.size:=e;omega)⟩
def ValD(s:ByteArray)(m:jac):Prop:=(∃ d,jbl (InlD d) m∧jaK m≠s)∨∀ w,ErrT w→Calls Tryz.prog 145 #[m.V] w fun e w'=>e=.returned (.bool false)∧Ext w w'
theorem jnv(s:ByteArray)(hR:∀ w,ErrT w→Calls Tryz.prog 144 #[.string s] w (jmW w s))(hV:∀ m,jkO s m→ValD s m):GetE s:=fun w hG=>by
 have HR:=Hd hR;have HV:=Hd hV;have HG:=Hd hG;clear hR hV hG;go_enter Tryz.func97,Tryz.ntmps97;go_wp2_with (refine jak Tryz.allocNode rfl rfl ?_;intro W1 hB1 hE1)
 refine (HR.o W1 (HG.o.ext hE1)).mono ?_;rintro e w2 (⟨m,hm,rfl,hE⟩ |⟨m,hm,hF,rfl,hE⟩)
 ·have hB2:=hB1.keeps hE (fun h=>h)
  have HE2:=Hd (hE1.trans hE);have HL:=Hd (m.cells_len hm);have HM:=Hd hm;clear hB1 hE1 hE hm;unfold jac.V;go_wp2_with (first |(refine jak Tryz.allocNode rfl rfl ?_;intro W3 hB3 hE3;refine jaf (vs:=m.cells) rfl rfl rfl rfl hB3 (by rw[HL.o];rfl) (by rw[HL.o];exact Tryz.szNode) m.one ?_;intro W4 hB4 hE4;have hB24:=(hB2.keeps hE3 (fun h=>h)).keeps hE4 (by have:=hB2.lt;omega)) |(refine jaf (vs:=jar.cells) rfl rfl rfl rfl hB24 rfl Tryz.szNode (jac.one _) ?_;intro W8 hB8 hE8))
  refine bodyPost_ret (jag rfl rfl rfl (jal W8 _ jar rfl hB8)) rfl ?_;have hX4:Ext w2 W4:=hE3.trans' hE4 (fun x hx e=>by have e:x=w2.heap.size:=e;omega)
  exact⟨rfl,(HE2.o.trans hX4).trans' hE8 (fun x hx e=>by have e:x=w.heap.size:=e;omega)⟩
 ·have HB2:=Hd (hB1.keeps hE (fun h=>h))
  have HE2:=Hd (hE1.trans hE);have HL:=Hd (m.cells_len hm);have HM:=Hd hm;have HVM:=Hd (HV.o m hF);clear hB1 hE1 hE hm hF HV;unfold jac.V;go_wp2_with (first |(refine jak Tryz.allocNode rfl rfl ?_;intro W3 hB3 hE3;refine jaf (vs:=m.cells) rfl rfl rfl rfl hB3 (by rw[HL.o];rfl) (by rw[HL.o];exact Tryz.szNode) m.one ?_;intro W4 hB4 hE4) |(refine jah 144 (.tmp 4) rfl rfl _ _ rfl (jap _ _ m HM.o hB4) ?_))
  have hX4:Ext w2 W4:=hE3.trans' hE4 (fun x hx e=>by have e:x=w2.heap.size:=e;omega);rcases HVM.o with⟨d,hgd,hne⟩ | hno
  ·have H:=Hd hgd
   have H1:=Hd (hgd.one (inlP d))
   obtain⟨tx,htx⟩:∃ tx,tx=jaK m:=⟨_,rfl⟩
   rw[←htx]at hne;have hnl:=jbP hne;have HT:=Hd htx;clear hgd hne htx;refine (jeZ (inlP d) W4 m H.o).mono ?_;rintro e w5 ⟨rfl,hE⟩;have hB5:=hB4.keeps hE (fun h=>h);have HX:=Hd (hX4.trans hE);have HB5:=Hd hB5;clear hB3 hE3 hB4 hE4 hX4 hE;go_wp2_with (refine jah 144 (.tmp 4) rfl rfl _ _ rfl (jap _ _ m HM.o hB5) ?_)
   refine (jiE w5 m H1.o).mono ?_;rintro e w6 ⟨rfl,hE⟩;rw[←HT.o];have hX6:=HX.o.trans hE;have hB26:=HB2.o.keeps hX6 (fun h=>h);clear hB5 hE;go_wp2_with (refine jaf (vs:=jar.cells) rfl rfl rfl rfl hB26 rfl Tryz.szNode (jac.one _) ?_;intro W8 hB8 hE8)
   refine bodyPost_ret (jag rfl rfl rfl (jal W8 _ jar rfl hB8)) rfl ?_
   exact⟨rfl,(HE2.o.trans hX6).trans' hE8 (fun x hx e=>by have e:x=w.heap.size:=e;omega)⟩
  ·refine (hno W4 (HG.o.ext (HE2.o.trans hX4))).mono ?_
   rintro e w5 ⟨rfl,hE⟩;have hX6:=hX4.trans hE;have hB26:=HB2.o.keeps hX6 (fun h=>h);clear hB3 hE3 hB4 hE4 hX4 hE hno;go_wp2_with (refine jaf (vs:=jar.cells) rfl rfl rfl rfl hB26 rfl Tryz.szNode (jac.one _) ?_;intro W8 hB8 hE8)
   refine bodyPost_ret (jag rfl rfl rfl (jal W8 _ jar rfl hB8)) rfl ?_
   exact⟨rfl,(HE2.o.trans hX6).trans' hE8 (fun x hx e=>by have e:x=w.heap.size:=e;omega)⟩
def GetD(k:Nat)(s:ByteArray):Prop:=(∃ n,jbl (InlD k) n∧s=jaK n)∨GetE s
theorem jlJ{I:ByteArray→jac→Prop}{n:jac}(h:jbl I n)(h0:n.kind=0):n=jar:=by
 cases h with
 | none=>rfl
 | leaf p v _ _ _=>exact absurd (show (1:Nat)=0 from h0) (by decide)
 | ext p r _ _ _=>exact absurd (show (2:Nat)=0 from h0) (by decide)
 | branch v rs _ _ _ _=>exact absurd (show (3:Nat)=0 from h0) (by decide)
theorem jlP(k:Nat)(r:ByteArray)(h:GetD k r):(∃ m,InlD (k+1) r m)∨InlE r:=by
 by_cases hs:32≤r.size
 ·exact .inr fun w _=>jpn w r hs
 ·rcases h with⟨n,hn,rfl⟩ | h
  ·by_cases h0:n.kind=0
   ·rw[jlJ hn h0]
    exact .inr fun w _=>jnD w
   ·exact .inl ⟨n,hn,rfl,by omega,h0⟩
  ·exact .inr (jpo r (by omega) h)
theorem jpw(k:Nat)(r:ByteArray)(hr:r.size≤1000000)(h:GetD k r):(MayP (InlD (k+1)) r∧MayD true r)∨(¬ MayP (InlD (k+1)) r∧MayD false r):=by
 by_cases hm:MayP (InlD (k+1)) r
 ·exact .inl ⟨hm,fun w _=>jqE (inlP _) w r hm⟩
 ·refine .inr ⟨hm,?_⟩
  have hh:jgF r=none:=by
   cases hh:jgF r with
   | none=>rfl
   | some x=>exact absurd (.inl (jlM hh)) hm
  rcases jlP k r h with⟨m,hm'⟩ | hi
  ·exact absurd (.inr ⟨m,hm'⟩) hm
  ·exact jqF r (by omega) hh hi
theorem jmL(k:Nat)(s:ByteArray)(m:jac)(hs:s.size≤k+1)(hs2:s.size≤400000)(ih:∀ r:ByteArray,r.size≤k→r.size≤400000→GetD k r)(hF:jkO s m):jbl (InlD (k+1)) m∨∀ w,ErrT w→Calls Tryz.prog 145 #[m.V] w fun e w'=>e=.returned (.bool false)∧Ext w w':=by
 rcases hF with⟨p,v,rfl,hp,hps,hvs⟩ |⟨p,y,rfl,hp,hps,hy,hy0⟩ |⟨v,rs,rfl,hrl,hvs,hrs,hrn⟩
 ·have hl:(jau 16).length=16:=rfl
  by_cases h1:(⟨1,p,v,jau 16⟩:jac).pathOk 0=true
  ·by_cases h2:v.size=0
   ·have h2:=jbS h2
    subst h2;exact .inr fun w hG=>jde false w hG _ rfl (show (1:Nat)≤3 by decide) 192 rfl Tryz.enterForm6 fun w _=>jhO w _ rfl hps h1 rfl
   ·by_cases h3:v.size≤80
    ·exact .inl (jbl.leaf p v h1 (by omega) h3)
    ·exact .inr fun w hG=>jde false w hG _ rfl (show (1:Nat)≤3 by decide) 192 rfl Tryz.enterForm6 fun w _=>jkl w _ rfl hps h1 (by show 80 < v.size;omega) (by show v.size≤1000000000;omega)
  ·exact .inr fun w hG=>jde false w hG _ rfl (show (1:Nat)≤3 by decide) 192 rfl Tryz.enterForm6 fun w _=>jiC w _ rfl hps (by simpa using h1)
 ·by_cases h1:(⟨2,p,⟨#[]⟩,y :: jau 15⟩:jac).pathOk 1=true
  ·cases hh:jgF y with
   | some x=>exact .inl (jbl.ext p y h1 hy0 (.inl (jlM hh)))
   | none =>
    have no:∀ (m:jac) (ok:Bool),m.refs.length=16→(∀ w,ErrT w→Calls Tryz.prog 119 #[.string y] w fun e w'=>e=.returned (.tuple #[m.V,.bool ok])∧Ext w w')→(ok=true→m.kind≠3) →
      jbl (InlD (k+1)) (⟨2,p,⟨#[]⟩,y :: jau 15⟩:jac)∨∀ w,ErrT w→Calls Tryz.prog 145 #[(⟨2,p,⟨#[]⟩,y :: jau 15⟩:jac).V] w fun e w'=>e=.returned (.bool false)∧Ext w w':=fun m ok hm hI hk =>
     .inr fun w hG=>jde false w hG _ rfl (show (2:Nat)≤3 by decide) 193 rfl Tryz.enterForm7 fun w hG=>jlC w hG _ y m ok rfl h1 rfl (jkb p y hy0) rfl (by omega) hh hm hI hk
    rcases jlP k y (ih y (by omega) (by omega))with⟨m,hm⟩ | hi
    ·by_cases h3:m.kind=3
     ·exact .inl (jbl.ext p y h1 hy0 (.inr ⟨m,hm,h3⟩))
     ·exact no m true ((inlP _).refs y m hm) (fun w _=>(inlP _).inl y m hm w) (fun _=>h3)
    ·exact no jar false rfl hi (fun h=>by cases h)
  ·exact .inr fun w hG=>jde false w hG _ rfl (show (2:Nat)≤3 by decide) 193 rfl Tryz.enterForm7 fun w _=>jkc w _ rfl hps (by simpa using h1)
 ·by_cases h8:v.size≤80
  ·open Classical in
   obtain⟨M,hM⟩:∃ M:ByteArray→Bool,M=fun r=>decide (MayP (InlD (k+1)) r):=⟨_,rfl⟩
   have hd:∀ r∈rs,r.size≠0→MayD (M r) r:=fun r hr h0=>by
    have hrk:=hrs r hr;rcases jpw k r (by omega) (ih r (by omega) (by omega))with⟨h1,h2⟩ |⟨h1,h2⟩
    ·have e:M r=true:=by rw[hM];exact decide_eq_true h1
     rw[e];exact h2
    ·have e:M r=false:=by rw[hM];exact decide_eq_false h1
     rw[e];exact h2
   cases hb:braN M ⟨3,⟨#[]⟩,v,rs⟩with
   | true =>
    unfold braN at hb;rw[Bool.and_eq_true]at hb
    obtain⟨h2,h3⟩:=hb
    rw[List.all_eq_true]at h3;refine .inl (jbl.branch v rs hrl h8 (fun r hr h0=>?_) (of_decide_eq_true h2))
    obtain⟨j,hj⟩:=jjs rs 0 r hr h0
    have:M r=true:=h3 (j,r) hj
    rw[hM]at this;exact of_decide_eq_true this
   | false =>
    refine .inr fun w hG=>jde false w hG _ hrl (show (3:Nat)≤3 by decide) 194 rfl Tryz.enterForm8 fun w hG=>?_
    have:=jna w hG ⟨3,⟨#[]⟩,v,rs⟩ hrl rfl h8 M hd
    rwa [hb]at this
  ·exact .inr fun w hG=>jde false w hG _ hrl (show (3:Nat)≤3 by decide) 194 rfl Tryz.enterForm8 fun w _=>jhm w _ rfl (by show 80 < v.size;omega) (by show v.size≤1000000000;omega)
theorem jpi:∀ (k:Nat) (s:ByteArray),s.size≤k→s.size≤400000→GetD k s:=by
 have one:∀ (k:Nat) (s:ByteArray),s.size≤400000→(∀ m,jkO s m→jbl (InlD k) m∨∀ w,ErrT w→Calls Tryz.prog 145 #[m.V] w fun e w'=>e=.returned (.bool false)∧Ext w w')→GetD k s:=fun k s hs hv=>by
  by_cases hn:∃ n,jbl (InlD k) n∧s=jaK n
  ·exact .inl hn
  ·have hne:s≠jaq ⟨#[]⟩:=fun e=>hn ⟨jar,jbl.none,e⟩
   refine .inr (jnv s (fun w hG=>jn7 w hG s hs hne) fun m hF=>?_);rcases hv m hF with h | h
   ·exact .inl ⟨k,h,fun e=>hn ⟨m,h,e.symm⟩⟩
   ·exact .inr h
 intro k;induction k with
 | zero =>
  intro s hs hs2
  have:s=⟨#[]⟩:=jbS (by omega)
  subst this;exact .inr fun w _=>jpj w _ fun w=>jeK w _ (by decide) jpc
 | succ k ih=>exact fun s hs hs2=>one (k+1) s hs2 fun m hF=>jmL k s m hs hs2 ih hF
theorem jqs(s:ByteArray)(hs:s.size≤400000):(∃ n,jbq s n)∨GetE s:=by
 rcases jpi s.size s (Nat.le_refl _) hs with⟨n,h1,h2⟩ | h
 ·exact .inl ⟨n,h2,s.size,h1⟩
 ·exact .inr h
end
end Go.Proofs.YtcpnjmcipainpaaGreatDoor
