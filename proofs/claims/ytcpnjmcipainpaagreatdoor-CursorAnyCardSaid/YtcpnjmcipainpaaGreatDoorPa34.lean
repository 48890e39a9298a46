/- Parts of the proof, one behind the other: AddA, AddB, AddC, AddD, StoreAh, StoreI, StoreJ, StoreL, StoreM, StorePl, DropA, DropB, DropC, DropD, HoldA, KeepA, jg7. Each is under no condition but those that it states. -/
import Derived.Test.YtcpnjmcipainpaaGreatDoorPa27
import Derived.Test.YtcpnjmcipainpaaGreatDoorPa33
import Derived.Test.YtcpnjmcipainpaaGreatDoorPa22
import Derived.Test.YtcpnjmcipainpaaGreatDoorPa25
import Derived.Test.YtcpnjmcipainpaaGreatDoorPa18
import Derived.WalkMore
namespace Go.Proofs.YtcpnjmcipainpaaGreatDoor
set_option linter.unusedSimpArgs false
set_option linter.unusedVariables false
set_option maxRecDepth 100000
set_option maxHeartbeats 16000000
section
open Go Go.RowKit
attribute [local go_sem] Oper.semAt_some
def joY(W:World)(b c:Nat):Prop:=∃ rv,W.cell? ⟨b,1,none⟩=some rv∧rv.ownBlock=some c
def RK(w W:World):Prop:=w.heap.size≤W.heap.size∧∀ b,b < w.heap.size→∀ c,joY W b c→joY w b c
theorem jhr{W W':World}{b i:Nat}(h:W'.heap[b]?=W.heap[b]?):W'.cell? ⟨b,i,none⟩=W.cell? ⟨b,i,none⟩:=by unfold World.cell?;rw[h]
theorem RK.refl(w:World):RK w w:=⟨Nat.le_refl _,fun _ _ _ h=>h⟩
theorem RK.trans{a b c:World}(h:RK a b)(k:RK b c):RK a c:=⟨Nat.le_trans h.1 k.1,fun x hx y r=>h.2 x hx y (k.2 x (Nat.lt_of_lt_of_le hx h.1) y r)⟩
theorem RK.keeps{F:BSet}{w W W':World}(h:RK w W)(k:jae F W W')(hF:∀ b,F b→w.heap.size≤b):RK w W':=⟨Nat.le_trans h.1 k.size,fun b hb c r=>by
 obtain⟨rv,h1,h2⟩:=r
 rw[jhr (k.block b (Nat.lt_of_lt_of_le hb h.1) (fun f=>by have:=hF b f;omega))]at h1;exact h.2 b hb c ⟨rv,h1,h2⟩⟩
theorem RK.ext{w W W':World}(h:RK w W)(e:Ext W W'):RK w W':=h.keeps e (fun _ f=>f.elim)
theorem RK.put{w W W':World}{bm:Nat}{es:Array MapEntry}{ck:Nat}(h:RK w W)(k:jae (fun z=>z=bm) W W')(hm:Blk W' bm (.map es ck)):RK w W':=⟨Nat.le_trans h.1 k.size,fun b hb c r=>by
 obtain⟨rv,h1,h2⟩:=r
 by_cases e:b=bm
 ·subst e
  unfold World.cell? at h1;rw[show W'.heap[b]?=_ from hm]at h1;cases h1
 ·rw[jhr (k.block b (Nat.lt_of_lt_of_le hb h.1) e)]at h1
  exact h.2 b hb c ⟨rv,h1,h2⟩⟩
theorem RK.set{w W:World}(h:RK w W)(zb:Nat){f:Nat}(hf:f=2∨f=3)(v:Value):RK w (W.setCell ⟨zb,f,none⟩ v):=⟨by rw[World.size_setCell];exact h.1,fun b hb c r=>by
 obtain⟨rv,h1,h2⟩:=r
 rw[World.cell?_setCell_other _ _ _ _ (fun e=>by have:=congrArg Addr.off e;rcases hf with rfl | rfl <;> cases this)]at h1;exact h.2 b hb c ⟨rv,h1,h2⟩⟩
def jim(w W:World)(G:List Nd5):Prop:=∀ x∈G,∀ c,joY W x.2.1 c→w.heap.size≤c
theorem jim.rk{w W W':World}{G:List Nd5}(h:jim w W G)(hk:RK W W')(hl:∀ x∈G,x.2.1 < W.heap.size):jim w W' G:=fun x hx c r=>h x hx c (hk.2 _ (hl x hx) c r)
def AnyL(L:List ByteArray):Prop:=∀ t∈L,(∃ n,jbq t n)∨GetE t
theorem jm2{L:List ByteArray}(h:∀ t∈L,t.size≤400000):AnyL L:=fun t ht=>jqs t (h t ht)
def jp9(w:World)(bg:Nat)(L:List ByteArray)(iv:Value)(W:World):Prop:=∃ i:Nat,i≤L.length∧iv=.int .i64 i∧(∀ t∈L.take i,∃ n,jbq t n)∧∃ G,ReS w bg G (L.take i) W∧jim w W G
def AnyQ(Q:Prop)(L:List ByteArray):Prop:=∀ t∈L,(∃ n,jbq t n)∨(GetE t∧Q)
theorem jrm{L:List ByteArray}(h:AnyL L):AnyQ True L:=fun t ht=>(h t ht).imp id (fun e=>⟨e,trivial⟩)
theorem jjT{L:List ByteArray}(h:∀ t∈L,∃ n,jbq t n):AnyQ False L:=fun t ht=>.inl (h t ht)
def RdA(Q:Prop)(w:World)(L:List ByteArray)(e:Ending)(w':World):Prop:=(e=.returned (.tuple #[.map none,.int .i64 2])∧Ext w w'∧Q)∨((∀ t∈L,∃ n,jbq t n)∧∃ bg G,e=.returned (.tuple #[.map (some bg),.int .i64 0])∧ReS w bg G L w'∧jim w w' G)
theorem jjE{L:List ByteArray}{i:Nat}{t:ByteArray}{P:ByteArray→Prop}(h:∀ x∈L.take i,P x)(ht:L[i]?=some t)(hp:P t):∀ x∈L.take (i+1),P x:=fun x hx=>by
 rw[List.take_add_one,ht]at hx;rcases List.mem_append.1 hx with hx | hx
 ·exact h x hx
 ·have hx:x∈[t]:=hx
  rw[List.mem_singleton.1 hx];exact hp
theorem jmz(w:World)(hc:jch w)(hGE:ErrT w)(v:Value)(L:List ByteArray)(hv:RdS w v L)(hl:L.length≤1000)(h0:L≠[])(Q:Prop)(hN:AnyQ Q L) :
  Calls Tryz.prog 81 #[v] w (RdA Q w L):=by
 have hpos:0 < L.length:=List.length_pos_iff.2 h0
 obtain⟨a,c,rfl,_⟩:=hv.slice
 have HL3:=Hd hv;have HC:=Hd hc;have HN:=Hd hN;have HGE:=Hd hGE;have hmm:=Tryz.makeMapIt w;clear hv hc hN h0 hGE;have hb0:((L.length:Int) == 0)=false:=by simpa using (by omega:L.length≠0)
 go_enter Tryz.func81,Tryz.ntmps81;go_wp2_with fail
 obtain⟨bg,hbg⟩:∃ bg,bg=w.heap.size:=⟨_,rfl⟩
 have HBG:=Hd hbg;rw[←hbg];clear hbg hmm;go_loopw [16] (fun iv wr=>jp9 w bg L iv wr) (fun iv _=>L.length - (intOf iv).toNat)
 case atStart =>
  refine⟨0,Nat.zero_le _,rfl,fun t ht=>(by cases ht),[],⟨(ExtR w).alloc _,⟨⟨[],0,?_,MapV.nil 0⟩,by simp,fun x hx=>by cases hx⟩,rfl,by rw[HBG.o];exact Nat.le_refl _,fun x hx=>by cases hx⟩,fun x hx=>by cases hx⟩
  rw[HBG.o];exact Blk.new w _
 case round =>
  obtain⟨i,hi,rfl,hall,G,hS,hrn⟩:=hrel
  have HRN:=Hd hrn;clear hrn;have HALL:=Hd hall;have HSR:=Hd hS;clear hS hall
  by_cases hlt:i < L.length
  ·have b1:(i:Int) < (L.length:Int):=by omega
   obtain⟨t,ht⟩:∃ t,L[i]?=some t:=⟨_,List.getElem?_eq_getElem hlt⟩
   obtain⟨ax,cx,hh,hcell⟩:=HL3.o.slice
   obtain⟨ba,oa,hao,hqa⟩:=hcell i t ht
   subst hao;cases hh;have q1:=jab hqa HSR.o.ext;rcases HN.o t (List.mem_of_getElem? ht)with hnode |⟨hbad,hq⟩
   case inr =>
    have HBAD:=Hd hbad;have HQ:=Hd hq
    obtain⟨n,hn⟩:∃ n,n=jar:=⟨_,rfl⟩
    have HRF:=Hd (show n.refs.length=16 by rw[hn];rfl);have hg:=HBAD.o wr (HGE.o.ext HSR.o.ext);unfold joM at hg;rw[←hn]at hg;clear hcell hqa ht hbad hn hq;go_wp2_with fail
    refine hg.mono ?_;rintro e w4 ⟨rfl,hE⟩;have HX4:=Hd (HSR.o.ext.trans hE);clear hE hg q1;unfold jac.V;go_wp2_with (refine jak Tryz.allocNode rfl rfl ?_;intro W3 hB3 hE3;refine jaf (vs:=n.cells) rfl rfl rfl rfl hB3 (by rw[n.cells_len HRF.o];rfl) (by rw[n.cells_len HRF.o];exact Tryz.szNode) (jac.one _) ?_;intro W4 hB4 hE4;have hE34:Ext w4 W4:=hE3.trans' hE4 (fun x hx e=>by have e:x=w4.heap.size:=e;omega))
    go_ret2;exact .inl ⟨rfl,HX4.o.trans hE34,HQ.o⟩
   have HALL2:=Hd (jjE HALL.o ht hnode)
   obtain⟨n0,hn0⟩:=hnode
   have hIs:=jdv hn0;have HTS:=Hd (jkv ht);have HIT:=Hd (show itOf t=⟨t,jaI (nodeOf t),0,0⟩from rfl)
   obtain⟨n,hnn⟩:∃ n,n=nodeOf t:=⟨_,rfl⟩
   rw[←hnn]at hIs HIT;have h16:=jft hIs
   obtain⟨htx,g,hg⟩:=hIs
   have HG:=Hd hg;have HRF:=Hd ((hg.one (inlP g)).refs);have HTX:=Hd htx;clear hcell hn0 hnn htx hg hqa ht;go_wp2_with fail
   rw[HTX.o];refine (jfq (inlP g) wr n HG.o).mono ?_;rintro e w4 ⟨rfl,hE⟩;rw[←HTX.o];have HX4:=Hd hE;clear hE q1;unfold jac.V;go_wp2_with (refine jak Tryz.allocNode rfl rfl ?_;intro W3 hB3 hE3;refine jaf (vs:=n.cells) rfl rfl rfl rfl hB3 (by rw[n.cells_len HRF.o];rfl) (by rw[n.cells_len HRF.o];exact Tryz.szNode) (jac.one _) ?_;intro W4 hB4 hE4;have hE34:Ext w4 W4:=hE3.trans' hE4 (fun x hx e=>by have e:x=w4.heap.size:=e;omega))
   have HX5:=Hd (HX4.o.trans hE34);have HB5:=Hd hB4;clear hB3 hE3 hB4 hE4 hE34 HX4;refine (of_t _ _ [t] (by simp) (jfI W4 [t] 9) (HC.o.ext ((HSR.o.ext.trans HX5.o).alloc _))).mono ?_;rintro e w6 ⟨rfl,hE⟩;rw[jeS];have hx6:=((ExtR W4).alloc (.cells #[.string t] 9)).trans hE;have HX6:=Hd (HX5.o.trans hx6);have HB6:=Hd (HB5.o.keeps hx6 (fun h=>h));have HS6:=Hd (HSR.o.keeps HX6.o);have hlk:=HS6.o.at'.look (shaB t) false;have HNA:=Hd (jo5 (L:=G) (k:=ky t));have HKY:=Hd (show (shaB t).data.toList=ky t from rfl);have HAD:=Hd (show addG (G.map kvI) t=if (G.map kvI).any (fun x=>decide (ky t=x.1))then G.map kvI else G.map kvI++[(ky t,itOf t)]from rfl);rw[HKY.o]at hlk;simp only[Bool.false_eq_true,if_false]at hlk
   obtain⟨sh,hsh⟩:∃ sh,sh=shaB t:=⟨_,rfl⟩
   rw[←hsh]at hlk HKY ⊢
   obtain⟨kt,hkt⟩:∃ kt,kt=ky t:=⟨_,rfl⟩
   rw[←hkt]at hlk HKY HNA HAD;clear hE hx6 HX5 HB5 hsh hkt;cases ha:atL G kt with
   | some x =>
    rw[ha]at hlk;unfold ptrO at hlk;simp only at hlk;have hz:addG (G.map kvI) t=G.map kvI:=by rw[HAD.o,HNA.o,ha];rfl
    have HZ:=Hd hz;clear ha hz;go_wp2_with fail
    go_roundw
    case rel =>
     exact⟨i+1,by omega,by go_num,HALL2.o,G,⟨HS6.o.ext,HS6.o.at',by rw[HTS.o, ←HS6.o.is,HZ.o],HS6.o.new,HS6.o.news⟩,HRN.o.rk ((RK.refl _).ext HX6.o) (fun x hx=>(HSR.o.at'.items x hx).lt)⟩
    case measure=>simp[intOf];omega
   | none =>
    rw[ha]at hlk;unfold ptrO at hlk;simp only at hlk;have hz:addG (G.map kvI) t=G.map kvI++[(kt,itOf t)]:=by rw[HAD.o,HNA.o,ha];rfl
    have HZ:=Hd hz;have HA:=Hd ha;have hld6:=jap w6 _ n HRF.o HB6.o;unfold jac.V at hld6;clear ha hz;go_wp2_with (refine jah 144 (.tmp 7) rfl rfl _ _ rfl hld6 ?_)
    refine (jjf g n HG.o w6).mono ?_;rintro e w8 ⟨v8,rfl,hR8,hnil⟩;have hE8:=hR8.ext;have hnew8:=hR8.new;have hown:=hR8.own
    obtain⟨a8,c8,rfl⟩:=hR8.sl
    have S8:=HS6.o.keeps hE8;have hA9:=S8.at'.ext ((ExtR w8).alloc (.cells #[.string t,.slice a8 (jaI n).length c8,.int .i64 0,.int .i64 0] 125));have hb9:=Blk.new w8 (.cells #[.string t,.slice a8 (jaI n).length c8,.int .i64 0,.int .i64 0] 125);have hi9:jdg (w8.alloc (.cells #[.string t,.slice a8 (jaI n).length c8,.int .i64 0,.int .i64 0] 125)) w8.heap.size (itOf t):=by
     rw[HIT.o]
     exact⟨_,hb9,ja7 hown ((ExtR w8).alloc _)⟩
    obtain⟨ob,hmu,hA10⟩:=hA9.put sh (by rw[HKY.o];exact HA.o) hi9 (fun x hx e=>by have:=(S8.at'.items x hx).lt;omega)
    rw[HKY.o]at hA10;have hE10:Ext w ((w8.alloc (.cells #[.string t,.slice a8 (jaI n).length c8,.int .i64 0,.int .i64 0] 125)).putObj bg ob):=(S8.ext.alloc _).putObj (.inr S8.new) _;have hsz6:=S8.ext.size;have hrk8:RK wr w8:=((RK.refl _).ext HX6.o).ext hE8;have hobm:∃ es ck,Blk ((w8.alloc (.cells #[.string t,.slice a8 (jaI n).length c8,.int .i64 0,.int .i64 0] 125)).putObj bg ob) bg (.map es ck):=by
     obtain⟨es,ck,h1,_⟩:=hA10.mp
     exact⟨_,ck,h1⟩
    obtain⟨oes,ock,hobm⟩:=hobm
    have hrk10:=(hrk8.ext ((ExtR w8).alloc (.cells #[.string t,.slice a8 (jaI n).length c8,.int .i64 0,.int .i64 0] 125))).put (jae.onePut _ bg ob) hobm;have HRN10:=Hd (show jim w ((w8.alloc (.cells #[.string t,.slice a8 (jaI n).length c8,.int .i64 0,.int .i64 0] 125)).putObj bg ob) (G++[(kt,w8.heap.size,itOf t)])from fun x hx c r=>by
     rcases List.mem_append.1 hx with hx | hx
     ·exact HRN.o.rk hrk10 (fun x hx=>(HSR.o.at'.items x hx).lt) x hx c r
     ·rw[List.mem_singleton.1 hx]at r
      obtain⟨rv,r1,r2⟩:=r
      have hne:w8.heap.size≠bg:=fun e=>by
       obtain⟨_,_,h1,_⟩:=S8.at'.mp
       have:=h1.lt;omega
      have hq:((w8.alloc (.cells #[.string t,.slice a8 (jaI n).length c8,.int .i64 0,.int .i64 0] 125)).putObj bg ob).cell? ⟨w8.heap.size,1,none⟩=some (.slice a8 (jaI n).length c8):=(hb9.keeps (jae.onePut _ bg ob) hne).cell (i:=1) (by rfl);have r1:_=some rv:=r1;rw[hq]at r1;have e:=Option.some.inj r1;rw[←e]at r2
      have:=hnew8 c r2
      have:=HS6.o.ext.size
      omega)
    have HE10:=Hd hE10;have HA10:=Hd hA10;have HNW:=Hd (show w.heap.size≤w8.heap.size from S8.ext.size);clear hrk8 hobm hrk10 hsz6 hE10 hA10 hi9 hb9 hA9 S8 hown hnew8 hE8 hR8 hnil hld6 hlk;go_wp2_with fail
    go_roundw
    case rel =>
     refine⟨i+1,by omega,by go_num,HALL2.o,G++[(kt,w8.heap.size,itOf t)],⟨HE10.o,HA10.o,?_,HS6.o.new,?_⟩,HRN10.o⟩
     ·rw[HTS.o, ←HS6.o.is,HZ.o,List.map_append];rfl
     ·intro x hx
      rcases List.mem_append.1 hx with hx | hx
      ·exact HS6.o.news x hx
      ·simp only[List.mem_singleton]at hx;subst hx;exact HNW.o
    case measure=>simp[intOf];omega
  ·have hie:i=L.length:=by omega
   subst hie;have HS:=Hd (show ReS w bg G L wr by have:=HSR.o;rwa [List.take_length]at this);clear HSR;go_wp2_with fail
   go_ret2;exact .inr ⟨by have h:=HALL.o;rwa [List.take_length]at h,bg,G,rfl,HS.o,HRN.o⟩
def okM(S G:List Nd5)(M:List ByteArray)(x:ByteArray):Bool:=memB (jaW M) x ||(atL S x.data.toList).isSome ||(atL G x.data.toList).isSome
theorem jjk(w0:World)(s bm:Nat)(room:Int)(S G:List Nd5)(bg b:Nat)(h:jat w0 s bm room S)(hG:jcm w0 bg G)(W:World)(M:List ByteArray)(hM:Meet w0 s S bg b M W)(x:ByteArray)(hl:M.length≤1000000) :
  Calls Tryz.prog 136 #[.string x,.pointer (some ⟨b+4,0,none⟩),.pointer (some ⟨b,0,none⟩),.pointer (some ⟨b+2,0,none⟩),.pointer (some ⟨b+1,0,none⟩)] W fun e w'=>e=.returned (.bool (okM S G M x))∧Meet w0 s S bg b (M++[x]) w':=by
 have HM:=Hd hM;have HS:=Hd h
 obtain⟨es,ck,h5,h6⟩:=hM.tab
 obtain⟨v,n,h1,h2,h3,h4⟩:=hM.var
 obtain⟨ad,cp,rfl⟩:=jaH h2
 obtain⟨cn,hcn⟩:∃ cn,cn=cntB M x:=⟨_,rfl⟩
 have hcl:cn≤1000000:=by
  rw[hcn];unfold cntB;refine Nat.le_trans List.count_le_length ?_;rw[List.length_map];exact hl
 have e6:=h6 x;rw[←hcn]at e6;have hlk:(Instr.lookup 107 (.map (some (b+3))) (.string x) false).run Tryz.prog W=.ok (.int .i64 (cn:Int)) W:=by
  have:=jc1 Tryz.ES Tryz.uMapSI h5 (Tryz.zeroI W) x.data.toList false
  rw[e6]at this;unfold cntV at this
  by_cases h0:cn=0
  ·rw[if_pos h0]at this;rw[h0];exact this
  ·rw[if_neg h0]at this;exact this
 obtain⟨es2,hes2⟩:∃ es2,es2=jbC es x.data.toList (.int .i64 ((cn:Int)+1)) ck:=⟨_,rfl⟩
 obtain⟨ck2,hck2⟩:∃ ck2,ck2=(if (jaZ es x.data.toList).isSome then ck else ck+1):=⟨_,rfl⟩
 obtain⟨W2,hW2⟩:∃ W2,W2=W.putObj (b+3) (.map (Tryz.ES.arr es2) ck2):=⟨_,rfl⟩
 have hmu:(Instr.mapUpdate 107 (.map (some (b+3))) (.string x) (.int .i64 ((cn:Int)+1))).run Tryz.prog W=.ok () W2:=by
  have:=jdc Tryz.ES Tryz.uMapSI h5 x.data.toList (.int .i64 ((cn:Int)+1))
  rw[←hes2, ←hck2, ←hW2]at this;exact this
 have B2:Blk W2 (b+3) (.map (Tryz.ES.arr es2) ck2):=by rw[hW2];exact h5.put_same _
 have e7:∀ y:ByteArray,jaZ es2 y.data.toList=cntV (cntB (M++[x]) y):=fun y=>by
  rw[hes2,jcT,h6 y,jlm]
  by_cases hxy:y.data.toList=x.data.toList
  ·have hyx:y=x:=ByteArray.ext (Array.ext' hxy)
   subst hyx;rw[if_pos rfl,if_pos rfl, ←hcn];unfold cntV;rw[if_neg (by omega)];simp
  ·rw[if_neg hxy,if_neg (fun e=>hxy e.symm)];rfl
 have hlk2:(Instr.lookup 107 (.map (some (b+3))) (.string x) false).run Tryz.prog W2=.ok (.int .i64 ((cn:Int)+1)) W2:=by
  have:=jc1 Tryz.ES Tryz.uMapSI B2 (Tryz.zeroI W2) x.data.toList false
  rw[hes2,jcT,if_pos rfl]at this;exact this
 have K2:jae (fun z=>z=b+3) W W2:=by rw[hW2];exact jae.onePut _ _ _
 have q9:W.cell? ⟨b+4,0,none⟩=some (.map (some (b+3))):=hM.c9.cell (i:=0) (by rfl);have E2:Ext w0 W2:=hM.ext.trans' K2 (fun y hy e=>by have e:y=_:=e;have:=hM.lo;omega);have C9:=hM.c9.keeps K2 (by omega);have q92:W2.cell? ⟨b+4,0,none⟩=some (.map (some (b+3))):=C9.cell (i:=0) (by rfl);have C3:=hM.c3.keeps K2 (by omega);have q32:W2.cell? ⟨b,0,none⟩=some (.pointer (some ⟨s,0,none⟩)):=C3.cell (i:=0) (by rfl);have C5:=hM.c5.keeps K2 (by omega);have V2:=h1.keeps K2 (by omega);have O2:=jaG h2 K2 (fun z hz e=>by have:=h4 z hz;have e:z=_:=e;omega);have hV2:W2.cell? ⟨b+2,0,none⟩=some (.slice ad n cp):=V2.cell (i:=0) (by rfl);have hV2f:W2.frozen? ⟨b+2,0,none⟩=false:=V2.frozen;have qs:=(h.st.keeps E2 (fun g=>g)).cell (i:=1) (v:=.map (some bm)) (by rfl);have hlks:=(h.mp.ext E2).look x false;simp only[Bool.false_eq_true,if_false]at hlks;have HMEM:=Hd (show memB (jaW M) x=true↔cn≠0 from by
  rw[jec,jbi,hcn];unfold cntB;rw[←Nat.pos_iff_ne_zero,List.count_pos_iff,List.mem_map]
  exact⟨fun hm=>⟨x,hm,rfl⟩,fun ⟨y,hy,e⟩=>by rw[←show y=x from ByteArray.ext (Array.ext' e)];exact hy⟩)
 have HFS:=Hd (jja S M x);have HTAB:=Hd (show ∃ es ck,Blk W2 (b+3) (.map (Tryz.ES.arr es) ck)∧∀ y:ByteArray,jaZ es y.data.toList=cntV (cntB (M++[x]) y)from⟨es2,ck2,B2,e7⟩);have HGM:=Hd (show ∀ W3:World,Ext w0 W3→jcm W3 bg G from fun _ e=>hG.ext e)
 obtain⟨ok,hok⟩:∃ ok,ok=okM S G M x:=⟨_,rfl⟩
 rw[←hok];have HOK:=Hd hok;clear hok;have HK2:=Hd K2;have HC3:=Hd C3;have HC5:=Hd C5;have HC9:=Hd C9;have HV2:=Hd V2;have HO2:=Hd O2;have HE2:=Hd E2;have H4:=Hd h4;have H3:=Hd h3;have HLO:=Hd hM.lo;have HEND:=Hd (show frK S (M++[x])=frK S M→Meet w0 s S bg b (M++[x]) W2 from fun e=>⟨E2,hM.lo,C3,C5,C9,⟨es2,ck2,B2,e7⟩,_,n,V2,by rw[e];exact O2,by rw[List.length_append];omega,h4⟩);clear hM h h1 h2 h4 h5 h6 hcn e6 hes2 hck2 hW2 B2 e7 K2 C3 C5 C9 V2 O2 E2 hG
 by_cases hc0:cn=0
 ·subst hc0
  have hnm:memB (jaW M) x=false:=by
   cases hm:memB (jaW M) x with
   | false=>rfl
   | true=>exact absurd rfl (HMEM.o.1 hm)
  have HNM:=Hd hnm;have hlk':(Instr.lookup 107 (.map (some (b+3))) (.string x) false).run Tryz.prog W=.ok (.int .i64 0) W:=hlk;have hmu':(Instr.mapUpdate 107 (.map (some (b+3))) (.string x) (.int .i64 1)).run Tryz.prog W=.ok () W2:=hmu;have hlk2':(Instr.lookup 107 (.map (some (b+3))) (.string x) false).run Tryz.prog W2=.ok (.int .i64 1) W2:=hlk2;clear hnm hlk hmu hlk2;cases hs:atL S x.data.toList with
  | some y =>
   rw[hs]at hlks;unfold ptrO at hlks;simp only at hlks;have HFE:=Hd (show frK S (M++[x])=frK S M by rw[HFS.o,HNM.o,hs];rfl);have hok:ok=true:=by rw[HOK.o];unfold okM;rw[hs];simp
   subst hok;clear hs HOK;go_enter Tryz.func136,Tryz.ntmps136;go_wp2_with fail
   go_ret
   exact⟨rfl,HEND.o HFE.o⟩
  | none =>
   rw[hs]at hlks;unfold ptrO at hlks;simp only at hlks;have HFE:=Hd (show frK S (M++[x])=frK S M++[x] by rw[HFS.o,HNM.o,hs];rfl);have hok:ok=(atL G x.data.toList).isSome:=by rw[HOK.o];unfold okM;rw[hs,HNM.o];simp
   have HOK2:=Hd hok;clear hs HOK hok;have hm1:n+1≤maxLen:=by have:=H3.o;unfold maxLen;omega
   have hm2:(n+1) * 16≤140737488355328:=by have:=H3.o;omega
   cases hyg:atL G x.data.toList with
   | some yg =>
    have HGY:=Hd hyg;have hok:ok=true:=by rw[HOK2.o,hyg];rfl
    subst hok;clear hyg HOK2;go_enter Tryz.func136,Tryz.ntmps136
    obtain⟨i0,hi,hz0,hz1,hz2⟩:=info_parts Tryz.infoStr
    go_wp2_with (at_builtin;refine jc3 _ rfl (.tmp 24) (.tmp 26) 34 rfl 9 i0 _ 1 16 Tryz.uStrs hi hz0 hz1 hz2 rfl (by decide) (.slice ad n cp) n _ rfl (ja7 HO2.o ((ExtR W2).alloc _)) ⟨W2.heap.size,0,none⟩ 1 1 [.string x] rfl rfl (jbe (Blk.new W2 _)) (by simp[Value.oneCell']) hm1 hm2 ?_;intro v' w6 r1 r2 r3;obtain⟨ad',cp',rfl⟩:=jaH r1;have K6:jae (fun z=>(Value.slice ad n cp).ownBlock=some z) W2 w6:=((jae.refl _ W2).alloc _).trans r2;have nO:∀ z,z < b+5→¬(Value.slice ad n cp).ownBlock=some z:=(fun z hz e=>by have:=H4.o z e;omega);have hV6:=HV2.o.keeps K6 (nO _ (by omega));have q56:w6.cell? ⟨b+2,0,none⟩=some (.slice ad n cp):=hV6.cell (i:=0) (by rfl);have f56:w6.frozen? ⟨b+2,0,none⟩=false:=hV6.frozen;have K7:jae (fun z=>z=b+2) w6 (w6.setCell ⟨b+2,0,none⟩ (.slice ad' (n+1) cp')):=jae.oneSet w6 ⟨b+2,0,none⟩ _;have C57:=(HC5.o.keeps K6 (nO _ (by omega))).keeps K7 (by omega);have q57:=C57.cell (i:=0) (v:=.map (some bg)) (by rfl);have E7:Ext w0 (w6.setCell ⟨b+2,0,none⟩ (.slice ad' (n+1) cp')):=(HE2.o.trans' K6 (fun y hy e=>by have:=H4.o y e;have:=HLO.o;omega)).trans' K7 (fun y hy e=>by have e:y=_:=e;have:=HLO.o;omega);have hlkg:=(HGM.o _ E7).look x false;rw[HGY.o]at hlkg;unfold ptrO at hlkg;simp only[Bool.false_eq_true,if_false]at hlkg)
    go_ret
    refine⟨rfl,E7,HLO.o,(HC3.o.keeps K6 (nO _ (by omega))).keeps K7 (by omega),C57,(HC9.o.keeps K6 (nO _ (by omega))).keeps K7 (by omega),?_,.slice ad' (n+1) cp',n+1,hV6.set_same (i:=0) _,?_,?_,?_⟩
    ·obtain⟨es3,ck3,hT1,hT2⟩:=HTAB.o
     exact⟨es3,ck3,(hT1.keeps K6 (nO _ (by omega))).keeps K7 (by omega),hT2⟩
    ·rw[HFE.o,List.map_append]
     refine jaG r1 K7 (fun z hz e=>?_);have e:z=b+2:=e;rcases r3 with r3 | r3
     ·have:=H4.o z (r3 ▸ hz);omega
     ·have h9:=r3 z hz;rw[World.size_alloc]at h9;have:=HV2.o.lt;omega
    ·have:=H3.o;rw[List.length_append];exact Nat.succ_le_succ this
    ·intro z hz
     rcases r3 with r3 | r3
     ·exact H4.o z (r3 ▸ hz)
     ·have h9:=r3 z hz;rw[World.size_alloc]at h9;have:=HC9.o.lt;omega
   | none =>
    have HGY:=Hd hyg;have hok:ok=false:=by rw[HOK2.o,hyg];rfl
    subst hok;clear hyg HOK2;go_enter Tryz.func136,Tryz.ntmps136
    obtain⟨i0,hi,hz0,hz1,hz2⟩:=info_parts Tryz.infoStr
    go_wp2_with (at_builtin;refine jc3 _ rfl (.tmp 24) (.tmp 26) 34 rfl 9 i0 _ 1 16 Tryz.uStrs hi hz0 hz1 hz2 rfl (by decide) (.slice ad n cp) n _ rfl (ja7 HO2.o ((ExtR W2).alloc _)) ⟨W2.heap.size,0,none⟩ 1 1 [.string x] rfl rfl (jbe (Blk.new W2 _)) (by simp[Value.oneCell']) hm1 hm2 ?_;intro v' w6 r1 r2 r3;obtain⟨ad',cp',rfl⟩:=jaH r1;have K6:jae (fun z=>(Value.slice ad n cp).ownBlock=some z) W2 w6:=((jae.refl _ W2).alloc _).trans r2;have nO:∀ z,z < b+5→¬(Value.slice ad n cp).ownBlock=some z:=(fun z hz e=>by have:=H4.o z e;omega);have hV6:=HV2.o.keeps K6 (nO _ (by omega));have q56:w6.cell? ⟨b+2,0,none⟩=some (.slice ad n cp):=hV6.cell (i:=0) (by rfl);have f56:w6.frozen? ⟨b+2,0,none⟩=false:=hV6.frozen;have K7:jae (fun z=>z=b+2) w6 (w6.setCell ⟨b+2,0,none⟩ (.slice ad' (n+1) cp')):=jae.oneSet w6 ⟨b+2,0,none⟩ _;have C57:=(HC5.o.keeps K6 (nO _ (by omega))).keeps K7 (by omega);have q57:=C57.cell (i:=0) (v:=.map (some bg)) (by rfl);have E7:Ext w0 (w6.setCell ⟨b+2,0,none⟩ (.slice ad' (n+1) cp')):=(HE2.o.trans' K6 (fun y hy e=>by have:=H4.o y e;have:=HLO.o;omega)).trans' K7 (fun y hy e=>by have e:y=_:=e;have:=HLO.o;omega);have hlkg:=(HGM.o _ E7).look x false;rw[HGY.o]at hlkg;unfold ptrO at hlkg;simp only[Bool.false_eq_true,if_false]at hlkg)
    go_ret
    refine⟨rfl,E7,HLO.o,(HC3.o.keeps K6 (nO _ (by omega))).keeps K7 (by omega),C57,(HC9.o.keeps K6 (nO _ (by omega))).keeps K7 (by omega),?_,.slice ad' (n+1) cp',n+1,hV6.set_same (i:=0) _,?_,?_,?_⟩
    ·obtain⟨es3,ck3,hT1,hT2⟩:=HTAB.o
     exact⟨es3,ck3,(hT1.keeps K6 (nO _ (by omega))).keeps K7 (by omega),hT2⟩
    ·rw[HFE.o,List.map_append]
     refine jaG r1 K7 (fun z hz e=>?_);have e:z=b+2:=e;rcases r3 with r3 | r3
     ·have:=H4.o z (r3 ▸ hz);omega
     ·have h9:=r3 z hz;rw[World.size_alloc]at h9;have:=HV2.o.lt;omega
    ·have:=H3.o;rw[List.length_append];exact Nat.succ_le_succ this
    ·intro z hz
     rcases r3 with r3 | r3
     ·exact H4.o z (r3 ▸ hz)
     ·have h9:=r3 z hz;rw[World.size_alloc]at h9;have:=HC9.o.lt;omega
 ·have hc1:¬((cn:Int)+1≤1):=by omega
  have HFE:=Hd (show frK S (M++[x])=frK S M by rw[HFS.o,HMEM.o.2 hc0];rfl);have hok:ok=true:=by rw[HOK.o];unfold okM;rw[HMEM.o.2 hc0];simp
  subst hok;clear HOK;go_enter Tryz.func136,Tryz.ntmps136;go_wp2_with fail
  go_ret
  exact⟨rfl,HEND.o HFE.o⟩
structure Fair(G:List Nd5):Prop where
 few:G.length≤1000
 refs:∀ y∈G,y.2.2.refs.length≤16
def has2(S G:List Nd5)(x:ByteArray):Prop:=(atL S x.data.toList).isSome=true∨(atL G x.data.toList).isSome=true
structure jdM(S G:List Nd5)(root:ByteArray)(M:List ByteArray)(i:Nat):Prop where
 is:M=root ::((frK S M).take i).flatMap (jbE G)
 le:i≤(frK S M).length
 inG:∀ x∈M,has2 S G x
theorem jes{G:List Nd5}(h:Fair G):∀ l:List ByteArray,(l.flatMap (jbE G)).length≤16 * l.length
 | []=>by simp
 | x :: r=>by
  have ih:=jes h r
  have:(jbE G x).length≤16:=by
   unfold jbE;split
   ·rename_i y hy;exact h.refs y (jaR hy).1
   ·simp
  rw[List.flatMap_cons,List.length_append,List.length_cons];omega
theorem jdM.len{S G:List Nd5}{root:ByteArray}{M:List ByteArray}{i:Nat}(h:jdM S G root M i)(hs:Fair G):M.length≤1+16 * i:=by
 have:=jes hs ((frK S M).take i)
 rw[List.length_take]at this;have h2:=congrArg List.length h.is;rw[List.length_cons]at h2;omega
theorem jdM.at'{S G:List Nd5}{root:ByteArray}{M:List ByteArray}{i:Nat}(h:jdM S G root M i){x:ByteArray}(hx:x∈frK S M):(atL G x.data.toList).isSome=true:=by
 have hm:=jdY.1 hx;rcases h.inG x hm.1 with h | h
 ·rw[hm.2]at h;cases h
 ·exact h
theorem jeT{S G:List Nd5}{M:List ByteArray}(h:∀ x∈frK S M,(atL G x.data.toList).isSome=true):(frK S M).length≤G.length:=by
 have h1:((frK S M).map fun x=>x.data.toList).Nodup:=by
  have:=jhF S M
  generalize frK S M=l at this;induction l with
  | nil=>simp
  | cons z r ih =>
   rw[List.nodup_cons]at this;rw[List.map_cons,List.nodup_cons]
   exact⟨fun hm=>by obtain⟨y,hy,e⟩:=List.mem_map.1 hm;exact this.1 (jin e ▸ hy),ih this.2⟩
 have:=List.Nodup.length_le_of_subset h1 (l₂:=G.map (·.1)) (fun k hk=>by
  obtain⟨x,hx,e⟩:=List.mem_map.1 hk
  obtain⟨y,hy⟩:=Option.isSome_iff_exists.1 (h x hx)
  exact List.mem_map.2 ⟨y,(jaR hy).1,by rw[(jaR hy).2,e]⟩)
 simpa using this
theorem jdM.step{S G:List Nd5}{root:ByteArray}{M:List ByteArray}{i:Nat}(h:jdM S G root M i){x:ByteArray}(hx:(frK S M)[i]?=some x)(hr:∀ r∈jbE G x,has2 S G r):jdM S G root (M++jbE G x) (i+1):=by
 obtain⟨X,hX⟩:=ji9 S M (jbE G x)
 have hlt:i < (frK S M).length:=(List.getElem?_eq_some_iff.1 hx).1
 refine⟨?_,?_,?_⟩
 ·have e:(frK S (M++jbE G x)).take (i+1)=(frK S M).take i++[x]:=by
   rw[hX,List.take_append_of_le_length (by omega),List.take_add_one,hx];rfl
  rw[e,List.flatMap_append]
  have:=h.is
  generalize frK S M=l at this;rw[this]
  simp
 ·rw[hX,List.length_append];omega
 ·intro y hy
  rcases List.mem_append.1 hy with hy | hy
  ·exact h.inG y hy
  ·exact hr y hy
theorem jqJ{S G:List Nd5}{M:List ByteArray}{x:ByteArray}(h:okM S G M x=true)(hM:∀ y∈M,has2 S G y):has2 S G x:=by
 unfold okM at h;simp only[Bool.or_eq_true]at h;rcases h with (h | h) | h
 ·exact hM x ((jbi _ _).1 ((jec _ _).1 h))
 ·exact .inl h
 ·exact .inr h
theorem jpy{S G:List Nd5}{M:List ByteArray}{x:ByteArray}(h:okM S G M x=false):¬ has2 S G x:=by
 unfold okM at h;simp only[Bool.or_eq_false_iff]at h;rintro (e | e)
 ·rw[h.1.2]at e;cases e
 ·rw[h.2]at e;cases e
def jqb(w0:World)(s:Nat)(S G:List Nd5)(bg b:Nat)(root:ByteArray)(wv iv:Value)(W:World):Prop:=wv=.bool true∧∃ (i:Nat) (M:List ByteArray),iv=.int .i64 i∧jdM S G root M i∧Meet w0 s S bg b M W
def joW(w0:World)(s:Nat)(S G:List Nd5)(bg b:Nat)(M R:List ByteArray)(wv jv:Value)(W:World):Prop:=wv=.bool true∧∃ j:Nat,jv=.int .i64 j∧j≤R.length∧Meet w0 s S bg b (M++R.take j) W∧∀ r∈R.take j,has2 S G r
def RhP(w0:World)(S G:List Nd5)(root:ByteArray)(e:Ending)(w':World):Prop:=(e=.returned (.tuple #[.slice none 0 0,.int .i64 2])∧Ext w0 w'∧∃ x r,r∈jbE G x∧¬ has2 S G r)∨∃ v n M,e=.returned (.tuple #[v,.int .i64 0])∧jdM S G root M (frK S M).length∧SRow w0 w' v n (frK S M)
theorem jiK(w0:World)(s bm:Nat)(room:Int)(S G:List Nd5)(bg:Nat)(h:jat w0 s bm room S)(hG:jcm w0 bg G)(hs:Fair G)(root:ByteArray)(hr:(atL G root.data.toList).isSome=true) :
  Calls Tryz.prog 83 #[.pointer (some ⟨s,0,none⟩),.string root,.map (some bg)] w0 (RhP w0 S G root):=by
 have HS:=Hd h;have HG:=Hd hG;have HSH:=Hd hs;have HR:=Hd hr;have hmm:=Tryz.makeMapSI;clear h hG hs hr;go_enter Tryz.func83,Tryz.ntmps83;go_wp2_with fail
 go_step3;go_wp2_with fail
 refine (jjk w0 s bm room S G bg w0.heap.size HS.o HG.o _ [] (jlZ w0 s S bg) root (by simp)).mono ?_;rintro e w5 ⟨rfl,hM⟩;rw[show okM S G [] root=true by unfold okM;rw[HR.o];simp];have HM:=Hd hM;clear hM hmm
 obtain⟨b,hb⟩:∃ b,b=w0.heap.size:=⟨_,rfl⟩
 rw[show w0.heap.size+1+1+1+1=w0.heap.size+4 from rfl,show w0.heap.size+1+1+1=w0.heap.size+3 from rfl,show w0.heap.size+1+1=w0.heap.size+2 from rfl];rw[←hb]at HM ⊢;clear hb;go_wp2_with fail
 go_step3;go_wp2_with fail
 go_loopw [11,12] (fun wv iv wr=>jqb w0 s S G bg b root wv iv wr) (fun _ iv _=>1001 - (intOf iv).toNat)
 case atStart =>
  refine⟨rfl,0,[root],rfl,⟨by simp,Nat.zero_le _,fun x hx=>by simp at hx;subst hx;exact .inr HR.o⟩,HM.o⟩
 case round =>
  obtain⟨rfl,i,M,rfl,hP,hM⟩:=hrel
  obtain⟨v,n,h1,h2,h3,h4⟩:=hM.var
  obtain⟨ad,cp,rfl⟩:=jaH h2
  have hn:(frK S M).length=n:=by have:=h2.1;simpa using this
  have hfl:=jeT (S:=S) (M:=M) (fun x hx=>hP.at' hx);have hfew:=HSH.o.few;have q8:=h1.cell (i:=0) (v:=.slice ad n cp) (by rfl);have hile:=hP.le
  by_cases hlt:i < n
  ·have b1:(i:Int) < (n:Int):=by omega
   obtain⟨x,hx⟩:∃ x,(frK S M)[i]?=some x:=⟨_,List.getElem?_eq_getElem (by omega)⟩
   obtain⟨ax,cx,hh,hcell⟩:=(jgk h2).slice
   obtain⟨ba,oa,hao,hqa⟩:=hcell i x hx
   subst hao;cases hh
   obtain⟨y,hy⟩:=Option.isSome_iff_exists.1 (hP.at' (List.mem_of_getElem? hx))
   have hI:=HG.o.items y (jaR hy).1;have hro:=jdJ hy;have h16:=HSH.o.refs y (jaR hy).1
   obtain⟨rv,hIb,hIr⟩:=hI.cells
   obtain⟨ar,cr,rfl⟩:=jaH hIr
   obtain⟨R,hR⟩:∃ R,R=y.2.2.refs:=⟨_,rfl⟩
   have Q5:=Hd (hM.c5.cell (i:=0) (v:=.map (some bg)) (by rfl));have Q8:=Hd q8;have QA:=Hd hqa;have QR:=Hd ((hIb.keeps hM.ext (fun g=>g)).cell (i:=1) (v:=.slice ar y.2.2.refs.length cr) (by rfl));have HMG:=Hd (HG.o.ext hM.ext);have HY:=Hd hy;have HPS:=Hd (fun hr=>hP.step hx hr);have HIN:=Hd hP.inG;have HPL:=Hd (hP.len HSH.o);have HRR:=Hd (jgk hIr);have HM2:=Hd hM;rw[hro, ←hR]at HPS;rw[←hR]at QR HRR h16;have HXR:=Hd (show R=jbE G x by rw[hR,hro]);have hi1000:i≤1000:=by omega
   obtain⟨yb,hyb⟩:∃ yb,yb=y.2.1:=⟨_,rfl⟩
   rw[←hyb]at QR;have HYB:=Hd hyb;clear hro hR hyb hIr hIb hI hy hx hcell hqa h1 h2 hP hM hn hfl hile;go_wp2_with fail
   refine jas [0,1,2,3,4,5,6,7,8,9,10] Ext ExtR ExtT (by kernel_rfl) (by kernel_rfl) (by kernel_rfl) ?_;refine jan ⟨b+1,0,none⟩ _ rfl (by kernel_rfl) rfl rfl (fun w1 h1=>jaa Tryz.underlying115 rfl (jab Q5.o ((jav _).trans h1))) ?_;simp only[Act.put,sA,sB,sC];refine jan ⟨b+2,0,none⟩ _ rfl (by kernel_rfl) rfl rfl (fun w1 h1=>jaa Tryz.underlying34 rfl (jab Q8.o ((jav _).trans h1))) ?_;simp only[Act.put,sA,sB,sC];iterate 2 (refine jai _ rfl (by kernel_rfl) rfl rfl (fun K hK=>?_);go_big_quiet_op;refine hK _ ?_;clear hK K)
   refine jan ⟨ba,oa+i,none⟩ _ rfl (by kernel_rfl) rfl rfl (fun w1 h1=>jaa Tryz.underlying9 rfl (jab QA.o ((jav _).trans h1))) ?_;simp only[Act.put,sA,sB,sC];refine jdI _ (.pointer (some ⟨yb,0,none⟩)) rfl (by kernel_rfl) rfl (fun w1 h1=>by
    have hx:=(HMG.o.ext ((jav _).trans h1)).look x false;rw[HY.o]at hx;unfold ptrO at hx;simp only[Bool.false_eq_true,if_false]at hx;rw[←HYB.o]at hx;simp[execOp,Act.eval,hx,Sem.run_bind,Result.andThen,Sem.run_pure]) ?_
   simp only[Act.put,sA,sB,sC];refine jdI _ (.pointer (some ⟨yb,0,none⟩)) rfl (by kernel_rfl) rfl (fun w1 _=>by kernel_rfl) ?_;simp only[Act.put,sA,sB,sC]
   (refine jai _ rfl (by kernel_rfl) rfl rfl (fun K hK=>?_);go_big_quiet_op;refine hK _ ?_;clear hK K)
   refine jan ⟨yb,1,none⟩ _ rfl (by kernel_rfl) rfl rfl (fun w1 h1=>jaa Tryz.underlying34 rfl (jab QR.o ((jav _).trans h1))) ?_;simp only[Act.put,sA,sB,sC];iterate 2 (refine jai _ rfl (by kernel_rfl) rfl rfl (fun K hK=>?_);go_big_quiet_op;refine hK _ ?_;clear hK K)
   refine jaU (by kernel_rfl) (fun w3 he=>?_);have HM3:=Hd (HM2.o.keeps ((jav _).trans he));clear he HM2 Q5 Q8 QA QR HMG HY q8;go_wp2_with fail
   go_loopw [11,36] (fun wv jv wr2=>joW w0 s S G bg b M R wv jv wr2) (fun _ jv _=>R.length - (intOf jv).toNat)
   case atStart=>exact⟨rfl,0,rfl,Nat.zero_le _,by rw[List.take_zero,List.append_nil];exact HM3.o,fun r hr=>by cases hr⟩
   case round =>
    obtain⟨rfl,j,rfl,hj,hM',hin⟩:=hrel
    have HINR:=Hd hin;clear hin
    by_cases hlt2:j < R.length
    ·have b2:(j:Int) < (R.length:Int):=by omega
     obtain⟨z,hz⟩:∃ z,R[j]?=some z:=⟨_,List.getElem?_eq_getElem hlt2⟩
     obtain⟨ax2,cx2,hh2,hcell2⟩:=HRR.o.slice
     obtain⟨ba2,oa2,hao2,hqa2⟩:=hcell2 j z hz
     subst hao2;cases hh2;have q2:=jab hqa2 hM'.ext;have HZR:=Hd hz;have HT:=Hd (show M++R.take (j+1)=M++R.take j++[z] by rw[List.take_add_one,hz, ←List.append_assoc];rfl);have HL:=Hd (show (M++R.take j).length≤1000000 by have:=HPL.o;rw[List.length_append,List.length_take];omega);have HMJ:=Hd hM';clear hcell2 hqa2 hM' hz;go_wp2_with fail
     refine (jjk w0 s bm room S G bg b HS.o HG.o _ _ HMJ.o z HL.o).mono ?_;rintro e w9 ⟨rfl,hM9⟩;rw[←HT.o]at hM9;have HM9:=Hd hM9
     obtain⟨ok,hok⟩:∃ ok,ok=okM S G (M++R.take j) z:=⟨_,rfl⟩
     rw[←hok];have HOK:=Hd hok;clear hM9 HMJ q2 hok;cases ok with
     | false =>
      go_wp2_with fail
      go_ret2;exact .inl ⟨rfl,HM9.o.ext,x,z,by rw[←HXR.o];exact List.mem_of_getElem? HZR.o,jpy HOK.o.symm⟩
     | true =>
     go_wp2_with fail
     go_roundw
     case rel =>
      refine⟨rfl,j+1,by go_num,by omega,HM9.o,jjE HINR.o HZR.o (jqJ HOK.o.symm fun y hy=>?_)⟩
      rcases List.mem_append.1 hy with hy | hy
      ·exact HIN.o y hy
      ·exact HINR.o y hy
     case measure=>simp[intOf];omega
    ·have hje:j=R.length:=by omega
     subst hje;rw[List.take_length]at hM';have HM9:=Hd hM';clear hM';go_wp2_with fail
     go_roundw
     case rel=>exact⟨rfl,i+1,M++R,by go_num,HPS.o (by have h:=HINR.o;rwa [List.take_length]at h),HM9.o⟩
     case measure=>simp[intOf];omega
  ·have hie:i=(frK S M).length:=by omega
   have HP:=Hd (show jdM S G root M (frK S M).length by rw[←hie];exact hP);have HRW:=Hd (show SRow w0 wr (.slice ad n cp) n (frK S M)from⟨⟨_,_,rfl⟩,h2,hM.ext,fun z hz=>by have:=h4 z hz;have:=hM.lo;omega⟩);have b1:¬(i:Int) < (n:Int):=by omega
   clear hie hP hM h1 h2 h4 hn hfl hile;go_wp2_with fail
   go_ret2;exact .inr ⟨.slice ad n cp,n,M,rfl,HP.o,HRW.o⟩
theorem jgf{L:List ByteArray}{G:List Nd5}(h:G.map kvI=readG L)(hL:∀ t∈L,∃ n,jbq t n)(hl:L.length≤1000):Fair G:=by
 refine⟨?_,fun y hy=>?_⟩
 ·have:=(jdx L).2.2
  rw[←h,List.length_map]at this;exact Nat.le_trans this hl
 ·obtain⟨t,ht,_,e⟩:=jb0 h hy
  rw[e]
  obtain⟨n,hn⟩:=hL t ht
  exact jft (jdv hn)
theorem jeC{S G:List Nd5}{root:ByteArray}{M:List ByteArray}{i:Nat}(h:jdM S G root M i){r:ByteArray}(hr:r∈M):(atL (S++jb8 G (frK S M)) r.data.toList).isSome=true:=by
 rw[jqi];cases hs:atL S r.data.toList with
 | some y=>rfl
 | none =>
  obtain⟨y,hy⟩:=Option.isSome_iff_exists.1 (h.at' (jdY.2 ⟨hr,hs⟩))
  have hm:y∈jb8 G (frK S M):=List.mem_filterMap.2 ⟨r,jdY.2 ⟨hr,hs⟩,hy⟩;cases hp:atL (jb8 G (frK S M)) r.data.toList with
  | some z=>rfl
  | none=>exact absurd (jaR hy).2.symm (jgx.1 hp y hm)
def jq1(w:World)(e:Ending)(w':World):Prop:=∃ k:Int,k≠0∧e=.returned (.tuple #[.string ⟨#[]⟩,.int .i64 k])∧Ext w w'
structure AddY(w:World)(s bm:Nat)(room:Int)(S:List Nd5)(L:List ByteArray)(top:ByteArray)(G:List Nd5)(M:List ByteArray)(e:Ending)(w':World):Prop where
 given:G.map kvI=readG L
 nodes:∀ t∈L,∃ n,jbq t n
 news:∀ y∈G,w.heap.size≤y.2.1
 path:jdM S G (shaB top) M (frK S M).length
 fits:¬ room - S.length < (frK S M).length
 res:e=.returned (.tuple #[.string (shaB top),.int .i64 0])
 st:jat w' s bm room (jhp (shaB top).data.toList (jdl ((frK S M).flatMap (jbE G)) (S++jb8 G (frK S M))))
 kp:jae (fun z=>z=bm∨z∈S.map (·.2.1)) w w'
 rk:RK w w'
 rows:jim w w' G
def jop(Q:Prop)(room:Int)(S:List Nd5)(L:List ByteArray)(k:Int):Prop:=(k=2∧Q)∨(k=2∧∃ G,G.map kvI=readG L∧∃ x r,r∈jbE G x∧¬ has2 S G r)∨(k=3∧∃ top G M,L[0]?=some top∧G.map kvI=readG L∧jdM S G (shaB top) M (frK S M).length∧room - S.length < (frK S M).length)
def jpV(Q:Prop)(w:World)(s bm:Nat)(room:Int)(S:List Nd5)(L:List ByteArray)(e:Ending)(w':World):Prop:=(∃ k:Int,jop Q room S L k∧k≠0∧e=.returned (.tuple #[.string ⟨#[]⟩,.int .i64 k])∧Ext w w')∨∃ top G M,L[0]?=some top∧AddY w s bm room S L top G M e w'
def joo(w:World)(s bm:Nat)(room:Int)(S:List Nd5)(L:List ByteArray)(e:Ending)(w':World):Prop:=jq1 w e w'∨∃ top G M,L[0]?=some top∧AddY w s bm room S L top G M e w'
theorem jkV(w:World)(hc:jch w)(hGE:ErrT w)(s bm:Nat)(room:Int)(S:List Nd5)(h:jat w s bm room S)(v:Value)(L:List ByteArray)(hv:RdS w v L)(Q:Prop)(hL:AnyQ Q L)(hll:L.length≤1000)(top:ByteArray)(htop:L[0]?=some top)(hr0:0≤room)(hr1:room≤9223372036854775807)(hS:S.length≤100000)(hSu:∀ x∈S,0≤x.2.2.used∧x.2.2.used≤1000000000)(hSh:∀ x∈S,0≤x.2.2.held∧x.2.2.held≤1000000000) :
  Calls Tryz.prog 27 #[.pointer (some ⟨s,0,none⟩),v] w (jpV Q w s bm room S L):=by
 have h0:L≠[]:=fun e=>by subst e;cases htop
 have hpos:0 < L.length:=List.length_pos_iff.2 h0
 obtain⟨a,c,rfl,_⟩:=hv.slice
 have HR:=Hd (jmz w hc hGE _ L hv hll h0 Q hL);have HC:=Hd hc;have HV:=Hd hv;have HL:=Hd hL;have HS:=Hd h;have HTOP:=Hd htop;have HSU:=Hd hSu;have HSHD:=Hd hSh;clear hc h hv hL htop h0 hSu hSh;go_enter Tryz.func27,Tryz.ntmps27;go_wp2_with fail
 refine HR.o.mono ?_;rintro e w1 (⟨rfl,hE,hq⟩ |⟨hnode,bg,G,rfl,hG,hrn⟩)
 ·have HE:=Hd hE
  have HQ:=Hd hq;clear hE HR hq;go_wp2_with fail
  go_ret2;exact .inl ⟨2,.inl ⟨rfl,HQ.o⟩,by decide,rfl,HE.o⟩
 have HND0:=Hd hnode;have HRN:=Hd hrn;have HGI:=Hd (show ∀ x∈G,x.2.1 < w1.heap.size from fun x hx=>(hG.at'.items x hx).lt);have HG1:=Hd hG.ext;clear hnode hrn
 obtain⟨ax,cx,hh,hcell⟩:=HV.o.slice
 obtain⟨ba,oa,hao,hqa⟩:=hcell 0 top HTOP.o
 subst hao;cases hh;have q1:=jab hqa hG.ext;have HG:=Hd hG;rw[Nat.add_zero]at q1;clear hcell hqa hG HR;go_wp2_with fail
 refine (of_t _ _ [top] (by simp) (jfI w1 [top] 9) (HC.o.ext (HG.o.ext.alloc _))).mono ?_;rintro e w2 ⟨rfl,hE⟩;rw[jeS];have hx2:=((ExtR w1).alloc (.cells #[.string top] 9)).trans hE;have HG2:=Hd (HG.o.keeps hx2);have HX2:=Hd hx2
 obtain⟨rt,hrt⟩:∃ rt,rt=shaB top:=⟨_,rfl⟩
 have HRT:=Hd hrt;have HTG:=Hd (show (atL G rt.data.toList).isSome=true by rw[hrt];exact jhH HG.o.is (List.mem_of_getElem? HTOP.o));rw[←hrt];clear hE hx2 hrt q1;go_wp2_with fail
 have HSH:=Hd (jgf HG2.o.is HND0.o hll);have HS2:=Hd (HS.o.ext HG2.o.ext);refine (jiK w2 s bm room S G bg HS2.o HG2.o.at' HSH.o rt HTG.o).mono ?_;rintro e w3 (⟨rfl,hE,hno⟩ |⟨v3,n,M,rfl,hP,hF⟩)
 ·have HE:=Hd (HG2.o.ext.trans hE)
  have HNO:=Hd hno;clear hE hno;go_wp2_with fail
  go_ret2;exact .inl ⟨2,.inr (.inl ⟨rfl,G,HG2.o.is,HNO.o⟩),by decide,rfl,HE.o⟩
 have hlen:=jeT (S:=S) (M:=M) (fun x hx=>hP.at' hx);have hfew:=HSH.o.few;have hn:(frK S M).length=n:=by have:=hF.len;simpa using this
 obtain⟨ad,cp,rfl⟩:=hF.sl
 have HP:=Hd hP;have HF:=Hd hF
 obtain⟨F,hFe⟩:∃ F,F=frK S M:=⟨_,rfl⟩
 rw[←hFe]at HF hn hlen;have HFE:=Hd hFe;have HGX:=Hd (HG2.o.keeps hF.ext);have HSX:=Hd (HS2.o.ext hF.ext);clear hP hF hFe;go_wp2_with fail
 refine (jpS w3 s bm room S HSX.o hr0 hr1 (by omega)).mono ?_;rintro e w4 ⟨rfl,hE⟩
 obtain⟨m,hm⟩:∃ m,m=room - (S.length:Int):=⟨_,rfl⟩
 rw[←hm];have HM:=Hd hm;have HE4:=Hd hE;clear hE hm
 by_cases hfull:m < (n:Int)
 ·go_wp2_with fail
  go_ret2;exact .inl ⟨3,.inr (.inr ⟨rfl,top,G,M,HTOP.o,HG2.o.is,by rw[←HRT.o];exact HP.o,by rw[←HFE.o,hn, ←HM.o];exact hfull⟩),by decide,rfl,(HG2.o.ext.trans HF.o.ext).trans HE4.o⟩
 ·have HRK4:=Hd (show RK w1 w4 from(((RK.refl w1).ext HX2.o).ext HF.o.ext).ext HE4.o)
  have hA0:Ad1 w4 s bm bg room S G F (.slice ad n cp) 0 w4:=⟨jae.refl _ _,by rw[List.take_zero];show jat w4 s bm room (S++[]);rw[List.append_nil];exact HSX.o.ext HE4.o,HGX.o.at'.ext HE4.o,by rw[hn];exact ja7 HF.o.own HE4.o⟩;have HA0:=Hd hA0;have hbm:=HS.o.mp.mp
  obtain⟨_,_,hbm,_⟩:=hbm
  have hbmlt:=hbm.lt;have HNE:=Hd (show ∀ z,(Value.slice ad n cp).ownBlock=some z→z≠bm from fun z hz e=>by have:=HF.o.new z hz;have:=HG2.o.ext.size;omega);have HBG:=Hd (show bg≠bm from fun e=>by have:=HG2.o.new;omega);have HSG:=Hd (show ∀ x∈S,∀ y∈G,x.2.1≠y.2.1 from fun x hx y hy e=>by have:=(HS.o.mp.items x hx).lt;have:=HG2.o.news y hy;omega);have HND:=Hd (show F.Nodup by rw[HFE.o];exact jhF S M);have HFS:=Hd (show ∀ x∈F,atL S x.data.toList=none from fun x hx=>by rw[HFE.o]at hx;exact (jdY.1 hx).2);have HFG:=Hd (show ∀ x∈F,(atL G x.data.toList).isSome=true from fun x hx=>by rw[HFE.o]at hx;exact HP.o.at' hx);have HST:=Hd (HS.o.st);subst hn;clear hA0 hbm;go_wp2_with fail
  rw[show decide (m < (F.length:Int))=false from decide_eq_false (Int.not_lt.2 hfull)];go_loopw [46] (fun iv wr=>AdR1 w4 s bm bg room S G F (.slice ad F.length cp) iv wr∧RK w1 wr) (fun iv _=>F.length - (intOf iv).toNat)
  case atStart=>exact⟨⟨0,Nat.zero_le _,rfl,HA0.o⟩,HRK4.o⟩
  case round =>
   obtain⟨⟨i,hi,rfl,hA⟩,hrk⟩:=hrel
   have HRK:=Hd hrk;clear hrk;have HA:=Hd hA
   by_cases hlt:i < F.length
   ·have b1:(i:Int) < (F.length:Int):=by omega
    obtain⟨x,hx⟩:∃ x,F[i]?=some x:=⟨_,List.getElem?_eq_getElem hlt⟩
    obtain⟨ax,cx,hh,hcell⟩:=(jgk hA.row).slice
    obtain⟨ba2,oa2,hao,hqa⟩:=hcell i x hx
    subst hao;cases hh
    obtain⟨y,hy⟩:=Option.isSome_iff_exists.1 (HFG.o x (List.mem_of_getElem? hx))
    have Q1:=Hd (hA.st.st.cell (i:=1) (v:=.map (some bm)) (by rfl));have HGV:=Hd hA.gv;have HX:=Hd hx;have HY:=Hd hy
    obtain⟨yb,hyb⟩:∃ yb,yb=y.2.1:=⟨_,rfl⟩
    have HYB:=Hd hyb;clear hcell hx hy hA hyb;go_wp2_with fail
    refine jam [0,1,2,3,4,5,6,7,8] [8] Ext ExtR ExtT (by kernel_rfl) (by kernel_rfl) (by kernel_rfl) ?_
    (refine jaj _ rfl (by kernel_rfl) rfl rfl (fun K hK=>?_);go_big_quiet_op;refine hK _ ?_;clear hK K)
    refine jb1 _ (.pointer (some ⟨s,0,none⟩)) rfl (by kernel_rfl) rfl (fun w1=>by kernel_rfl) ?_;simp only[Act.put,sA,sB,sC]
    (refine jaj _ rfl (by kernel_rfl) rfl rfl (fun K hK=>?_);go_big_quiet_op;refine hK _ ?_;clear hK K)
    refine jaA ⟨s,1,none⟩ _ rfl (by kernel_rfl) rfl rfl (fun w1 h1=>jaa Tryz.underlying115 rfl (jab Q1.o ((jav _).trans h1))) ?_;simp only[Act.put,sA,sB,sC];iterate 3 (refine jaj _ rfl (by kernel_rfl) rfl rfl (fun K hK=>?_);go_big_quiet_op;refine hK _ ?_;clear hK K)
    refine jl0 _ (.pointer (some ⟨yb,0,none⟩)) rfl (by kernel_rfl) rfl (fun w1 h1=>by
     have hx:=(HGV.o.ext ((jav _).trans h1)).look x false;rw[HY.o]at hx;unfold ptrO at hx;simp only[Bool.false_eq_true,if_false]at hx;rw[←HYB.o]at hx;simp[execOp,Act.eval,hx,Sem.run_bind,Result.andThen,Sem.run_pure]) ?_
    simp only[Act.put,sA,sB,sC];refine ja4 _ rfl (by kernel_rfl) rfl (fun w5 he K hK=>?_);have hA5:=HA.o.ext ((jav _).trans he)
    obtain⟨ob,hmu,hA6⟩:=hA5.put HSG.o HBG.o HNE.o HND.o HFS.o HX.o HY.o
    rw[←HYB.o]at hmu;have HA6:=Hd hA6
    obtain⟨oes,ock,hobm,_⟩:=hA6.st.mp.mp
    have HRK6:=Hd ((HRK.o.ext ((jav _).trans he)).put (jae.onePut _ bm ob) hobm);clear hobm;clear hA5 hA6 he HA Q1 HGV hqa;go_simp;refine hK _ _ ?_;clear hK K;refine jaX (by kernel_rfl) (fun w7 he=>?_);have HA7:=Hd (HA6.o.ext he);have HRK7:=Hd (HRK6.o.ext he);clear he HA6 hmu;go_wp2_with fail
    go_roundw
    case rel=>exact⟨⟨i+1,by omega,by go_num,HA7.o⟩,HRK7.o⟩
    case measure=>simp[intOf];omega
   ·have hie:i=F.length:=by omega
    subst hie
    obtain⟨S1,hS1⟩:∃ S1,S1=S++jb8 G F:=⟨_,rfl⟩
    have HS1:=Hd hS1;have HB0:=Hd (show Ad2 wr s bm bg room S1 G F (.slice ad F.length cp) [] wr from⟨jae.refl _ _,by have:=hA.st;rw[List.take_length]at this;rw[hS1];exact this,⟨G,hA.gv,fun k=>rfl⟩,hA.row⟩);have HU:=Hd (show ∀ x∈S1,0≤x.2.2.used∧x.2.2.used≤1000000000 from fun x hx=>by
     rw[hS1]at hx;rcases List.mem_append.1 hx with hx | hx
     ·exact HSU.o x hx
     ·obtain⟨t,ht,_,e⟩:=jb0 HG2.o.is (jbt hx).1
      rw[e];exact⟨Int.le_refl _,by show (0:Int)≤1000000000;decide⟩)
    have HR1:=Hd (show ∀ r∈F.flatMap (jbE G),(atL S1 r.data.toList).isSome=true from fun r hr=>by
     rw[hS1,HFE.o];refine jeC HP.o ?_
     have:=HP.o.is
     rw[List.take_length, ←HFE.o]at this;rw[this];exact List.mem_cons_of_mem _ hr)
    obtain⟨w5,hw5⟩:∃ w5,w5=wr:=⟨_,rfl⟩
    have HW5:=Hd hw5;have HRK5:=Hd (show RK w1 w5 by rw[hw5];exact HRK.o);rw[←hw5]at HB0;have HB0:=Hd (show Ad2 w5 s bm bg room S1 G F (.slice ad F.length cp) [] wr by rw[←hw5];exact HB0.o);have HA1:=Hd (show jae (fun z=>z=bm) w4 w5 by rw[hw5];exact hA.kp);clear HA0 hA HA hS1 hw5;go_wp2_with fail
    go_loopw [61] (fun iv wr=>AdR2 w5 s bm bg room S1 G F (.slice ad F.length cp) iv wr∧RK w1 wr) (fun iv _=>F.length - (intOf iv).toNat)
    case atStart=>exact⟨⟨0,Nat.zero_le _,rfl,HB0.o⟩,by rw[←HW5.o];exact HRK5.o⟩
    case round =>
     obtain⟨⟨i,hi2,rfl,hA⟩,hrk2⟩:=hrel
     have HRKB:=Hd hrk2;clear hrk2
     by_cases hlt2:i < F.length
     ·have b1:(i:Int) < (F.length:Int):=by omega
      obtain⟨x,hx⟩:∃ x,F[i]?=some x:=⟨_,List.getElem?_eq_getElem hlt2⟩
      obtain⟨ax,cx,hh,hcell⟩:=(jgk hA.row).slice
      obtain⟨ba2,oa2,hao,hqa⟩:=hcell i x hx
      subst hao;cases hh
      obtain⟨y,hy⟩:=Option.isSome_iff_exists.1 (HFG.o x (List.mem_of_getElem? hx))
      obtain⟨G',hG1,hG2⟩:=hA.gv
      have hk:=hG2 x.data.toList;rw[hy]at hk
      obtain⟨y',hy',hk⟩:=Option.map_eq_some_iff.1 hk
      have hlk:=hG1.look x false;rw[hy']at hlk;unfold ptrO at hlk;simp only[Bool.false_eq_true,if_false]at hlk
      obtain⟨rv,hIb,hIr⟩:=(hG1.items y' (jaR hy').1).cells
      have hyr:y'.2.2.refs=jbE G x:=by rw[jdJ hy];exact congrArg (fun z=>z.2.2) hk
      obtain⟨R,hR⟩:∃ R,R=jbE G x:=⟨_,rfl⟩
      rw[hyr, ←hR]at hIr
      obtain⟨ar,cr,rfl⟩:=jaH hIr
      have qr:=hIb.cell (i:=1) (v:=.slice ar R.length cr) (by rfl)
      obtain⟨T,hT⟩:∃ T,T=(F.take i).flatMap (jbE G):=⟨_,rfl⟩
      have HT1:=Hd (show (F.take (i+1)).flatMap (jbE G)=T++R by rw[List.take_add_one,hx,List.flatMap_append,hT,hR];simp);have HTL:=Hd (show T.length≤16000 by
       have:=jes HSH.o (F.take i)
       rw[hT];rw[List.length_take]at this;omega)
      have HRL:=Hd (show R.length≤16 by rw[hR,jdJ hy];exact HSH.o.refs y (jaR hy).1);have HRR:=Hd (show ∀ r∈R,(atL S1 r.data.toList).isSome=true from fun r hr=>HR1.o r (List.mem_flatMap.2 ⟨x,List.mem_of_getElem? hx,by rw[←hR];exact hr⟩));rw[←hT]at hA;have HA3:=Hd (show AdR3 w5 s bm bg room S1 G F (.slice (some ⟨ba2,oa2,none⟩) F.length cp) T R (.slice ar R.length cr) (.int .i64 0) wr from⟨0,Nat.zero_le _,rfl,by rw[List.take_zero,List.append_nil];exact hA,hIr⟩)
      obtain⟨yb,hyb⟩:∃ yb,yb=y'.2.1:=⟨_,rfl⟩
      rw[←hyb]at hlk qr;clear hcell hx hy hG1 hG2 hk hy' hIb hIr hyr hR hT hA hyb;go_wp2_with fail
      go_loopw [72] (fun jv wr2=>AdR3 w5 s bm bg room S1 G F (.slice (some ⟨ba2,oa2,none⟩) F.length cp) T R (.slice ar R.length cr) jv wr2∧RK w1 wr2) (fun jv _=>R.length - (intOf jv).toNat)
      case atStart=>exact⟨HA3.o,HRKB.o⟩
      case round =>
       obtain⟨⟨j,hj,rfl,hB,hrw⟩,hrk3⟩:=hrel
       have HRKC:=Hd hrk3;clear hrk3
       by_cases hlt3:j < R.length
       ·have b2:(j:Int) < (R.length:Int):=by omega
        obtain⟨z,hz⟩:∃ z,R[j]?=some z:=⟨_,List.getElem?_eq_getElem hlt3⟩
        obtain⟨ax3,cx3,hh3,hcell3⟩:=(jgk hrw).slice
        obtain⟨ba3,oa3,hao3,hqa3⟩:=hcell3 j z hz
        subst hao3;cases hh3;have qs:=hB.st.st.cell (i:=1) (v:=.map (some bm)) (by rfl)
        obtain⟨zb,u,hlk3,qu,fu,hu0,hu1,hB2,hrow2⟩:=hB.bump HU.o (by have:=HTL.o;have:=HRL.o;rw[List.length_append,List.length_take];omega) z (HRR.o z (List.mem_of_getElem? hz))
        have hrl:=HRL.o;have hw1 : -9223372036854775808≤u+1:=by omega
        have hw2:u+1≤9223372036854775807:=by omega
        have HB2:=Hd (And.intro (show Ad2 w5 s bm bg room S1 G F (.slice (some ⟨ba2,oa2,none⟩) F.length cp) (T++R.take (j+1)) _ by rw[List.take_add_one,hz, ←List.append_assoc];exact hB2) (hrow2 _ _ _ hrw));clear hcell3 hz hB hrw hB2 hrow2 hlk qr;go_wp2_with fail
        go_roundw
        case rel=>exact⟨⟨j+1,by omega,by go_num,HB2.o.1,HB2.o.2⟩,HRKC.o.set zb (.inl rfl) _⟩
        case measure=>simp[intOf];omega
       ·have hje:j=R.length:=by omega
        subst hje;rw[List.take_length, ←HT1.o]at hB;have HB4:=Hd hB;clear hB hrw HA3 hlk qr;go_wp2_with fail
        go_roundw
        case rel=>exact⟨⟨i+1,by omega,by go_num,HB4.o⟩,HRKC.o⟩
        case measure=>simp[intOf];omega
     ·have hie2:i=F.length:=by omega
      subst hie2;rw[List.take_length]at hA;have HB5:=Hd hA;have hroot:(atL S1 rt.data.toList).isSome=true:=by
       rw[HS1.o,HFE.o];exact jeC HP.o (by rw[HP.o.is];exact List.mem_cons_self)
      have HHD:=Hd (show ∀ x∈S1,0≤x.2.2.held∧x.2.2.held≤1000000000 from fun x hx=>by
       rw[HS1.o]at hx;rcases List.mem_append.1 hx with hx | hx
       ·exact HSHD.o x hx
       ·obtain⟨t,ht,_,e⟩:=jb0 HG2.o.is (jbt hx).1
        rw[e];exact⟨Int.le_refl _,by show (0:Int)≤1000000000;decide⟩)
      have qs:=hA.st.st.cell (i:=1) (v:=.map (some bm)) (by rfl)
      obtain⟨zb,u,hlk3,qu,fu,hu0,hu1,hSE,hKE⟩:=hA.hold HHD.o rt hroot
      have hw1 : -9223372036854775808≤u+1:=by omega
      have hw2:u+1≤9223372036854775807:=by omega
      have HSE:=Hd hSE;have HKE:=Hd (((HG2.o.ext.trans HF.o.ext).trans HE4.o).mono (G:=fun z=>z=bm∨z∈S.map (·.2.1)) (fun _ _ g=>g.elim));have HK5:=Hd hKE;have HKA:=Hd HA1.o;clear hA HB0 HA1 hSE hKE hroot;go_wp2_with fail
      go_ret2;refine .inr ⟨top,G,M,HTOP.o,HG2.o.is,HND0.o,HG2.o.news,by rw[←HRT.o];exact HP.o,by rw[←HFE.o, ←HM.o];exact Int.not_lt.2 hfull,by rw[HRT.o];rfl,?_,?_,((RK.refl w).ext HG1.o).trans (HRKB.o.set zb (.inr rfl) _),HRN.o.rk (HRKB.o.set zb (.inr rfl) _) HGI.o⟩
      ·rw[←HFE.o, ←HS1.o, ←HRT.o];exact HSE.o
      ·refine (jae.trans' (F:=fun z=>z=bm∨z∈S.map (·.2.1)) HKE.o HKA.o (fun z hz e=>.inl e)).trans' HK5.o (fun z hz e=>?_)
       rw[HS1.o,List.map_append]at e;rcases List.mem_append.1 e with e | e
       ·exact .inr e
       ·obtain⟨y,hy,rfl⟩:=List.mem_map.1 e
        have:=HG2.o.news y (jbt hy).1
        omega
theorem jmY(w:World)(hc:jch w)(hGE:ErrT w)(s bm:Nat)(room:Int)(S:List Nd5)(h:jat w s bm room S)(v:Value)(L:List ByteArray)(hv:RdS w v L)(hL:AnyL L)(hll:L.length≤1000)(top:ByteArray)(htop:L[0]?=some top)(hr0:0≤room)(hr1:room≤9223372036854775807)(hS:S.length≤100000)(hSu:∀ x∈S,0≤x.2.2.used∧x.2.2.used≤1000000000)(hSh:∀ x∈S,0≤x.2.2.held∧x.2.2.held≤1000000000) :
  Calls Tryz.prog 27 #[.pointer (some ⟨s,0,none⟩),v] w (joo w s bm room S L):=
 (jkV w hc hGE s bm room S h v L hv True (jrm hL) hll top htop hr0 hr1 hS hSu hSh).mono fun e w' h=>h.imp (fun ⟨k,_,h2,h3,h4⟩=>⟨k,h2,h3,h4⟩) id
theorem jo2(w:World)(hc:jch w)(hGE:ErrT w)(s bm:Nat)(room:Int)(S:List Nd5)(h:jat w s bm room S)(v:Value)(L:List ByteArray)(hv:RdS w v L)(hL:AnyL L)(hll:L.length≤1000)(hr0:0≤room)(hr1:room≤9223372036854775807)(hS:S.length≤100000)(hSu:∀ x∈S,0≤x.2.2.used∧x.2.2.used≤1000000000)(hSh:∀ x∈S,0≤x.2.2.held∧x.2.2.held≤1000000000) :
  Calls Tryz.prog 27 #[.pointer (some ⟨s,0,none⟩),v] w (joo w s bm room S L):=by
 cases hL0:L with
 | nil =>
  subst hL0
  obtain⟨a,c,rfl,_⟩:=hv.slice
  exact (jo3 w _ a c).mono fun e w' ⟨h1,h2⟩=>.inl ⟨2,by decide,h1,h2⟩
 | cons t L' =>
  rw[←hL0];exact jmY w hc hGE s bm room S h v L hv hL hll t (by rw[hL0];rfl) hr0 hr1 hS hSu hSh
end
section
open Go Go.RowKit
end
section
open Go Go.RowKit
attribute [local go_sem] Oper.semAt_some
def InjL(l:List ByteArray):Prop:=∀ x∈l,∀ y∈l,shaB x=shaB y→x=y
theorem InjL.step{L:List ByteArray}{i:Nat}{t:ByteArray}(h:InjL (L.take i))(ht:L[i]?=some t)(hs:∀ x∈L.take i,shaB x=shaB t→x=t):InjL (L.take (i+1)):=by
 intro x hx y hy e;rw[List.take_add_one,ht]at hx hy;rcases List.mem_append.1 hx with h1 | h1 <;> rcases List.mem_append.1 hy with h2 | h2
 ·exact h x h1 y h2 e
 ·simp at h2;subst h2;exact hs x h1 e
 ·simp at h1;subst h1;exact (hs y h2 e.symm).symm
 ·simp at h1 h2;rw[h1,h2]
def ApR1(w:World)(L:List ByteArray)(hv iv:Value)(W:World):Prop:=∃ i:Nat,i≤L.length∧iv=.int .i64 i∧SRow w W hv i ((L.take i).map shaB)∧InjL (L.take i)
def ApR2(w4:World)(L:List ByteArray)(t:ByteArray)(i:Nat)(kv:Value)(W:World):Prop:=∃ k:Nat,k≤i∧kv=.int .i64 k∧Ext w4 W∧∀ x∈L.take k,shaB x=shaB t→x=t
def ApP(L:List ByteArray)(w:World)(e:Ending)(w':World):Prop:=∃ b,e=.returned (.bool b)∧(b=true↔InjL L)∧Ext w w'
theorem jk6(w:World)(hc:jch w)(v:Value)(L:List ByteArray)(hv:RdS w v L)(hl:L.length≤1000000):Calls Tryz.prog 31 #[v] w (ApP L w):=by
 obtain⟨a,c,rfl,_⟩:=hv.slice
 have HV:=Hd hv;have HC:=Hd hc;clear hv hc;go_enter Tryz.func31,Tryz.ntmps31;go_wp2_with fail
 go_loopw [3,4] (fun hv iv wr=>ApR1 w L hv iv wr) (fun _ iv _=>L.length - (intOf iv).toNat)
 case atStart=>exact⟨0,Nat.zero_le _,rfl,ORow.nil _ _ (ExtR w),fun x hx=>by cases hx⟩
 case round =>
  obtain⟨i,hi,rfl,hR,hI⟩:=hrel
  obtain⟨ah,ch,rfl⟩:=hR.sl
  have HR:=Hd hR;have HI:=Hd hI;clear hR hI
  by_cases hlt:i < L.length
  ·have b1:(i:Int) < (L.length:Int):=by omega
   obtain⟨t,ht⟩:∃ t,L[i]?=some t:=⟨_,List.getElem?_eq_getElem hlt⟩
   obtain⟨ax,cx,hh,hcell⟩:=HV.o.slice
   obtain⟨ba,oa,hao,hqa⟩:=hcell i t ht
   subst hao;cases hh;have q1:=jab hqa HR.o.ext;have HT:=Hd ht;have HQT:=Hd hqa;have HCL:=Hd (show ∀ (j:Nat) x,L[j]?=some x→w.cell? ⟨ba,oa+j,none⟩=some (.string x)from fun j x hx=>by
    obtain⟨b',o',e,h⟩:=hcell j x hx
    cases e;exact h)
   clear hcell hqa ht;go_wp2_with fail
   refine (of_t _ _ [t] (by simp) (jfI wr [t] 9) (HC.o.ext (HR.o.ext.alloc _))).mono ?_;rintro e w4 ⟨rfl,hE⟩;rw[jeS];have hx4:=((ExtR wr).alloc (.cells #[.string t] 9)).trans hE;have HR4:=Hd (HR.o.mono hx4);have HX4:=Hd (HR.o.ext.trans hx4)
   obtain⟨sh,hsh⟩:∃ sh,sh=shaB t:=⟨_,rfl⟩
   have HSH:=Hd hsh;rw[←hsh];clear hE hx4 hsh q1 HR;go_wp2_with fail
   go_loopw [6] (fun kv wr2=>ApR2 w4 L t i kv wr2) (fun kv _=>i - (intOf kv).toNat)
   case atStart=>exact⟨0,Nat.zero_le _,rfl,ExtR w4,fun x hx=>by cases hx⟩
   case round =>
    obtain⟨k,hk,rfl,hE,hs⟩:=hrel
    have HE:=Hd hE;have HS:=Hd hs;clear hE hs
    by_cases hlt2:k < i
    ·have b2:(k:Int) < (i:Int):=by omega
     have b3:(k:Int) < (L.length:Int):=by omega
     obtain⟨x,hx⟩:∃ x,L[k]?=some x:=⟨_,List.getElem?_eq_getElem (by omega)⟩
     have hxm:((L.take i).map shaB)[k]?=some (shaB x):=by rw[List.getElem?_map,List.getElem?_take,if_pos hlt2,hx];rfl
     have hrd:=jgk HR4.o.own;have hq2:∃ bh oh,ah=some ⟨bh,oh,none⟩∧w4.cell? ⟨bh,oh+k,none⟩=some (.string (shaB x)):=by
      rcases hrd with⟨_,_,_,h0⟩ |⟨bq,oq,cq,hh,_,_,hcell⟩
      ·rw[h0]at hxm;cases hxm
      ·exact⟨bq,oq,(Value.slice.inj hh).1,hcell k _ hxm⟩
     obtain⟨bh,oh,rfl,hq2⟩:=hq2
     obtain⟨sx,hsx⟩:∃ sx,sx=shaB x:=⟨_,rfl⟩
     rw[←hsx]at hq2;have HSX:=Hd hsx;have Q1:=Hd (jab hq2 HE.o);have Q2:=Hd (jab (HCL.o k x hx) (HX4.o.trans HE.o));have Q3:=Hd (jab HQT.o (HX4.o.trans HE.o));have HX:=Hd hx;clear hx hxm hrd hq2 hsx;go_wp2_with fail
     refine jas [0,1,2,3,4,5,6,7,8,9,10,11,12,13,14,15,16] Ext ExtR ExtT (by kernel_rfl) (by kernel_rfl) (by kernel_rfl) ?_;iterate 3 (refine jai _ rfl (by kernel_rfl) rfl rfl (fun K hK=>?_);go_big_quiet_op;refine hK _ ?_;clear hK K)
     refine jan ⟨bh,oh+k,none⟩ _ rfl (by kernel_rfl) rfl rfl (fun w1 h1=>jaa Tryz.underlying9 rfl (jab Q1.o ((jav _).trans h1))) ?_;simp only[Act.put,sA,sB,sC];iterate 3 (refine jai _ rfl (by kernel_rfl) rfl rfl (fun K hK=>?_);go_big_quiet_op;refine hK _ ?_;clear hK K)
     cases hq:(sx.toList == sh.toList)with
     | false =>
      have HN:=Hd (show shaB x=shaB t→x=t from fun e=>by
       rw[←HSX.o, ←HSH.o]at e;rw[e]at hq;simp at hq)
      clear hq;iterate 9 (refine jbL _ rfl (by kernel_rfl) rfl ?_;simp only[Act.put,sA,sB,sC])
      (refine jai _ rfl (by kernel_rfl) rfl rfl (fun K hK=>?_);go_big_quiet_op;refine hK _ ?_;clear hK K)
      refine jaU (by kernel_rfl) (fun w5 he=>?_);have HE5:=Hd (HE.o.trans ((jav _).trans he));have HS5:=Hd (show ∀ z∈L.take (k+1),shaB z=shaB t→z=t from fun z hz e=>by
       rw[List.take_add_one,HX.o]at hz;rcases List.mem_append.1 hz with h1 | h1
       ·exact HS.o z h1 e
       ·simp at h1;subst h1;exact HN.o e)
      clear he Q1 Q2 Q3 HE HS;go_wp2_with fail
      go_roundw
      case rel=>exact⟨k+1,by omega,by go_num,HE5.o,HS5.o⟩
      case measure=>simp[intOf];omega
     | true =>
      have HSQ:=Hd (show shaB x=shaB t by rw[←HSX.o, ←HSH.o];exact jgr (by simpa using hq));clear hq;iterate 3 (refine jai _ rfl (by kernel_rfl) rfl rfl (fun K hK=>?_);go_big_quiet_op;refine hK _ ?_;clear hK K)
      refine jan ⟨ba,oa+k,none⟩ _ rfl (by kernel_rfl) rfl rfl (fun w1 h1=>jaa Tryz.underlying9 rfl (jab Q2.o ((jav _).trans h1))) ?_;simp only[Act.put,sA,sB,sC];iterate 3 (refine jai _ rfl (by kernel_rfl) rfl rfl (fun K hK=>?_);go_big_quiet_op;refine hK _ ?_;clear hK K)
      refine jan ⟨ba,oa+i,none⟩ _ rfl (by kernel_rfl) rfl rfl (fun w1 h1=>jaa Tryz.underlying9 rfl (jab Q3.o ((jav _).trans h1))) ?_;simp only[Act.put,sA,sB,sC]
      (refine jai _ rfl (by kernel_rfl) rfl rfl (fun K hK=>?_);go_big_quiet_op;refine hK _ ?_;clear hK K)
      cases hq2:(x.toList == t.toList)with
      | true =>
       have HN:=Hd (show x=t from jgr (by simpa using hq2));have hb:(!true)=false:=rfl;clear hq2;rw[hb]
       (refine jai _ rfl (by kernel_rfl) rfl rfl (fun K hK=>?_);go_big_quiet_op;refine hK _ ?_;clear hK K)
       refine jaU (by kernel_rfl) (fun w5 he=>?_);have HE5:=Hd (HE.o.trans ((jav _).trans he));have HS5:=Hd (show ∀ z∈L.take (k+1),shaB z=shaB t→z=t from fun z hz e=>by
        rw[List.take_add_one,HX.o]at hz;rcases List.mem_append.1 hz with h1 | h1
        ·exact HS.o z h1 e
        ·simp at h1;subst h1;exact HN.o)
       clear he Q1 Q2 Q3 HE HS hb;go_wp2_with fail
       go_roundw
       case rel=>exact⟨k+1,by omega,by go_num,HE5.o,HS5.o⟩
       case measure=>simp[intOf];omega
      | false =>
       have hb:(!false)=true:=rfl;have HNE:=Hd (show ¬ InjL L from fun h=>by
        have:=h x (List.mem_of_getElem? HX.o) t (List.mem_of_getElem? HT.o) HSQ.o
        rw[this]at hq2;simp at hq2)
       clear hq2;rw[hb]
       (refine jai _ rfl (by kernel_rfl) rfl rfl (fun K hK=>?_);go_big_quiet_op;refine hK _ ?_;clear hK K)
       refine jaU (by kernel_rfl) (fun w5 he=>?_);have HE5:=Hd (HE.o.trans ((jav _).trans he));clear he Q1 Q2 Q3 HE HS hb;go_wp2_with fail
       go_ret
       exact⟨false,rfl,⟨fun e=>(by cases e),fun h=>absurd h HNE.o⟩,HX4.o.trans HE5.o⟩
    ·have hki:k=i:=by omega
     subst hki;have HIS:=Hd (HI.o.step HT.o HS.o);have HRR:=Hd (HR4.o.mono HE.o);have HMS:=Hd (show (L.take (k+1)).map shaB=(L.take k).map shaB++[sh] by rw[List.take_add_one,HT.o,List.map_append,HSH.o];rfl);have hm1:k+1≤maxLen:=by unfold maxLen;omega
     have hm2:(k+1) * 16≤140737488355328:=by omega
     clear HS HI HE HR4;go_wp2_with (at_builtin;refine jbH Tryz.sStrs (HRR.o.mono ((ExtR wr).alloc _)) (.tmp 41) (.tmp 43) rfl rfl rfl (jbe (Blk.new wr _)) (news:=[.string sh]) (by intro u hu;simp at hu;rcases hu with rfl;rfl) rfl rfl hm1 hm2 ?_;intro v' w' r1 r2 r3)
     have r1':SRow w w' v' (k+1) ((L.take (k+1)).map shaB):=by unfold SRow;rw[HMS.o,List.map_append];exact r1
     obtain⟨ah',ch',rfl⟩:=r1'.sl
     have HR9:=Hd r1';clear r1 r2 r3 r1';go_wp2_with fail
     go_roundw
     case rel=>exact⟨k+1,by omega,by go_num,HR9.o,HIS.o⟩
     case measure=>simp[intOf];omega
  ·have hie:i=L.length:=by omega
   have HIL:=Hd (show InjL L by have:=HI.o;rwa [hie,List.take_length]at this);clear HI;go_wp2_with fail
   go_ret
   exact⟨true,rfl,⟨fun _=>HIL.o,fun _=>rfl⟩,HR.o.ext⟩
end
section
open Go Go.RowKit
def cK(T:List ByteArray)(k:Key):Nat:=(T.map (·.data.toList)).count k
theorem jqk(A B:List ByteArray)(k:Key):cK (A++B) k=cK A k+cK B k:=by unfold cK;rw[List.map_append,List.count_append]
theorem jgA(r:ByteArray)(B:List ByteArray)(k:Key):cK (r :: B) k=cK B k+(if k=r.data.toList then 1 else 0):=by
 unfold cK;rw[List.map_cons,List.count_cons]
 by_cases h:k=r.data.toList
 ·rw[if_pos h,h];simp
 ·rw[if_neg h,if_neg];simpa using fun e=>h e.symm
theorem jo8{T:List ByteArray}{k:Key}(h:∀ r∈T,r.data.toList≠k):cK T k=0:=by
 unfold cK;rw[List.count_eq_zero];intro hm
 obtain⟨r,hr,e⟩:=List.mem_map.1 hm
 exact h r hr e
theorem joz{T:List ByteArray}{r:ByteArray}(h:r∈T):1≤cK T r.data.toList:=by
 unfold cK;exact List.count_pos_iff.2 (List.mem_map.2 ⟨r,h,rfl⟩)
def addU(n:Nat)(x:Nd5):Nd5:=(x.1,x.2.1,⟨x.2.2.text,x.2.2.refs,x.2.2.used+n,x.2.2.held⟩)
def addH(n:Nat)(x:Nd5):Nd5:=(x.1,x.2.1,⟨x.2.2.text,x.2.2.refs,x.2.2.used,x.2.2.held+n⟩)
theorem jiW:∀ (T:List ByteArray) (L:List Nd5),jdl T L=L.map fun x=>addU (cK T x.1) x
 | [],L=>by
  show L=_
  have:(fun x:Nd5=>addU (cK [] x.1) x)=id:=by
   funext x
   obtain⟨a,b,⟨t,r,u,h⟩⟩:=x
   unfold addU cK;simp
  rw[this,List.map_id]
 | r :: T,L=>by
  show jdl T (jd5 r.data.toList L)=_;rw[jiW T,jd5,List.map_map];refine List.map_congr_left fun x _=>?_;show addU (cK T (if x.1=r.data.toList then (x.1,x.2.1,putF 2 (x.2.2.used+1) x.2.2)else x).1) (if x.1=r.data.toList then (x.1,x.2.1,putF 2 (x.2.2.used+1) x.2.2)else x)=_;rw[jgA]
  by_cases h:x.1=r.data.toList
  ·simp only[if_pos h]
   unfold addU putF;simp only[if_true];rw[show x.2.2.used+1+((cK T x.1:Nat):Int)=x.2.2.used+((cK T x.1+1:Nat):Int) by omega]
  ·simp only[if_neg h,Nat.add_zero]
theorem jnc(r:ByteArray)(L:List Nd5):jhp r.data.toList L=L.map fun x=>addH (cK [r] x.1) x:=by
 unfold jhp;refine List.map_congr_left fun x _=>?_;rw[jgA]
 by_cases h:x.1=r.data.toList
 ·rw[if_pos h,if_pos h];rfl
 ·rw[if_neg h,if_neg h]
  obtain⟨a,b,⟨t,r,u,h⟩⟩:=x
  unfold addH cK;simp
def jhi(T:List ByteArray)(r:ByteArray)(x:Nd5):Nd5:=addH (cK [r] x.1) (addU (cK T x.1) x)
theorem jo7(T:List ByteArray)(r:ByteArray)(L:List Nd5):jhp r.data.toList (jdl T L)=L.map (jhi T r):=by
 rw[jnc,jiW,List.map_map];rfl
theorem jla(T:List ByteArray)(r:ByteArray)(L:List Nd5):(L.map (jhi T r)).map (·.1)=L.map (·.1):=by
 rw[List.map_map];rfl
theorem jlb(T:List ByteArray)(r:ByteArray)(L:List Nd5):(L.map (jhi T r)).flatMap (fun y=>y.2.2.refs)=L.flatMap (fun y=>y.2.2.refs):=by
 rw[List.flatMap_map];rfl
theorem jgo(G:List Nd5):∀ F:List ByteArray,F.flatMap (jbE G)=(jb8 G F).flatMap (fun y=>y.2.2.refs)
 | []=>rfl
 | x :: F=>by
  have ih:=jgo G F;unfold jb8 at *;rw[List.flatMap_cons,List.filterMap_cons];cases h:atL G x.data.toList with
  | none=>rw[ih];unfold jbE;rw[h];rfl
  | some y=>rw[ih,jdJ h,List.flatMap_cons]
theorem jcN{S:List Nd5}{k:Key}:(atL S k).isSome=true↔k∈S.map (·.1):=by
 constructor
 ·intro h
  obtain⟨y,hy⟩:=Option.isSome_iff_exists.1 h
  exact List.mem_map.2 ⟨y,(jaR hy).1,(jaR hy).2⟩
 ·intro h
  obtain⟨y,hy,e⟩:=List.mem_map.1 h
  cases ha:atL S k with
  | some z=>rfl
  | none=>exact absurd e.symm (jgx.1 ha y hy)
def jrd(L:List ByteArray)(top:ByteArray):Prop:=∀ P:ByteArray→Prop,(∀ t∈L,P (shaB t)→∀ h∈jaI (nodeOf t),P h)→P (shaB top)→∀ t∈L,P (shaB t)
theorem jqA{U:List ByteArray}(hU:InjL U){s t:ByteArray}(hs:s∈U)(ht:t∈U)(h:ky s=ky t):s=t:=hU s hs t ht (jin h)
def addS(S G:List Nd5)(M:List ByteArray)(top:ByteArray):List Nd5:=jhp (shaB top).data.toList (jdl ((frK S M).flatMap (jbE G)) (S++jb8 G (frK S M)))
theorem jca(S G:List Nd5)(M:List ByteArray)(top:ByteArray):addS S G M top=(S++jb8 G (frK S M)).map (jhi ((frK S M).flatMap (jbE G)) (shaB top)):=jo7 _ _ _
theorem jru(w:World)(P:ByteArray→Prop):∀ (f:Nat) (l:List Pair),ja3 f l→(∀ t∈jaD (jad (f+1) l),P (shaB t)→∀ h∈jaI (nodeOf t),P h)→P (shaB (jaK (jaJ (jad f) l)))→∀ t∈jaD (jad (f+1) l),P (shaB t):=by
 intro f;induction f with
 | zero =>
  intro l h _ h0 t ht;have e2:jaB (jad 0) l=[]:=by have:=jdK h;unfold jaB;rw[if_pos (by omega)]
  have eT:jaD (jad (0+1) l)=[jaK (jaJ (jad 0) l)]:=by
   show jaD (.mk (jaK (jaJ (jad 0) l)) (jaB (jad 0) l))=_;rw[jaD,e2];simp[jaF]
  rw[eT,List.mem_singleton]at ht;subst ht;exact h0
 | succ f ih =>
  intro l h hcl h0 t ht;have eT:jaD (jad (f+1+1) l)=jaK (jaJ (jad (f+1)) l) :: jaF (jaB (jad (f+1)) l):=by
   show jaD (.mk (jaK (jaJ (jad (f+1)) l)) (jaB (jad (f+1)) l))=_;rw[jaD]
  have hh:=jdu (f+1) l h;have hroot:jbq (jaK (jaJ (jad (f+1)) l)) (jaJ (jad (f+1)) l):=⟨rfl,f+1,(good (f+1) l h).1⟩;rw[eT]at ht;rcases List.mem_cons.1 ht with rfl | ht
  ·exact h0
  obtain⟨K,hK,ht⟩:=jbA.1 ht
  obtain⟨g,m,eg,e,h1,h32⟩:=jhh h hK
  obtain rfl:f=g:=by omega
  subst e;have hsub:∀ t∈jaD (jad (f+1) m),t∈jaD (jad (f+1+1) l):=fun t ht=>by
   rw[eT];exact List.mem_cons_of_mem _ (jbA.2 ⟨_,hK,ht⟩)
  refine ih m h1 (fun t ht=>hcl t (hsub t ht)) ?_ t ht;refine hcl _ (by rw[eT];exact List.mem_cons_self) h0 _ ?_;rw[jet w (jdv hroot) hroot,hh];exact List.mem_map.2 ⟨_,hK,rfl⟩
theorem joa(w:World){l:List Pair}(h:jbp l=0):jrd (jaW (jaD (ja2 l))) (ja2 l).text:=fun P h1 h2 t ht =>
 jru w P 12 (jaV l) (jeB (jbT h)) (fun t ht=>h1 t ((jbi _ _).2 ht)) h2 t ((jbi _ _).1 ht)
theorem jkG(w:World){l:List Pair}(h:jbp l=0)(hl:(jaW (jaD (ja2 l))).length≤1000):jqd (jaW (jaD (ja2 l))):=
 ⟨fun t ht=>by obtain⟨n,h1,_⟩:=(jkF h).node t ht;exact⟨n,h1⟩,
  fun t ht x hx=>by
  obtain⟨n,h1,h2⟩:=(jkF h).node t ht
  rw[jet w (jdv h1) h1]at hx;exact h2 x hx,hl⟩
theorem jat.nd{W:World}{s bm:Nat}{room:Int}{S:List Nd5}(h:jat W s bm room S):(S.map (·.1)).Nodup:=by
 obtain⟨es,ck,_,hv⟩:=h.mp.mp
 have:=hv.keys
 rw[List.map_map]at this;exact this
end
section
open Go Go.RowKit
attribute [local go_sem] Oper.semAt_some
def jh6(S:List Nd5):List ByteArray:=S.flatMap fun y=>y.2.2.refs
structure Cnt(S:List Nd5):Prop where
 used:∀ x∈S,x.2.2.used=(cK (jh6 S) x.1:Int)
 shut:∀ r∈jh6 S,r.data.toList∈S.map (·.1)
 held:∀ x∈S,0≤x.2.2.held
 r16:∀ x∈S,x.2.2.refs.length≤16
def jdm(S:List Nd5):Int:=(S.map fun x=>x.2.2.held).sum
theorem Cnt.none:Cnt []:=⟨by simp,by simp[jh6],by simp,by simp⟩
theorem jro(T:List ByteArray)(k:Key):cK T k≤T.length:=by
 unfold cK;have:=List.count_le_length (a:=k) (l:=T.map (·.data.toList));rwa [List.length_map]at this
def joL(S:List Nd5):Prop:=∀ x∈S,0 < x.2.2.used+x.2.2.held
end
section
open Go Go.RowKit
theorem jha{S G:List Nd5}{M:List ByteArray}{top:ByteArray}:jh6 (addS S G M top)=jh6 S++(frK S M).flatMap (jbE G):=by
 rw[jca];have h:=jlb ((frK S M).flatMap (jbE G)) (shaB top) (S++jb8 G (frK S M));unfold jh6;rw[h,List.flatMap_append, ←jgo]
theorem jcw{S G:List Nd5}{M:List ByteArray}{top:ByteArray}:(addS S G M top).map (·.1)=(S++jb8 G (frK S M)).map (·.1):=by rw[jca,jla]
theorem jo9{S G:List Nd5}{L M:List ByteArray}{top:ByteArray}(hc:Cnt S)(hG:G.map kvI=readG L)(hf:Fair G)(hP:jdM S G (shaB top) M (frK S M).length):Cnt (addS S G M top):=by
 have hTM:∀ r∈(frK S M).flatMap (jbE G),r∈M:=fun r hr=>by
  have:=hP.is
  rw[List.take_length]at this;rw[this];exact List.mem_cons_of_mem _ hr
 refine⟨fun x hx=>?_,fun r hr=>?_,fun x hx=>?_,fun x hx=>?_⟩
 ·rw[jha,jqk]
  rw[jca]at hx
  obtain⟨z,hz,rfl⟩:=List.mem_map.1 hx
  show z.2.2.used+((cK ((frK S M).flatMap (jbE G)) z.1:Nat):Int)=((cK (jh6 S) z.1+cK ((frK S M).flatMap (jbE G)) z.1:Nat):Int);rcases List.mem_append.1 hz with hz | hz
  ·have:=hc.used z hz;omega
  ·obtain⟨hzG,f,hf1,e1⟩:=jbt hz
   obtain⟨t,ht,_,e⟩:=jb0 hG hzG
   have h0:cK (jh6 S) z.1=0:=jo8 fun r hr er=>by
    have:=hc.shut r hr
    rw[er,e1, ←jcN,(jdY.1 hf1).2]at this;cases this
   have hu:z.2.2.used=0:=by rw[e];rfl
   omega
 ·rw[jcw]
  rw[jha]at hr;rcases List.mem_append.1 hr with hr | hr
  ·rw[List.map_append];exact List.mem_append_left _ (hc.shut r hr)
  ·exact jcN.1 (jeC hP (hTM r hr))
 ·rw[jca]at hx
  obtain⟨z,hz,rfl⟩:=List.mem_map.1 hx
  show 0≤z.2.2.held+((cK [shaB top] z.1:Nat):Int);rcases List.mem_append.1 hz with hz | hz
  ·have:=hc.held z hz;omega
  ·obtain⟨t,ht,_,e⟩:=jb0 hG (jbt hz).1
   have hu:z.2.2.held=0:=by rw[e];rfl
   omega
 ·rw[jca]at hx
  obtain⟨z,hz,rfl⟩:=List.mem_map.1 hx
  show z.2.2.refs.length≤16;rcases List.mem_append.1 hz with hz | hz
  ·exact hc.r16 z hz
  ·exact hf.refs z (jbt hz).1
theorem jns{S G:List Nd5}{L M:List ByteArray}{top:ByteArray}(hc:Cnt S)(hfl:joL S)(hG:G.map kvI=readG L)(hP:jdM S G (shaB top) M (frK S M).length):joL (addS S G M top):=fun x hx=>by
 rw[jca]at hx
 obtain⟨z,hz,rfl⟩:=List.mem_map.1 hx
 show 0 < z.2.2.used+((cK ((frK S M).flatMap (jbE G)) z.1:Nat):Int)+(z.2.2.held+((cK [shaB top] z.1:Nat):Int));rcases List.mem_append.1 hz with hz | hz
 ·have:=hfl z hz;omega
 ·obtain⟨hzG,f,hf1,e1⟩:=jbt hz
  obtain⟨t,ht,_,e⟩:=jb0 hG hzG
  have hu:z.2.2.used=0:=by rw[e];rfl
  have hh:z.2.2.held=0:=by rw[e];rfl
  have hm:=(jdY.1 hf1).1
  have:=hP.is
  rw[List.take_length]at this;rw[this]at hm;rcases List.mem_cons.1 hm with h | h
  ·have:1≤cK [shaB top] z.1:=by rw[e1,h];exact joz (by simp)
   omega
  ·have:1≤cK ((frK S M).flatMap (jbE G)) z.1:=by rw[e1];exact joz h
   omega
theorem jok(T:List ByteArray)(r:ByteArray)(S:List Nd5):jdm (S.map (jhi T r))=jdm S+((S.map (·.1)).count r.data.toList:Int):=by
 induction S with
 | nil=>simp[jdm]
 | cons x l ih =>
  have e:∀ (a:Nd5) b,jdm (a :: b)=a.2.2.held+jdm b:=fun a b=>by unfold jdm;rw[List.map_cons,List.sum_cons]
  rw[List.map_cons,e,e,ih,List.map_cons,List.count_cons];have h1:(jhi T r x).2.2.held=x.2.2.held+((cK [r] x.1:Nat):Int):=rfl;have h2:cK [r] x.1=if x.1=r.data.toList then 1 else 0:=by
   have:=jgA r [] x.1
   rw[this];simp[cK]
  rw[h1,h2]
  by_cases hx:x.1=r.data.toList
  ·rw[if_pos hx,if_pos (by simp[hx])];push_cast;omega
  ·rw[if_neg hx,if_neg (by simpa using hx)];push_cast;omega
theorem jpU(A B:List Nd5):jdm (A++B)=jdm A+jdm B:=by unfold jdm;rw[List.map_append,List.sum_append]
theorem jjD:∀ {B:List Nd5},(∀ x∈B,x.2.2.held=0)→jdm B=0
 | [],_=>rfl
 | x :: r,h=>by
  have e:jdm (x :: r)=x.2.2.held+jdm r:=by unfold jdm;rw[List.map_cons,List.sum_cons]
  rw[e,h x List.mem_cons_self,jjD fun y hy=>h y (List.mem_cons_of_mem _ hy)];rfl
theorem jht:∀ {l:List Key},l.Nodup→∀ {k:Key},k∈l→l.count k=1
 | [],_,_,hk=>by cases hk
 | x :: r,h,k,hk=>by
  rw[List.nodup_cons]at h;rw[List.count_cons]
  by_cases e:x=k
  ·subst e
   rw[List.count_eq_zero_of_not_mem h.1];simp
  ·have hk:k∈r:=(List.mem_cons.1 hk).resolve_left fun e2=>e e2.symm
   rw[jht h.2 hk];simp[e]
theorem jpT{S G:List Nd5}{L M:List ByteArray}{top:ByteArray}(hn:((addS S G M top).map (·.1)).Nodup)(hG:G.map kvI=readG L)(hP:jdM S G (shaB top) M (frK S M).length):jdm (addS S G M top)=jdm S+1:=by
 have hroot:(shaB top).data.toList∈(S++jb8 G (frK S M)).map (·.1):=jcN.1 (jeC hP (by rw[hP.is];exact List.mem_cons_self));rw[jcw]at hn;rw[jca,jok,jpU,jjD (B:=jb8 G (frK S M)) (fun x hx=>by
  obtain⟨t,ht,_,e⟩:=jb0 hG (jbt hx).1
  rw[e];rfl),jht hn hroot]
 omega
theorem jpt{S G:List Nd5}{M:List ByteArray}{top:ByteArray}:(addS S G M top).length≤S.length+(frK S M).length:=by
 rw[jca,List.length_map,List.length_append]
 have:(jb8 G (frK S M)).length≤(frK S M).length:=List.length_filterMap_le _ _
 omega
theorem jnx{S G:List Nd5}{L M:List ByteArray}{top:ByteArray}{n:Int}(h:∀ x∈S,x.2.2.held≤n)(h0:0≤n)(hG:G.map kvI=readG L):∀ x∈addS S G M top,x.2.2.held≤n+1:=fun x hx=>by
 rw[jca]at hx
 obtain⟨z,hz,rfl⟩:=List.mem_map.1 hx
 show z.2.2.held+((cK [shaB top] z.1:Nat):Int)≤n+1;have h1:=jro [shaB top] z.1;rw[List.length_singleton]at h1;rcases List.mem_append.1 hz with hz | hz
 ·have:=h z hz;omega
 ·obtain⟨t,ht,_,e⟩:=jb0 hG (jbt hz).1
  have hu:z.2.2.held=0:=by rw[e];rfl
  omega
end
section
open Go Go.RowKit
attribute [local go_sem] Oper.semAt_some
def jbO(l:List Pair):List ByteArray:=jaW (jaD (ja2 l))
theorem jc2{l:List Pair}(h:jbp l=0):(jbO l).length≤121:=by
 have h1:=(jkH h).1;have h2:=(jbT h).len;show (jaW (jaD (ja2 l))).length≤_;omega
def jor(l:List Pair)(w:World)(e:Ending)(w':World):Prop:=e=.returned (.tuple #[.pointer none,.string ⟨#[]⟩])∧Ext w w'∧¬(fewB l=true∧jbp l=0∧InjL (jbO l))
def joO(l:List Pair)(w:World)(e:Ending)(w':World):Prop:=∃ s bm S,e=.returned (.tuple #[.pointer (some ⟨s,0,none⟩),.string (shaB (ja2 l).text)])∧Ext w w'∧jat w' s bm 2000 S∧HasM S l∧(∀ k,k∈S.map (·.1)↔∃ t∈jbO l,k=ky t)∧fewB l=true∧InjL (jbO l)
def jq6(l:List Pair)(w:World)(e:Ending)(w':World):Prop:=jor l w e w'∨joO l w e w'
end
section
open Go Go.RowKit
structure Kp(U:List ByteArray)(S:List Nd5):Prop where
 is:∀ x∈S,∃ t∈U,x.1=ky t∧x.2.2.text=t∧x.2.2.refs=jaI (nodeOf t)
 cnt:Cnt S
 full:joL S
theorem Kp.none(U:List ByteArray):Kp U []:=⟨by simp,Cnt.none,fun x hx=>by cases hx⟩
theorem Kp.text{U:List ByteArray}{S:List Nd5}(hU:InjL U)(h:Kp U S){t:ByteArray}(ht:t∈U)(hk:ky t∈S.map (·.1)):∃ x,atL S (ky t)=some x∧x∈S∧x.2.2.text=t∧x.2.2.refs=jaI (nodeOf t):=by
 obtain⟨x,hx⟩:=Option.isSome_iff_exists.1 (jcN.2 hk)
 obtain⟨x1,x2⟩:=jaR hx
 obtain⟨t',ht',e1,e2,e3⟩:=h.is x x1
 have:t'=t:=jqA hU ht' ht (e1.symm.trans x2)
 subst this
 exact⟨x,hx,x1,e2,e3⟩
theorem Kp.shut{U:List ByteArray}{S:List Nd5}(hU:InjL U)(h:Kp U S){t:ByteArray}(ht:t∈U)(hk:ky t∈S.map (·.1)){r:ByteArray}(hr:r∈jaI (nodeOf t)):r.data.toList∈S.map (·.1):=by
 obtain⟨x,_,x1,_,x3⟩:=h.text hU ht hk
 exact h.cnt.shut r (List.mem_flatMap.2 ⟨x,x1,by rw[x3];exact hr⟩)
theorem jjw(w:World){U:List ByteArray}(hU:InjL U){S:List Nd5}(h:Kp U S){m:List Pair}(hm:jbp m=0)(hs:∀ t∈jbO m,t∈U)(hr:ky (ja2 m).text∈S.map (·.1)):∀ t∈jbO m,ky t∈S.map (·.1):=
 joa w hm (fun k=>k.data.toList∈S.map (fun x:Nd5=>x.1)) (fun t ht hk r hr=>h.shut hU (hs t ht) hk hr) hr
theorem Kp.has(w:World){U:List ByteArray}(hU:InjL U){S:List Nd5}(h:Kp U S){m:List Pair}(hm:jbp m=0)(hs:∀ t∈jbO m,t∈U)(hr:ky (ja2 m).text∈S.map (·.1)):HasM S m:=
 ⟨hm,fun t ht=>by
  have ht:=(jbi (jaD (ja2 m)) t).2 ht
  obtain⟨x,x1,_,x3,_⟩:=h.text hU (hs t ht) (jjw w hU h hm hs hr t ht)
  exact⟨x,x1,x3⟩⟩
structure Part(S:List Nd5)(m:List Pair)(L:List ByteArray):Prop where
 ok:jbp m=0
 head:L[0]?=some (ja2 m).text
 sub:∀ t∈L,t∈jbO m
 all:∀ t∈jbO m,t∈L∨ky t∈S.map (·.1)
theorem jnY(S:List Nd5){m:List Pair}(hm:jbp m=0):Part S m (jbO m):=⟨hm,(jkF hm).head,fun _ h=>h,fun _ h=>.inl h⟩
theorem Part.refs(w:World){S:List Nd5}{m:List Pair}{L:List ByteArray}(h:Part S m L){G:List Nd5}(hG:G.map kvI=readG L){x r:ByteArray}(hr:r∈jbE G x):has2 S G r:=by
 unfold jbE at hr;cases ha:atL G x.data.toList with
 | none=>rw[ha]at hr;cases hr
 | some y =>
  rw[ha]at hr
  obtain⟨t,ht,_,e⟩:=jb0 hG (jaR ha).1
  have hr:r∈y.2.2.refs:=hr;rw[e]at hr
  obtain⟨n,hn,hall⟩:=(jkF h.ok).node t (h.sub t ht)
  have hr:r∈jaI (nodeOf t):=hr;rw[jet w (jdv hn) hn]at hr
  obtain⟨t',ht',e⟩:=hall r hr
  subst e;rcases h.all t' ht' with h1 | h1
  ·exact .inr (jhH hG h1)
  ·exact .inl (jcN.2 h1)
theorem Part.why(w:World){S:List Nd5}{m:List Pair}{L:List ByteArray}(h:Part S m L){room k:Int}(hk:jop False room S L k):k=3∧room < (S.length:Int)+(L.length:Int):=by
 rcases hk with⟨_,h1⟩ |⟨_,G,hG,x,r,hr,hno⟩ |⟨rfl,top,G,M,_,hG,hP,hroom⟩
 ·exact h1.elim
 ·exact absurd (h.refs w hG hr) hno
 ·have h1:=jeT (S:=S) (M:=M) (fun x hx=>hP.at' hx)
  have h2:=(jdx L).2.2;rw[←hG,List.length_map]at h2
  exact⟨rfl,by omega⟩
theorem jhK(f:Nd5→Nd5)(hf:∀ x,(f x).1=x.1):∀ (L:List Nd5) (k:Key),atL (L.map f) k=(atL L k).map f
 | [],k=>rfl
 | x :: L,k=>by
  unfold atL;rw[List.map_cons,List.find?_cons,List.find?_cons,hf];cases e:decide (k=x.1)with
  | true=>rfl
  | false=>exact jhK f hf L k
theorem jhq(r:ByteArray)(k:Key):cK [r] k=if k=r.data.toList then 1 else 0:=by
 have:=jgA r [] k
 rw[this];unfold cK;simp
structure AddK(w:World)(U:List ByteArray)(S:List Nd5)(m:List Pair)(L:List ByteArray)(S':List Nd5):Prop where
 kp:Kp U S'
 key:∀ k,k∈S'.map (·.1)↔k∈S.map (·.1)∨∃ t∈jbO m,k=ky t
 held:∀ k,jqu (atL S' k)=jqu (atL S k)+if k=ky (ja2 m).text then 1 else 0
 sum:jdm S'=jdm S+1
 len:S'.length≤S.length+L.length
 blk:∀ x∈S',x.2.1∈S.map (·.2.1)∨w.heap.size≤x.2.1
 bd:∀ n:Int,0≤n→(∀ x∈S,x.2.2.held≤n)→∀ x∈S',x.2.2.held≤n+1
theorem Part.add(w:World){U:List ByteArray}(hU:InjL U){S:List Nd5}(hK:Kp U S){m:List Pair}{L:List ByteArray}(h:Part S m L)(hs:∀ t∈jbO m,t∈U)(hl:L.length≤1000){s bm:Nat}{room:Int}{G:List Nd5}{M:List ByteArray}{e:Ending}{w':World}(hA:AddY w s bm room S L (ja2 m).text G M e w') :
  AddK w U S m L (addS S G M (ja2 m).text):=by
 have hP:=hA.path;have hG:=hA.given;have hF:=jgf hG hA.nodes hl;have hnd:((addS S G M (ja2 m).text).map (·.1)).Nodup:=hA.st.nd;have hpick:∀ x∈jb8 G (frK S M),x∈G∧(∃ t∈L,x.1=ky t∧x.2.2=itOf t)∧atL S x.1=none:=fun x hx=>by
  obtain⟨h1,z,hz,e⟩:=jbt hx
  exact⟨h1,jb0 hG h1,by rw[e];exact (jdY.1 hz).2⟩
 have his:∀ x∈S++jb8 G (frK S M),∃ t∈U,x.1=ky t∧x.2.2.text=t∧x.2.2.refs=jaI (nodeOf t):=fun x hx=>by
  rcases List.mem_append.1 hx with hx | hx
  ·exact hK.is x hx
  ·obtain⟨t,ht,e1,e2⟩:=(hpick x hx).2.1
   exact⟨t,hs t (h.sub t ht),e1,by rw[e2];rfl,by rw[e2];rfl⟩
 have hkp:Kp U (addS S G M (ja2 m).text):=by
  refine⟨fun x' hx'=>?_,jo9 hK.cnt hG hF hP,jns hK.cnt hK.full hG hP⟩
  rw[jca]at hx'
  obtain⟨x,hx,rfl⟩:=List.mem_map.1 hx'
  exact his x hx
 have hroot:ky (ja2 m).text∈(addS S G M (ja2 m).text).map (·.1):=by
  rw[jcw];exact jcN.1 (jeC hP (by rw[hP.is];exact List.mem_cons_self))
 have hat:∀ k,atL (addS S G M (ja2 m).text) k=(atL (S++jb8 G (frK S M)) k).map (jhi ((frK S M).flatMap (jbE G)) (shaB (ja2 m).text)):=fun k=>by
  rw[jca];exact jhK (jhi ((frK S M).flatMap (jbE G)) (shaB (ja2 m).text)) (fun _=>rfl) _ k
 refine⟨hkp,fun k=>?_,fun k=>?_,jpT hnd hG hP,?_,fun x hx=>?_,fun n hn hb=>jnx hb hn hG⟩
 ·constructor
  ·intro hk
   rw[jcw,List.map_append,List.mem_append]at hk;rcases hk with hk | hk
   ·exact .inl hk
   ·obtain⟨x,hx,rfl⟩:=List.mem_map.1 hk
    obtain⟨t,ht,e1,_⟩:=(hpick x hx).2.1
    exact .inr ⟨t,h.sub t ht,e1⟩
  ·rintro (hk |⟨t,ht,rfl⟩)
   ·rw[jcw,List.map_append,List.mem_append];exact .inl hk
   ·exact jjw w hU hkp h.ok hs hroot t ht
 ·rw[hat]
  have hz:(if k=ky (ja2 m).text then (1:Int)else 0)=((cK [shaB (ja2 m).text] k:Nat):Int):=by
   rw[jhq];unfold ky;split <;> rfl
  rw[hz];unfold atL;rw[List.find?_append];cases hS:List.find? (fun x=>decide (k=x.1)) S with
  | some y =>
   have hk1:=(jaR (L:=S) (k:=k) hS).2;show y.2.2.held+((cK [shaB (ja2 m).text] y.1:Nat):Int)=y.2.2.held+_;rw[hk1]
  | none =>
   cases hP2:List.find? (fun x=>decide (k=x.1)) (jb8 G (frK S M))with
   | some y =>
    have hy:=jaR (L:=jb8 G (frK S M)) (k:=k) hP2
    obtain⟨t,ht,e1,e2⟩:=(hpick y hy.1).2.1
    show y.2.2.held+((cK [shaB (ja2 m).text] y.1:Nat):Int)=0+_;rw[hy.2,e2];rfl
   | none =>
    show (0:Int)=0+_;rw[jhq]
    have:k≠(shaB (ja2 m).text).data.toList:=fun e=>by
     have h1:=hat k;have h2:=jcN.2 hroot;unfold ky at h2;rw[←e,h1]at h2;unfold atL at h2;rw[List.find?_append,hS,hP2]at h2;cases h2
    rw[if_neg this];rfl
 ·have h1:=jpt (S:=S) (G:=G) (M:=M) (top:=(ja2 m).text)
  have h2:=jeT (S:=S) (M:=M) (fun x hx=>hP.at' hx);have h3:=(jdx L).2.2;rw[←hG,List.length_map]at h3;omega
 ·rw[jca]at hx
  obtain⟨z,hz,rfl⟩:=List.mem_map.1 hx
  rcases List.mem_append.1 hz with hz | hz
  ·exact .inl (List.mem_map.2 ⟨z,hz,rfl⟩)
  ·exact .inr (hA.news z (hpick z hz).1)
end
section
open Go Go.RowKit
attribute [local go_sem] Oper.semAt_some
structure jg7(l:List Pair)(w:World)(s bm:Nat)(S:List Nd5)(w':World):Prop where
 ext:Ext w w'
 st:jat w' s bm 2000 S
 add:∃ W,AddK W (jbO l) [] l (jbO l) S
 few:fewB l=true
 inj:InjL (jbO l)
 ok:jbp l=0
 bnew:w.heap.size≤bm
 snew:w.heap.size≤s
 ne:s≠bm
 new:∀ x∈S,w.heap.size≤x.2.1
def jmV(l:List Pair)(w:World)(e:Ending)(w':World):Prop:=∃ s bm S,e=.returned (.tuple #[.pointer (some ⟨s,0,none⟩),.string (shaB (ja2 l).text)])∧jg7 l w s bm S w'
def jp2(l:List Pair)(w:World)(e:Ending)(w':World):Prop:=jor l w e w'∨jmV l w e w'
theorem jg7.key{l:List Pair}{w w':World}{s bm:Nat}{S:List Nd5}(h:jg7 l w s bm S w')(k:Key):k∈S.map (·.1)↔∃ t∈jbO l,k=ky t:=by
 obtain⟨W,hA⟩:=h.add
 rw[hA.key];simp
theorem jg7.kp{l:List Pair}{w w':World}{s bm:Nat}{S:List Nd5}(h:jg7 l w s bm S w'):Kp (jbO l) S:=by
 obtain⟨W,hA⟩:=h.add
 exact hA.kp
theorem jg7.has{l:List Pair}{w w':World}{s bm:Nat}{S:List Nd5}(h:jg7 l w s bm S w'):HasM S l:=
 h.kp.has w h.inj h.ok (fun _ h=>h) ((h.key _).2 ⟨_,List.mem_of_getElem? (jkF h.ok).head,rfl⟩)
theorem jnA(w:World)(hc:jch w)(he:ErrT w)(v:Value)(l:List Pair)(hv:RdP w v l)(hn:l.length≤9223372036854775807)(hs:jou l) :
  Calls Tryz.prog 16 #[v] w (jp2 l w):=by
 have HC:=Hd hc;have HEE:=Hd he;have HV:=Hd hv;have HS:=Hd hs;have HN:=Hd hn
 obtain⟨a,c,hsl⟩:=hv.sl
 subst hsl;clear hc hv hs hn he;go_enter Tryz.func16,Tryz.ntmps16;go_wp2_with fail
 refine (jqp w _ l HV.o HN.o HS.o).mono ?_;rintro e w2 ⟨rfl,hE⟩;have HE2:=Hd hE;clear hE
 obtain⟨fw,hfw⟩:∃ fw,fw=fewB l:=⟨_,rfl⟩
 have HFW:=Hd hfw;rw[←hfw];clear hfw
 by_cases hcl:jbp l=0
 case neg =>
  go_wp2_with fail
  refine (jl9 w2 _ l (HV.o.ext HE2.o) HN.o HS.o hcl).mono ?_;rintro e w3 ⟨rfl,hE⟩;have HE3:=Hd (HE2.o.trans hE);have HNO:=Hd hcl
  obtain⟨x,hx⟩:∃ x,x=jbp l:=⟨_,rfl⟩
  rw[←hx]at hcl ⊢;have hne:(x == 0)=false:=by simpa using hcl
  have hne2:(x != 0)=true:=by simpa using hcl
  clear hcl hx hE HE2;go_wp2_with fail
  refine (jmy w3 2000).mono ?_;rintro e w4 ⟨s,bm,rfl,hE,_,_,_,_⟩;have HE4:=Hd (HE3.o.trans hE);clear hE HE3;go_wp2_with fail
  refine (jk6 w4 (HC.o.ext HE4.o) _ [] (.inl ⟨none,0,rfl,rfl⟩) (by simp)).mono ?_;rintro e w5 ⟨b,rfl,_,hE⟩;have HE5:=Hd (HE4.o.trans hE);clear hE HE4;cases fw with
  | false =>
   go_wp2_with fail
   go_ret2;exact .inl ⟨rfl,HE5.o,fun h=>HNO.o h.2.1⟩
  | true =>
   go_wp2_with fail
   go_ret2;exact .inl ⟨rfl,HE5.o,fun h=>HNO.o h.2.1⟩
 have HCL:=Hd hcl;clear hcl;go_wp2_with fail
 refine (jnP w2 _ l (HC.o.ext HE2.o) (HV.o.ext HE2.o) HCL.o).mono ?_;rintro e w3 ⟨u3,n3,rfl,hR⟩;have hR:SRow w2 w3 u3 n3 (jbO l):=hR
 obtain⟨L,hL⟩:∃ L,L=jbO l:=⟨_,rfl⟩
 have hlen:=jc2 HCL.o;have HTL:=Hd hL;rw[←hL]at hR hlen;have hln:L.length=n3:=by have:=hR.len;simpa using this
 have hrd:=hR.rd
 obtain⟨a3,c3,e3⟩:=hR.sl
 have HE3:=Hd (HE2.o.trans hR.ext);subst e3;have HL3:=Hd hrd;subst hln;clear hR hrd HE2 hL;go_wp2_with fail
 refine (jmy w3 2000).mono ?_;rintro e w4 ⟨s,bm,rfl,hE,hS,hb1,hb2,hb3⟩;have HE4:=Hd (HE3.o.trans hE);have HZ:=Hd (And.intro HE3.o.size hb1);have HZS:=Hd (And.intro hb2 hb3);have HS4:=Hd (show jat w4 s bm 2000 []from hS);have HL4:=Hd (HL3.o.ext hE);clear hE hS HE3 HL3 hb1 hb2 hb3;go_wp2_with fail
 refine (jk6 w4 (HC.o.ext HE4.o) _ L HL4.o (by omega)).mono ?_;rintro e w5 ⟨b,rfl,hb,hE⟩;have HE5:=Hd (HE4.o.trans hE);have HS5:=Hd (HS4.o.ext hE);have HL5:=Hd (HL4.o.ext hE);have HB:=Hd hb;clear hE HE4 HS4 HL4 hb;cases fw with
 | false =>
  go_wp2_with fail
  go_ret2;exact .inl ⟨rfl,HE5.o,fun h=>by have:=HFW.o;rw[h.1]at this;cases this⟩
 | true =>
  cases b with
  | false =>
   go_wp2_with fail
   go_ret2;refine .inl ⟨rfl,HE5.o,fun h=>?_⟩
   have:=HB.o.2 (by rw[HTL.o];exact h.2.2)
   cases this
  | true =>
   have HI:=Hd (show InjL (jbO l) by rw[←HTL.o];exact HB.o.1 rfl);have HSH:=Hd (show jqd L by rw[HTL.o];exact jkG w HCL.o (by have:=jc2 HCL.o;exact Nat.le_trans this (by decide)));have HTP:=Hd (show L[0]?=some (ja2 l).text by rw[HTL.o];exact (jkF HCL.o).head)
   obtain⟨tp,htp⟩:∃ tp,tp=(ja2 l).text:=⟨_,rfl⟩
   rw[←htp]at HTP;have HTX:=Hd htp;clear htp;go_wp2_with fail
   have HAN:=Hd (jjT HSH.o.node);refine (jkV w5 (HC.o.ext HE5.o) (HEE.o.ext HE5.o) s bm 2000 [] HS5.o _ L HL5.o False HAN.o (by have:=jc2 HCL.o;rw[HTL.o];omega) tp HTP.o (by decide) (by decide) (by simp) (fun x hx=>by cases hx) (fun x hx=>by cases hx)).mono ?_;rintro e w6 hP;rw[HTL.o]at hP;have hpart:=jnY [] HCL.o;rcases hP with⟨k,hwhy,_,_,_⟩ |⟨top,G,M,htop,hY⟩
   ·have h1:=(hpart.why w hwhy).2
    have h2:=jc2 HCL.o;simp at h1;omega
   have htp2:top=(ja2 l).text:=by have:=hpart.head;rw[htop]at this;exact Option.some.inj this
   subst htp2;have hK:=hpart.add w5 HI.o (Kp.none _) (fun _ h=>h) (by have:=jc2 HCL.o;omega) hY;have hre:=hY.res;subst hre;have HF:=Hd (And.intro hY.st hK);have hk6:=hY.kp;have HE6:=Hd (HE5.o.trans' hk6 (fun z hz e=>by
    rcases e with e | e
    ·have:=HZ.o;omega
    ·simp at e))
   have HSW:=Hd (And.intro HE5.o.size hk6.size);clear hY hK hk6 htop hpart;go_wp2_with fail
   go_ret2;exact .inr ⟨s,bm,_,rfl,⟨HE6.o,HF.o.1,⟨w5,HF.o.2⟩,HFW.o.symm,HI.o,HCL.o,by have:=HZ.o;omega,by have:=HZ.o;have:=HZS.o;omega,HZS.o.2,fun x hx=>by
    rcases HF.o.2.blk x hx with h | h
    ·simp at h
    ·have:=HSW.o;omega⟩⟩
end
end Go.Proofs.YtcpnjmcipainpaaGreatDoor
