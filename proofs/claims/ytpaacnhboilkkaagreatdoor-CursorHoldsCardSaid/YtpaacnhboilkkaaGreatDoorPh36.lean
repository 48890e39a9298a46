/- Parts of the proof, one behind the other: AddA, AddB, AddC, AddD, StoreAh, StoreI, StoreJ, StoreL, StoreM, StorePl, DropA, DropB. Each is under no condition but those that it states. -/
import Derived.Test.YtpaacnhboilkkaaGreatDoorPh33
import Derived.Test.YtpaacnhboilkkaaGreatDoorPh35
import Derived.Test.YtpaacnhboilkkaaGreatDoorPh31
import Derived.WalkMore
namespace Go.Proofs.YtpaacnhboilkkaaGreatDoor
set_option linter.unusedSimpArgs false
set_option linter.unusedVariables false
set_option maxRecDepth 100000
set_option maxHeartbeats 16000000
section
open Go Go.RowKit
attribute [local go_sem] Oper.semAt_some
def jt2(W:World)(b c:Nat):Prop:=∃ rv,W.cell? ⟨b,1,none⟩=some rv∧rv.ownBlock=some c
def RK(w W:World):Prop:=w.heap.size≤W.heap.size∧∀ b,b < w.heap.size→∀ c,jt2 W b c→jt2 w b c
theorem jj4{W W':World}{b i:Nat}(h:W'.heap[b]?=W.heap[b]?):W'.cell? ⟨b,i,none⟩=W.cell? ⟨b,i,none⟩:=by unfold World.cell?;rw[h]
theorem RK.refl(w:World):RK w w:=⟨Nat.le_refl _,fun _ _ _ h=>h⟩
theorem RK.trans{a b c:World}(h:RK a b)(k:RK b c):RK a c:=⟨Nat.le_trans h.1 k.1,fun x hx y r=>h.2 x hx y (k.2 x (Nat.lt_of_lt_of_le hx h.1) y r)⟩
theorem RK.keeps{F:BSet}{w W W':World}(h:RK w W)(k:jac F W W')(hF:∀ b,F b→w.heap.size≤b):RK w W':=⟨Nat.le_trans h.1 k.size,fun b hb c r=>by
 obtain⟨rv,h1,h2⟩:=r
 rw[jj4 (k.block b (Nat.lt_of_lt_of_le hb h.1) (fun f=>by have:=hF b f;omega))]at h1;exact h.2 b hb c ⟨rv,h1,h2⟩⟩
theorem RK.ext{w W W':World}(h:RK w W)(e:Ext W W'):RK w W':=h.keeps e (fun _ f=>f.elim)
theorem RK.put{w W W':World}{bm:Nat}{es:Array MapEntry}{ck:Nat}(h:RK w W)(k:jac (fun z=>z=bm) W W')(hm:Blk W' bm (.map es ck)):RK w W':=⟨Nat.le_trans h.1 k.size,fun b hb c r=>by
 obtain⟨rv,h1,h2⟩:=r
 by_cases e:b=bm
 ·subst e
  unfold World.cell? at h1;rw[show W'.heap[b]?=_ from hm]at h1;cases h1
 ·rw[jj4 (k.block b (Nat.lt_of_lt_of_le hb h.1) e)]at h1
  exact h.2 b hb c ⟨rv,h1,h2⟩⟩
theorem RK.set{w W:World}(h:RK w W)(zb:Nat){f:Nat}(hf:f=2∨f=3)(v:Value):RK w (W.setCell ⟨zb,f,none⟩ v):=⟨by rw[World.size_setCell];exact h.1,fun b hb c r=>by
 obtain⟨rv,h1,h2⟩:=r
 rw[World.cell?_setCell_other _ _ _ _ (fun e=>by have:=congrArg Addr.off e;rcases hf with rfl | rfl <;> cases this)]at h1;exact h.2 b hb c ⟨rv,h1,h2⟩⟩
def jlj(w W:World)(G:List Nd5):Prop:=∀ x∈G,∀ c,jt2 W x.2.1 c→w.heap.size≤c
theorem jlj.rk{w W W':World}{G:List Nd5}(h:jlj w W G)(hk:RK W W')(hl:∀ x∈G,x.2.1 < W.heap.size):jlj w W' G:=fun x hx c r=>h x hx c (hk.2 _ (hl x hx) c r)
def jvV(w:World)(bg:Nat)(L:List ByteArray)(iv:Value)(W:World):Prop:=∃ i:Nat,i≤L.length∧iv=.int .i64 i∧(∀ t∈L.take i,∃ n,jbW t n)∧∃ G,ReS w bg G (L.take i) W∧jlj w W G
def AnyQ(Q:Prop)(L:List ByteArray):Prop:=∀ t∈L,(∃ n,jbW t n)∨(GetE t∧Q)
theorem jie{L:List ByteArray}(h:∀ t∈L,∃ n,jbW t n):AnyQ False L:=fun t ht=>.inl (h t ht)
def RdA(Q:Prop)(w:World)(L:List ByteArray)(e:Ending)(w':World):Prop:=(e=.returned (.tuple #[.map none,.int .i64 2])∧Ext w w'∧Q)∨((∀ t∈L,∃ n,jbW t n)∧∃ bg G,e=.returned (.tuple #[.map (some bg),.int .i64 0])∧ReS w bg G L w'∧jlj w w' G)
theorem jnm{L:List ByteArray}{i:Nat}{t:ByteArray}{P:ByteArray→Prop}(h:∀ x∈L.take i,P x)(ht:L[i]?=some t)(hp:P t):∀ x∈L.take (i+1),P x:=fun x hx=>by
 rw[List.take_add_one,ht]at hx;rcases List.mem_append.1 hx with hx | hx
 ·exact h x hx
 ·have hx:x∈[t]:=hx
  rw[List.mem_singleton.1 hx];exact hp
theorem jrh(w:World)(hc:jch w)(hGE:ErrT w)(v:Value)(L:List ByteArray)(hv:RdS w v L)(hl:L.length≤1000)(h0:L≠[])(Q:Prop)(hN:AnyQ Q L) :
  Calls Tryz.prog 72 #[v] w (RdA Q w L):=by
 have hpos:0 < L.length:=List.length_pos_iff.2 h0
 obtain⟨a,c,rfl,_⟩:=hv.slice
 have HL3:=Hd hv;have HC:=Hd hc;have HN:=Hd hN;have HGE:=Hd hGE;have hmm:=Tryz.makeMapIt w;clear hv hc hN h0 hGE;have hb0:((L.length:Int) == 0)=false:=by simpa using (by omega:L.length≠0)
 go_enter Tryz.func72,Tryz.ntmps72;go_wp2_with fail
 obtain⟨bg,hbg⟩:∃ bg,bg=w.heap.size:=⟨_,rfl⟩
 have HBG:=Hd hbg;rw[←hbg];clear hbg hmm;go_loopw [16] (fun iv wr=>jvV w bg L iv wr) (fun iv _=>L.length - (intOf iv).toNat)
 case atStart =>
  refine⟨0,Nat.zero_le _,rfl,fun t ht=>(by cases ht),[],⟨(ExtR w).alloc _,⟨⟨[],0,?_,MapV.nil 0⟩,by simp,fun x hx=>by cases hx⟩,rfl,by rw[HBG.o];exact Nat.le_refl _,fun x hx=>by cases hx⟩,fun x hx=>by cases hx⟩
  rw[HBG.o];exact Blk.new w _
 case round =>
  obtain⟨i,hi,rfl,hall,G,hS,hrn⟩:=hrel
  have HRN:=Hd hrn;clear hrn;have HALL:=Hd hall;have HSR:=Hd hS;clear hS hall
  by_cases hlt:i < L.length
  ·have b1:(i:Int) < (L.length:Int):=by omega
   obtain⟨t,ht⟩:∃ t,L[i]?=some t:=⟨_,List.getElem?_eq_getElem hlt⟩
   obtain⟨ax,cx,hh,hcell⟩:=HL3.o.slice
   obtain⟨ba,oa,hao,hqa⟩:=hcell i t ht
   subst hao;cases hh;have q1:=jaa hqa HSR.o.ext;rcases HN.o t (List.mem_of_getElem? ht)with hnode |⟨hbad,hq⟩
   case inr =>
    have HBAD:=Hd hbad;have HQ:=Hd hq
    obtain⟨n,hn⟩:∃ n,n=jbb:=⟨_,rfl⟩
    have HRF:=Hd (show n.refs.length=16 by rw[hn];rfl);have hg:=HBAD.o wr (HGE.o.ext HSR.o.ext);unfold jvL at hg;rw[←hn]at hg;clear hcell hqa ht hbad hn hq;go_wp2_with fail
    refine hg.mono ?_;rintro e w4 ⟨rfl,hE⟩;have HX4:=Hd (HSR.o.ext.trans hE);clear hE hg q1;unfold jaf.V;go_wp2_with (refine jaq Tryz.allocNode rfl rfl ?_;intro W3 hB3 hE3;refine jaj (vs:=n.cells) rfl rfl rfl rfl hB3 (by rw[n.cells_len HRF.o];rfl) (by rw[n.cells_len HRF.o];exact Tryz.szNode) (jaf.one _) ?_;intro W4 hB4 hE4;have hE34:Ext w4 W4:=hE3.trans' hE4 (fun x hx e=>by have e:x=w4.heap.size:=e;omega))
    go_ret2;exact .inl ⟨rfl,HX4.o.trans hE34,HQ.o⟩
   have HALL2:=Hd (jnm HALL.o ht hnode)
   obtain⟨n0,hn0⟩:=hnode
   have hIs:=jdm hn0;have HTS:=Hd (joj ht);have HIT:=Hd (show itOf t=⟨t,jaV (nodeOf t),0,0⟩from rfl)
   obtain⟨n,hnn⟩:∃ n,n=nodeOf t:=⟨_,rfl⟩
   rw[←hnn]at hIs HIT;have h16:=jhI hIs
   obtain⟨htx,g,hg⟩:=hIs
   have HG:=Hd hg;have HRF:=Hd ((hg.one (inlP g)).refs);have HTX:=Hd htx;clear hcell hn0 hnn htx hg hqa ht;go_wp2_with fail
   rw[HTX.o];refine (jhG (inlP g) wr n HG.o).mono ?_;rintro e w4 ⟨rfl,hE⟩;rw[←HTX.o];have HX4:=Hd hE;clear hE q1;unfold jaf.V;go_wp2_with (refine jaq Tryz.allocNode rfl rfl ?_;intro W3 hB3 hE3;refine jaj (vs:=n.cells) rfl rfl rfl rfl hB3 (by rw[n.cells_len HRF.o];rfl) (by rw[n.cells_len HRF.o];exact Tryz.szNode) (jaf.one _) ?_;intro W4 hB4 hE4;have hE34:Ext w4 W4:=hE3.trans' hE4 (fun x hx e=>by have e:x=w4.heap.size:=e;omega))
   have HX5:=Hd (HX4.o.trans hE34);have HB5:=Hd hB4;clear hB3 hE3 hB4 hE4 hE34 HX4;refine (of_t _ _ [t] (by simp) (je0 W4 [t] 9) (HC.o.ext ((HSR.o.ext.trans HX5.o).alloc _))).mono ?_;rintro e w6 ⟨rfl,hE⟩;rw[jer];have hx6:=((ExtR W4).alloc (.cells #[.string t] 9)).trans hE;have HX6:=Hd (HX5.o.trans hx6);have HB6:=Hd (HB5.o.keeps hx6 (fun h=>h));have HS6:=Hd (HSR.o.keeps HX6.o);have hlk:=HS6.o.at'.look (shaB t) false;have HNA:=Hd (jua (L:=G) (k:=ky t));have HKY:=Hd (show (shaB t).data.toList=ky t from rfl);have HAD:=Hd (show addG (G.map kvI) t=if (G.map kvI).any (fun x=>decide (ky t=x.1))then G.map kvI else G.map kvI++[(ky t,itOf t)]from rfl);rw[HKY.o]at hlk;simp only[Bool.false_eq_true,if_false]at hlk
   obtain⟨sh,hsh⟩:∃ sh,sh=shaB t:=⟨_,rfl⟩
   rw[←hsh]at hlk HKY ⊢
   obtain⟨kt,hkt⟩:∃ kt,kt=ky t:=⟨_,rfl⟩
   rw[←hkt]at hlk HKY HNA HAD;clear hE hx6 HX5 HB5 hsh hkt;cases ha:atL G kt with
   | some x =>
    rw[ha]at hlk;unfold ptrO at hlk;simp only at hlk;have hz:addG (G.map kvI) t=G.map kvI:=by rw[HAD.o,HNA.o,ha];rfl
    have HZ:=Hd hz;clear ha hz;go_wp2_with fail
    go_roundw
    case rel =>
     exact⟨i+1,by omega,by go_num,HALL2.o,G,⟨HS6.o.ext,HS6.o.at',by rw[HTS.o, ←HS6.o.is,HZ.o],HS6.o.new,HS6.o.news⟩,HRN.o.rk ((RK.refl _).ext HX6.o) (fun x hx=>(HSR.o.at'.items x hx).lt)⟩
    case measure=>simp[intOf];omega
   | none =>
    rw[ha]at hlk;unfold ptrO at hlk;simp only at hlk;have hz:addG (G.map kvI) t=G.map kvI++[(kt,itOf t)]:=by rw[HAD.o,HNA.o,ha];rfl
    have HZ:=Hd hz;have HA:=Hd ha;have hld6:=jaz w6 _ n HRF.o HB6.o;unfold jaf.V at hld6;clear ha hz;go_wp2_with (refine jae 144 (.tmp 7) rfl rfl _ _ rfl hld6 ?_)
    refine (jmM g n HG.o w6).mono ?_;rintro e w8 ⟨v8,rfl,hR8,hnil⟩;have hE8:=hR8.ext;have hnew8:=hR8.new;have hown:=hR8.own
    obtain⟨a8,c8,rfl⟩:=hR8.sl
    have S8:=HS6.o.keeps hE8;have hA9:=S8.at'.ext ((ExtR w8).alloc (.cells #[.string t,.slice a8 (jaV n).length c8,.int .i64 0,.int .i64 0] 118));have hb9:=Blk.new w8 (.cells #[.string t,.slice a8 (jaV n).length c8,.int .i64 0,.int .i64 0] 118);have hi9:jeD (w8.alloc (.cells #[.string t,.slice a8 (jaV n).length c8,.int .i64 0,.int .i64 0] 118)) w8.heap.size (itOf t):=by
     rw[HIT.o]
     exact⟨_,hb9,jbd hown ((ExtR w8).alloc _)⟩
    obtain⟨ob,hmu,hA10⟩:=hA9.put sh (by rw[HKY.o];exact HA.o) hi9 (fun x hx e=>by have:=(S8.at'.items x hx).lt;omega)
    rw[HKY.o]at hA10;have hE10:Ext w ((w8.alloc (.cells #[.string t,.slice a8 (jaV n).length c8,.int .i64 0,.int .i64 0] 118)).putObj bg ob):=(S8.ext.alloc _).putObj (.inr S8.new) _;have hsz6:=S8.ext.size;have hrk8:RK wr w8:=((RK.refl _).ext HX6.o).ext hE8;have hobm:∃ es ck,Blk ((w8.alloc (.cells #[.string t,.slice a8 (jaV n).length c8,.int .i64 0,.int .i64 0] 118)).putObj bg ob) bg (.map es ck):=by
     obtain⟨es,ck,h1,_⟩:=hA10.mp
     exact⟨_,ck,h1⟩
    obtain⟨oes,ock,hobm⟩:=hobm
    have hrk10:=(hrk8.ext ((ExtR w8).alloc (.cells #[.string t,.slice a8 (jaV n).length c8,.int .i64 0,.int .i64 0] 118))).put (jac.onePut _ bg ob) hobm;have HRN10:=Hd (show jlj w ((w8.alloc (.cells #[.string t,.slice a8 (jaV n).length c8,.int .i64 0,.int .i64 0] 118)).putObj bg ob) (G++[(kt,w8.heap.size,itOf t)])from fun x hx c r=>by
     rcases List.mem_append.1 hx with hx | hx
     ·exact HRN.o.rk hrk10 (fun x hx=>(HSR.o.at'.items x hx).lt) x hx c r
     ·rw[List.mem_singleton.1 hx]at r
      obtain⟨rv,r1,r2⟩:=r
      have hne:w8.heap.size≠bg:=fun e=>by
       obtain⟨_,_,h1,_⟩:=S8.at'.mp
       have:=h1.lt;omega
      have hq:((w8.alloc (.cells #[.string t,.slice a8 (jaV n).length c8,.int .i64 0,.int .i64 0] 118)).putObj bg ob).cell? ⟨w8.heap.size,1,none⟩=some (.slice a8 (jaV n).length c8):=(hb9.keeps (jac.onePut _ bg ob) hne).cell (i:=1) (by rfl);have r1:_=some rv:=r1;rw[hq]at r1;have e:=Option.some.inj r1;rw[←e]at r2
      have:=hnew8 c r2
      have:=HS6.o.ext.size
      omega)
    have HE10:=Hd hE10;have HA10:=Hd hA10;have HNW:=Hd (show w.heap.size≤w8.heap.size from S8.ext.size);clear hrk8 hobm hrk10 hsz6 hE10 hA10 hi9 hb9 hA9 S8 hown hnew8 hE8 hR8 hnil hld6 hlk;go_wp2_with fail
    go_roundw
    case rel =>
     refine⟨i+1,by omega,by go_num,HALL2.o,G++[(kt,w8.heap.size,itOf t)],⟨HE10.o,HA10.o,?_,HS6.o.new,?_⟩,HRN10.o⟩
     ·rw[HTS.o, ←HS6.o.is,HZ.o,List.map_append];rfl
     ·intro x hx
      rcases List.mem_append.1 hx with hx | hx
      ·exact HS6.o.news x hx
      ·simp only[List.mem_singleton]at hx;subst hx;exact HNW.o
    case measure=>simp[intOf];omega
  ·have hie:i=L.length:=by omega
   subst hie;have HS:=Hd (show ReS w bg G L wr by have:=HSR.o;rwa [List.take_length]at this);clear HSR;go_wp2_with fail
   go_ret2;exact .inr ⟨by have h:=HALL.o;rwa [List.take_length]at h,bg,G,rfl,HS.o,HRN.o⟩
def okM(S G:List Nd5)(M:List ByteArray)(x:ByteArray):Bool:=memB (jbf M) x ||(atL S x.data.toList).isSome ||(atL G x.data.toList).isSome
theorem jmY(w0:World)(s bm:Nat)(room:Int)(S G:List Nd5)(bg b:Nat)(h:jas w0 s bm room S)(hG:jcQ w0 bg G)(W:World)(M:List ByteArray)(hM:Meet w0 s S bg b M W)(x:ByteArray)(hl:M.length≤1000000) :
  Calls Tryz.prog 125 #[.string x,.pointer (some ⟨b+4,0,none⟩),.pointer (some ⟨b,0,none⟩),.pointer (some ⟨b+2,0,none⟩),.pointer (some ⟨b+1,0,none⟩)] W fun e w'=>e=.returned (.bool (okM S G M x))∧Meet w0 s S bg b (M++[x]) w':=by
 have HM:=Hd hM;have HS:=Hd h
 obtain⟨es,ck,h5,h6⟩:=hM.tab
 obtain⟨v,n,h1,h2,h3,h4⟩:=hM.var
 obtain⟨ad,cp,rfl⟩:=jay h2
 obtain⟨cn,hcn⟩:∃ cn,cn=cntB M x:=⟨_,rfl⟩
 have hcl:cn≤1000000:=by
  rw[hcn];unfold cntB;refine Nat.le_trans List.count_le_length ?_;rw[List.length_map];exact hl
 have e6:=h6 x;rw[←hcn]at e6;have hlk:(Instr.lookup 101 (.map (some (b+3))) (.string x) false).run Tryz.prog W=.ok (.int .i64 (cn:Int)) W:=by
  have:=jcN Tryz.ES Tryz.uMapSI h5 (Tryz.zeroI W) x.data.toList false
  rw[e6]at this;unfold cntV at this
  by_cases h0:cn=0
  ·rw[if_pos h0]at this;rw[h0];exact this
  ·rw[if_neg h0]at this;exact this
 obtain⟨es2,hes2⟩:∃ es2,es2=jbz es x.data.toList (.int .i64 ((cn:Int)+1)) ck:=⟨_,rfl⟩
 obtain⟨ck2,hck2⟩:∃ ck2,ck2=(if (jaZ es x.data.toList).isSome then ck else ck+1):=⟨_,rfl⟩
 obtain⟨W2,hW2⟩:∃ W2,W2=W.putObj (b+3) (.map (Tryz.ES.arr es2) ck2):=⟨_,rfl⟩
 have hmu:(Instr.mapUpdate 101 (.map (some (b+3))) (.string x) (.int .i64 ((cn:Int)+1))).run Tryz.prog W=.ok () W2:=by
  have:=jcu Tryz.ES Tryz.uMapSI h5 x.data.toList (.int .i64 ((cn:Int)+1))
  rw[←hes2, ←hck2, ←hW2]at this;exact this
 have B2:Blk W2 (b+3) (.map (Tryz.ES.arr es2) ck2):=by rw[hW2];exact h5.put_same _
 have e7:∀ y:ByteArray,jaZ es2 y.data.toList=cntV (cntB (M++[x]) y):=fun y=>by
  rw[hes2,jc6,h6 y,jpr]
  by_cases hxy:y.data.toList=x.data.toList
  ·have hyx:y=x:=ByteArray.ext (Array.ext' hxy)
   subst hyx;rw[if_pos rfl,if_pos rfl, ←hcn];unfold cntV;rw[if_neg (by omega)];simp
  ·rw[if_neg hxy,if_neg (fun e=>hxy e.symm)];rfl
 have hlk2:(Instr.lookup 101 (.map (some (b+3))) (.string x) false).run Tryz.prog W2=.ok (.int .i64 ((cn:Int)+1)) W2:=by
  have:=jcN Tryz.ES Tryz.uMapSI B2 (Tryz.zeroI W2) x.data.toList false
  rw[hes2,jc6,if_pos rfl]at this;exact this
 have K2:jac (fun z=>z=b+3) W W2:=by rw[hW2];exact jac.onePut _ _ _
 have q9:W.cell? ⟨b+4,0,none⟩=some (.map (some (b+3))):=hM.c9.cell (i:=0) (by rfl);have E2:Ext w0 W2:=hM.ext.trans' K2 (fun y hy e=>by have e:y=_:=e;have:=hM.lo;omega);have C9:=hM.c9.keeps K2 (by omega);have q92:W2.cell? ⟨b+4,0,none⟩=some (.map (some (b+3))):=C9.cell (i:=0) (by rfl);have C3:=hM.c3.keeps K2 (by omega);have q32:W2.cell? ⟨b,0,none⟩=some (.pointer (some ⟨s,0,none⟩)):=C3.cell (i:=0) (by rfl);have C5:=hM.c5.keeps K2 (by omega);have V2:=h1.keeps K2 (by omega);have O2:=jaG h2 K2 (fun z hz e=>by have:=h4 z hz;have e:z=_:=e;omega);have hV2:W2.cell? ⟨b+2,0,none⟩=some (.slice ad n cp):=V2.cell (i:=0) (by rfl);have hV2f:W2.frozen? ⟨b+2,0,none⟩=false:=V2.frozen;have qs:=(h.st.keeps E2 (fun g=>g)).cell (i:=1) (v:=.map (some bm)) (by rfl);have hlks:=(h.mp.ext E2).look x false;simp only[Bool.false_eq_true,if_false]at hlks;have HMEM:=Hd (show memB (jbf M) x=true↔cn≠0 from by
  rw[jfl,jbm,hcn];unfold cntB;rw[←Nat.pos_iff_ne_zero,List.count_pos_iff,List.mem_map]
  exact⟨fun hm=>⟨x,hm,rfl⟩,fun ⟨y,hy,e⟩=>by rw[←show y=x from ByteArray.ext (Array.ext' e)];exact hy⟩)
 have HFS:=Hd (jmE S M x);have HTAB:=Hd (show ∃ es ck,Blk W2 (b+3) (.map (Tryz.ES.arr es) ck)∧∀ y:ByteArray,jaZ es y.data.toList=cntV (cntB (M++[x]) y)from⟨es2,ck2,B2,e7⟩);have HGM:=Hd (show ∀ W3:World,Ext w0 W3→jcQ W3 bg G from fun _ e=>hG.ext e)
 obtain⟨ok,hok⟩:∃ ok,ok=okM S G M x:=⟨_,rfl⟩
 rw[←hok];have HOK:=Hd hok;clear hok;have HK2:=Hd K2;have HC3:=Hd C3;have HC5:=Hd C5;have HC9:=Hd C9;have HV2:=Hd V2;have HO2:=Hd O2;have HE2:=Hd E2;have H4:=Hd h4;have H3:=Hd h3;have HLO:=Hd hM.lo;have HEND:=Hd (show frK S (M++[x])=frK S M→Meet w0 s S bg b (M++[x]) W2 from fun e=>⟨E2,hM.lo,C3,C5,C9,⟨es2,ck2,B2,e7⟩,_,n,V2,by rw[e];exact O2,by rw[List.length_append];omega,h4⟩);clear hM h h1 h2 h4 h5 h6 hcn e6 hes2 hck2 hW2 B2 e7 K2 C3 C5 C9 V2 O2 E2 hG
 by_cases hc0:cn=0
 ·subst hc0
  have hnm:memB (jbf M) x=false:=by
   cases hm:memB (jbf M) x with
   | false=>rfl
   | true=>exact absurd rfl (HMEM.o.1 hm)
  have HNM:=Hd hnm;have hlk':(Instr.lookup 101 (.map (some (b+3))) (.string x) false).run Tryz.prog W=.ok (.int .i64 0) W:=hlk;have hmu':(Instr.mapUpdate 101 (.map (some (b+3))) (.string x) (.int .i64 1)).run Tryz.prog W=.ok () W2:=hmu;have hlk2':(Instr.lookup 101 (.map (some (b+3))) (.string x) false).run Tryz.prog W2=.ok (.int .i64 1) W2:=hlk2;clear hnm hlk hmu hlk2;cases hs:atL S x.data.toList with
  | some y =>
   rw[hs]at hlks;unfold ptrO at hlks;simp only at hlks;have HFE:=Hd (show frK S (M++[x])=frK S M by rw[HFS.o,HNM.o,hs];rfl);have hok:ok=true:=by rw[HOK.o];unfold okM;rw[hs];simp
   subst hok;clear hs HOK;go_enter Tryz.func125,Tryz.ntmps125;go_wp2_with fail
   go_ret
   exact⟨rfl,HEND.o HFE.o⟩
  | none =>
   rw[hs]at hlks;unfold ptrO at hlks;simp only at hlks;have HFE:=Hd (show frK S (M++[x])=frK S M++[x] by rw[HFS.o,HNM.o,hs];rfl);have hok:ok=(atL G x.data.toList).isSome:=by rw[HOK.o];unfold okM;rw[hs,HNM.o];simp
   have HOK2:=Hd hok;clear hs HOK hok;have hm1:n+1≤maxLen:=by have:=H3.o;unfold maxLen;omega
   have hm2:(n+1) * 16≤140737488355328:=by have:=H3.o;omega
   cases hyg:atL G x.data.toList with
   | some yg =>
    have HGY:=Hd hyg;have hok:ok=true:=by rw[HOK2.o,hyg];rfl
    subst hok;clear hyg HOK2;go_enter Tryz.func125,Tryz.ntmps125
    obtain⟨i0,hi,hz0,hz1,hz2⟩:=info_parts Tryz.infoStr
    go_wp2_with (at_builtin;refine jcw _ rfl (.tmp 24) (.tmp 26) 34 rfl 9 i0 _ 1 16 Tryz.uStrs hi hz0 hz1 hz2 rfl (by decide) (.slice ad n cp) n _ rfl (jbd HO2.o ((ExtR W2).alloc _)) ⟨W2.heap.size,0,none⟩ 1 1 [.string x] rfl rfl (ja9 (Blk.new W2 _)) (by simp[Value.oneCell']) hm1 hm2 ?_;intro v' w6 r1 r2 r3;obtain⟨ad',cp',rfl⟩:=jay r1;have K6:jac (fun z=>(Value.slice ad n cp).ownBlock=some z) W2 w6:=((jac.refl _ W2).alloc _).trans r2;have nO:∀ z,z < b+5→¬(Value.slice ad n cp).ownBlock=some z:=(fun z hz e=>by have:=H4.o z e;omega);have hV6:=HV2.o.keeps K6 (nO _ (by omega));have q56:w6.cell? ⟨b+2,0,none⟩=some (.slice ad n cp):=hV6.cell (i:=0) (by rfl);have f56:w6.frozen? ⟨b+2,0,none⟩=false:=hV6.frozen;have K7:jac (fun z=>z=b+2) w6 (w6.setCell ⟨b+2,0,none⟩ (.slice ad' (n+1) cp')):=jac.oneSet w6 ⟨b+2,0,none⟩ _;have C57:=(HC5.o.keeps K6 (nO _ (by omega))).keeps K7 (by omega);have q57:=C57.cell (i:=0) (v:=.map (some bg)) (by rfl);have E7:Ext w0 (w6.setCell ⟨b+2,0,none⟩ (.slice ad' (n+1) cp')):=(HE2.o.trans' K6 (fun y hy e=>by have:=H4.o y e;have:=HLO.o;omega)).trans' K7 (fun y hy e=>by have e:y=_:=e;have:=HLO.o;omega);have hlkg:=(HGM.o _ E7).look x false;rw[HGY.o]at hlkg;unfold ptrO at hlkg;simp only[Bool.false_eq_true,if_false]at hlkg)
    go_ret
    refine⟨rfl,E7,HLO.o,(HC3.o.keeps K6 (nO _ (by omega))).keeps K7 (by omega),C57,(HC9.o.keeps K6 (nO _ (by omega))).keeps K7 (by omega),?_,.slice ad' (n+1) cp',n+1,hV6.set_same (i:=0) _,?_,?_,?_⟩
    ·obtain⟨es3,ck3,hT1,hT2⟩:=HTAB.o
     exact⟨es3,ck3,(hT1.keeps K6 (nO _ (by omega))).keeps K7 (by omega),hT2⟩
    ·rw[HFE.o,List.map_append]
     refine jaG r1 K7 (fun z hz e=>?_);have e:z=b+2:=e;rcases r3 with r3 | r3
     ·have:=H4.o z (r3 ▸ hz);omega
     ·have h9:=r3 z hz;rw[World.size_alloc]at h9;have:=HV2.o.lt;omega
    ·have:=H3.o;rw[List.length_append];exact Nat.succ_le_succ this
    ·intro z hz
     rcases r3 with r3 | r3
     ·exact H4.o z (r3 ▸ hz)
     ·have h9:=r3 z hz;rw[World.size_alloc]at h9;have:=HC9.o.lt;omega
   | none =>
    have HGY:=Hd hyg;have hok:ok=false:=by rw[HOK2.o,hyg];rfl
    subst hok;clear hyg HOK2;go_enter Tryz.func125,Tryz.ntmps125
    obtain⟨i0,hi,hz0,hz1,hz2⟩:=info_parts Tryz.infoStr
    go_wp2_with (at_builtin;refine jcw _ rfl (.tmp 24) (.tmp 26) 34 rfl 9 i0 _ 1 16 Tryz.uStrs hi hz0 hz1 hz2 rfl (by decide) (.slice ad n cp) n _ rfl (jbd HO2.o ((ExtR W2).alloc _)) ⟨W2.heap.size,0,none⟩ 1 1 [.string x] rfl rfl (ja9 (Blk.new W2 _)) (by simp[Value.oneCell']) hm1 hm2 ?_;intro v' w6 r1 r2 r3;obtain⟨ad',cp',rfl⟩:=jay r1;have K6:jac (fun z=>(Value.slice ad n cp).ownBlock=some z) W2 w6:=((jac.refl _ W2).alloc _).trans r2;have nO:∀ z,z < b+5→¬(Value.slice ad n cp).ownBlock=some z:=(fun z hz e=>by have:=H4.o z e;omega);have hV6:=HV2.o.keeps K6 (nO _ (by omega));have q56:w6.cell? ⟨b+2,0,none⟩=some (.slice ad n cp):=hV6.cell (i:=0) (by rfl);have f56:w6.frozen? ⟨b+2,0,none⟩=false:=hV6.frozen;have K7:jac (fun z=>z=b+2) w6 (w6.setCell ⟨b+2,0,none⟩ (.slice ad' (n+1) cp')):=jac.oneSet w6 ⟨b+2,0,none⟩ _;have C57:=(HC5.o.keeps K6 (nO _ (by omega))).keeps K7 (by omega);have q57:=C57.cell (i:=0) (v:=.map (some bg)) (by rfl);have E7:Ext w0 (w6.setCell ⟨b+2,0,none⟩ (.slice ad' (n+1) cp')):=(HE2.o.trans' K6 (fun y hy e=>by have:=H4.o y e;have:=HLO.o;omega)).trans' K7 (fun y hy e=>by have e:y=_:=e;have:=HLO.o;omega);have hlkg:=(HGM.o _ E7).look x false;rw[HGY.o]at hlkg;unfold ptrO at hlkg;simp only[Bool.false_eq_true,if_false]at hlkg)
    go_ret
    refine⟨rfl,E7,HLO.o,(HC3.o.keeps K6 (nO _ (by omega))).keeps K7 (by omega),C57,(HC9.o.keeps K6 (nO _ (by omega))).keeps K7 (by omega),?_,.slice ad' (n+1) cp',n+1,hV6.set_same (i:=0) _,?_,?_,?_⟩
    ·obtain⟨es3,ck3,hT1,hT2⟩:=HTAB.o
     exact⟨es3,ck3,(hT1.keeps K6 (nO _ (by omega))).keeps K7 (by omega),hT2⟩
    ·rw[HFE.o,List.map_append]
     refine jaG r1 K7 (fun z hz e=>?_);have e:z=b+2:=e;rcases r3 with r3 | r3
     ·have:=H4.o z (r3 ▸ hz);omega
     ·have h9:=r3 z hz;rw[World.size_alloc]at h9;have:=HV2.o.lt;omega
    ·have:=H3.o;rw[List.length_append];exact Nat.succ_le_succ this
    ·intro z hz
     rcases r3 with r3 | r3
     ·exact H4.o z (r3 ▸ hz)
     ·have h9:=r3 z hz;rw[World.size_alloc]at h9;have:=HC9.o.lt;omega
 ·have hc1:¬((cn:Int)+1≤1):=by omega
  have HFE:=Hd (show frK S (M++[x])=frK S M by rw[HFS.o,HMEM.o.2 hc0];rfl);have hok:ok=true:=by rw[HOK.o];unfold okM;rw[HMEM.o.2 hc0];simp
  subst hok;clear HOK;go_enter Tryz.func125,Tryz.ntmps125;go_wp2_with fail
  go_ret
  exact⟨rfl,HEND.o HFE.o⟩
structure Fair(G:List Nd5):Prop where
 few:G.length≤1000
 refs:∀ y∈G,y.2.2.refs.length≤16
def has2(S G:List Nd5)(x:ByteArray):Prop:=(atL S x.data.toList).isSome=true∨(atL G x.data.toList).isSome=true
structure jft(S G:List Nd5)(root:ByteArray)(M:List ByteArray)(i:Nat):Prop where
 is:M=root ::((frK S M).take i).flatMap (jb4 G)
 le:i≤(frK S M).length
 inG:∀ x∈M,has2 S G x
theorem jgC{G:List Nd5}(h:Fair G):∀ l:List ByteArray,(l.flatMap (jb4 G)).length≤16 * l.length
 | []=>by simp
 | x :: r=>by
  have ih:=jgC h r
  have:(jb4 G x).length≤16:=by
   unfold jb4;split
   ·rename_i y hy;exact h.refs y (jaD hy).1
   ·simp
  rw[List.flatMap_cons,List.length_append,List.length_cons];omega
theorem jft.len{S G:List Nd5}{root:ByteArray}{M:List ByteArray}{i:Nat}(h:jft S G root M i)(hs:Fair G):M.length≤1+16 * i:=by
 have:=jgC hs ((frK S M).take i)
 rw[List.length_take]at this;have h2:=congrArg List.length h.is;rw[List.length_cons]at h2;omega
theorem jft.at'{S G:List Nd5}{root:ByteArray}{M:List ByteArray}{i:Nat}(h:jft S G root M i){x:ByteArray}(hx:x∈frK S M):(atL G x.data.toList).isSome=true:=by
 have hm:=jfM.1 hx;rcases h.inG x hm.1 with h | h
 ·rw[hm.2]at h;cases h
 ·exact h
theorem jf6{S G:List Nd5}{M:List ByteArray}(h:∀ x∈frK S M,(atL G x.data.toList).isSome=true):(frK S M).length≤G.length:=by
 have h1:((frK S M).map fun x=>x.data.toList).Nodup:=by
  have:=jkn S M
  generalize frK S M=l at this;induction l with
  | nil=>simp
  | cons z r ih =>
   rw[List.nodup_cons]at this;rw[List.map_cons,List.nodup_cons]
   exact⟨fun hm=>by obtain⟨y,hy,e⟩:=List.mem_map.1 hm;exact this.1 (jlp e ▸ hy),ih this.2⟩
 have:=List.Nodup.length_le_of_subset h1 (l₂:=G.map (·.1)) (fun k hk=>by
  obtain⟨x,hx,e⟩:=List.mem_map.1 hk
  obtain⟨y,hy⟩:=Option.isSome_iff_exists.1 (h x hx)
  exact List.mem_map.2 ⟨y,(jaD hy).1,by rw[(jaD hy).2,e]⟩)
 simpa using this
theorem jft.step{S G:List Nd5}{root:ByteArray}{M:List ByteArray}{i:Nat}(h:jft S G root M i){x:ByteArray}(hx:(frK S M)[i]?=some x)(hr:∀ r∈jb4 G x,has2 S G r):jft S G root (M++jb4 G x) (i+1):=by
 obtain⟨X,hX⟩:=jmD S M (jb4 G x)
 have hlt:i < (frK S M).length:=(List.getElem?_eq_some_iff.1 hx).1
 refine⟨?_,?_,?_⟩
 ·have e:(frK S (M++jb4 G x)).take (i+1)=(frK S M).take i++[x]:=by
   rw[hX,List.take_append_of_le_length (by omega),List.take_add_one,hx];rfl
  rw[e,List.flatMap_append]
  have:=h.is
  generalize frK S M=l at this;rw[this]
  simp
 ·rw[hX,List.length_append];omega
 ·intro y hy
  rcases List.mem_append.1 hy with hy | hy
  ·exact h.inG y hy
  ·exact hr y hy
theorem jwM{S G:List Nd5}{M:List ByteArray}{x:ByteArray}(h:okM S G M x=true)(hM:∀ y∈M,has2 S G y):has2 S G x:=by
 unfold okM at h;simp only[Bool.or_eq_true]at h;rcases h with (h | h) | h
 ·exact hM x ((jbm _ _).1 ((jfl _ _).1 h))
 ·exact .inl h
 ·exact .inr h
theorem juZ{S G:List Nd5}{M:List ByteArray}{x:ByteArray}(h:okM S G M x=false):¬ has2 S G x:=by
 unfold okM at h;simp only[Bool.or_eq_false_iff]at h;rintro (e | e)
 ·rw[h.1.2]at e;cases e
 ·rw[h.2]at e;cases e
def jvX(w0:World)(s:Nat)(S G:List Nd5)(bg b:Nat)(root:ByteArray)(wv iv:Value)(W:World):Prop:=wv=.bool true∧∃ (i:Nat) (M:List ByteArray),iv=.int .i64 i∧jft S G root M i∧Meet w0 s S bg b M W
def jt0(w0:World)(s:Nat)(S G:List Nd5)(bg b:Nat)(M R:List ByteArray)(wv jv:Value)(W:World):Prop:=wv=.bool true∧∃ j:Nat,jv=.int .i64 j∧j≤R.length∧Meet w0 s S bg b (M++R.take j) W∧∀ r∈R.take j,has2 S G r
def RhP(w0:World)(S G:List Nd5)(root:ByteArray)(e:Ending)(w':World):Prop:=(e=.returned (.tuple #[.slice none 0 0,.int .i64 2])∧Ext w0 w'∧∃ x r,r∈jb4 G x∧¬ has2 S G r)∨∃ v n M,e=.returned (.tuple #[v,.int .i64 0])∧jft S G root M (frK S M).length∧SRow w0 w' v n (frK S M)
theorem jlZ(w0:World)(s bm:Nat)(room:Int)(S G:List Nd5)(bg:Nat)(h:jas w0 s bm room S)(hG:jcQ w0 bg G)(hs:Fair G)(root:ByteArray)(hr:(atL G root.data.toList).isSome=true) :
  Calls Tryz.prog 73 #[.pointer (some ⟨s,0,none⟩),.string root,.map (some bg)] w0 (RhP w0 S G root):=by
 have HS:=Hd h;have HG:=Hd hG;have HSH:=Hd hs;have HR:=Hd hr;have hmm:=Tryz.makeMapSI;clear h hG hs hr;go_enter Tryz.func73,Tryz.ntmps73;go_wp2_with fail
 go_step3;go_wp2_with fail
 refine (jmY w0 s bm room S G bg w0.heap.size HS.o HG.o _ [] (jqs w0 s S bg) root (by simp)).mono ?_;rintro e w5 ⟨rfl,hM⟩;rw[show okM S G [] root=true by unfold okM;rw[HR.o];simp];have HM:=Hd hM;clear hM hmm
 obtain⟨b,hb⟩:∃ b,b=w0.heap.size:=⟨_,rfl⟩
 rw[show w0.heap.size+1+1+1+1=w0.heap.size+4 from rfl,show w0.heap.size+1+1+1=w0.heap.size+3 from rfl,show w0.heap.size+1+1=w0.heap.size+2 from rfl];rw[←hb]at HM ⊢;clear hb;go_wp2_with fail
 go_step3;go_wp2_with fail
 go_loopw [11,12] (fun wv iv wr=>jvX w0 s S G bg b root wv iv wr) (fun _ iv _=>1001 - (intOf iv).toNat)
 case atStart =>
  refine⟨rfl,0,[root],rfl,⟨by simp,Nat.zero_le _,fun x hx=>by simp at hx;subst hx;exact .inr HR.o⟩,HM.o⟩
 case round =>
  obtain⟨rfl,i,M,rfl,hP,hM⟩:=hrel
  obtain⟨v,n,h1,h2,h3,h4⟩:=hM.var
  obtain⟨ad,cp,rfl⟩:=jay h2
  have hn:(frK S M).length=n:=by have:=h2.1;simpa using this
  have hfl:=jf6 (S:=S) (M:=M) (fun x hx=>hP.at' hx);have hfew:=HSH.o.few;have q8:=h1.cell (i:=0) (v:=.slice ad n cp) (by rfl);have hile:=hP.le
  by_cases hlt:i < n
  ·have b1:(i:Int) < (n:Int):=by omega
   obtain⟨x,hx⟩:∃ x,(frK S M)[i]?=some x:=⟨_,List.getElem?_eq_getElem (by omega)⟩
   obtain⟨ax,cx,hh,hcell⟩:=(jhP h2).slice
   obtain⟨ba,oa,hao,hqa⟩:=hcell i x hx
   subst hao;cases hh
   obtain⟨y,hy⟩:=Option.isSome_iff_exists.1 (hP.at' (List.mem_of_getElem? hx))
   have hI:=HG.o.items y (jaD hy).1;have hro:=jfp hy;have h16:=HSH.o.refs y (jaD hy).1
   obtain⟨rv,hIb,hIr⟩:=hI.cells
   obtain⟨ar,cr,rfl⟩:=jay hIr
   obtain⟨R,hR⟩:∃ R,R=y.2.2.refs:=⟨_,rfl⟩
   have Q5:=Hd (hM.c5.cell (i:=0) (v:=.map (some bg)) (by rfl));have Q8:=Hd q8;have QA:=Hd hqa;have QR:=Hd ((hIb.keeps hM.ext (fun g=>g)).cell (i:=1) (v:=.slice ar y.2.2.refs.length cr) (by rfl));have HMG:=Hd (HG.o.ext hM.ext);have HY:=Hd hy;have HPS:=Hd (fun hr=>hP.step hx hr);have HIN:=Hd hP.inG;have HPL:=Hd (hP.len HSH.o);have HRR:=Hd (jhP hIr);have HM2:=Hd hM;rw[hro, ←hR]at HPS;rw[←hR]at QR HRR h16;have HXR:=Hd (show R=jb4 G x by rw[hR,hro]);have hi1000:i≤1000:=by omega
   obtain⟨yb,hyb⟩:∃ yb,yb=y.2.1:=⟨_,rfl⟩
   rw[←hyb]at QR;have HYB:=Hd hyb;clear hro hR hyb hIr hIb hI hy hx hcell hqa h1 h2 hP hM hn hfl hile;go_wp2_with fail
   refine jan [0,1,2,3,4,5,6,7,8,9,10] Ext ExtR ExtT (by kernel_rfl) (by kernel_rfl) (by kernel_rfl) ?_;refine jal ⟨b+1,0,none⟩ _ rfl (by kernel_rfl) rfl rfl (fun w1 h1=>jab Tryz.underlying109 rfl (jaa Q5.o ((jak _).trans h1))) ?_;simp only[Act.put,sA,sB,sC];refine jal ⟨b+2,0,none⟩ _ rfl (by kernel_rfl) rfl rfl (fun w1 h1=>jab Tryz.underlying34 rfl (jaa Q8.o ((jak _).trans h1))) ?_;simp only[Act.put,sA,sB,sC];iterate 2 (refine jag _ rfl (by kernel_rfl) rfl rfl (fun K hK=>?_);go_big_quiet_op;refine hK _ ?_;clear hK K)
   refine jal ⟨ba,oa+i,none⟩ _ rfl (by kernel_rfl) rfl rfl (fun w1 h1=>jab Tryz.underlying9 rfl (jaa QA.o ((jak _).trans h1))) ?_;simp only[Act.put,sA,sB,sC];refine jce _ (.pointer (some ⟨yb,0,none⟩)) rfl (by kernel_rfl) rfl (fun w1 h1=>by
    have hx:=(HMG.o.ext ((jak _).trans h1)).look x false;rw[HY.o]at hx;unfold ptrO at hx;simp only[Bool.false_eq_true,if_false]at hx;rw[←HYB.o]at hx;simp[execOp,Act.eval,hx,Sem.run_bind,Result.andThen,Sem.run_pure]) ?_
   simp only[Act.put,sA,sB,sC];refine jce _ (.pointer (some ⟨yb,0,none⟩)) rfl (by kernel_rfl) rfl (fun w1 _=>by kernel_rfl) ?_;simp only[Act.put,sA,sB,sC]
   (refine jag _ rfl (by kernel_rfl) rfl rfl (fun K hK=>?_);go_big_quiet_op;refine hK _ ?_;clear hK K)
   refine jal ⟨yb,1,none⟩ _ rfl (by kernel_rfl) rfl rfl (fun w1 h1=>jab Tryz.underlying34 rfl (jaa QR.o ((jak _).trans h1))) ?_;simp only[Act.put,sA,sB,sC];iterate 2 (refine jag _ rfl (by kernel_rfl) rfl rfl (fun K hK=>?_);go_big_quiet_op;refine hK _ ?_;clear hK K)
   refine jaW (by kernel_rfl) (fun w3 he=>?_);have HM3:=Hd (HM2.o.keeps ((jak _).trans he));clear he HM2 Q5 Q8 QA QR HMG HY q8;go_wp2_with fail
   go_loopw [11,36] (fun wv jv wr2=>jt0 w0 s S G bg b M R wv jv wr2) (fun _ jv _=>R.length - (intOf jv).toNat)
   case atStart=>exact⟨rfl,0,rfl,Nat.zero_le _,by rw[List.take_zero,List.append_nil];exact HM3.o,fun r hr=>by cases hr⟩
   case round =>
    obtain⟨rfl,j,rfl,hj,hM',hin⟩:=hrel
    have HINR:=Hd hin;clear hin
    by_cases hlt2:j < R.length
    ·have b2:(j:Int) < (R.length:Int):=by omega
     obtain⟨z,hz⟩:∃ z,R[j]?=some z:=⟨_,List.getElem?_eq_getElem hlt2⟩
     obtain⟨ax2,cx2,hh2,hcell2⟩:=HRR.o.slice
     obtain⟨ba2,oa2,hao2,hqa2⟩:=hcell2 j z hz
     subst hao2;cases hh2;have q2:=jaa hqa2 hM'.ext;have HZR:=Hd hz;have HT:=Hd (show M++R.take (j+1)=M++R.take j++[z] by rw[List.take_add_one,hz, ←List.append_assoc];rfl);have HL:=Hd (show (M++R.take j).length≤1000000 by have:=HPL.o;rw[List.length_append,List.length_take];omega);have HMJ:=Hd hM';clear hcell2 hqa2 hM' hz;go_wp2_with fail
     refine (jmY w0 s bm room S G bg b HS.o HG.o _ _ HMJ.o z HL.o).mono ?_;rintro e w9 ⟨rfl,hM9⟩;rw[←HT.o]at hM9;have HM9:=Hd hM9
     obtain⟨ok,hok⟩:∃ ok,ok=okM S G (M++R.take j) z:=⟨_,rfl⟩
     rw[←hok];have HOK:=Hd hok;clear hM9 HMJ q2 hok;cases ok with
     | false =>
      go_wp2_with fail
      go_ret2;exact .inl ⟨rfl,HM9.o.ext,x,z,by rw[←HXR.o];exact List.mem_of_getElem? HZR.o,juZ HOK.o.symm⟩
     | true =>
     go_wp2_with fail
     go_roundw
     case rel =>
      refine⟨rfl,j+1,by go_num,by omega,HM9.o,jnm HINR.o HZR.o (jwM HOK.o.symm fun y hy=>?_)⟩
      rcases List.mem_append.1 hy with hy | hy
      ·exact HIN.o y hy
      ·exact HINR.o y hy
     case measure=>simp[intOf];omega
    ·have hje:j=R.length:=by omega
     subst hje;rw[List.take_length]at hM';have HM9:=Hd hM';clear hM';go_wp2_with fail
     go_roundw
     case rel=>exact⟨rfl,i+1,M++R,by go_num,HPS.o (by have h:=HINR.o;rwa [List.take_length]at h),HM9.o⟩
     case measure=>simp[intOf];omega
  ·have hie:i=(frK S M).length:=by omega
   have HP:=Hd (show jft S G root M (frK S M).length by rw[←hie];exact hP);have HRW:=Hd (show SRow w0 wr (.slice ad n cp) n (frK S M)from⟨⟨_,_,rfl⟩,h2,hM.ext,fun z hz=>by have:=h4 z hz;have:=hM.lo;omega⟩);have b1:¬(i:Int) < (n:Int):=by omega
   clear hie hP hM h1 h2 h4 hn hfl hile;go_wp2_with fail
   go_ret2;exact .inr ⟨.slice ad n cp,n,M,rfl,HP.o,HRW.o⟩
theorem jgF{L:List ByteArray}{G:List Nd5}(h:G.map kvI=readG L)(hL:∀ t∈L,∃ n,jbW t n)(hl:L.length≤1000):Fair G:=by
 refine⟨?_,fun y hy=>?_⟩
 ·have:=(jef L).2.2
  rw[←h,List.length_map]at this;exact Nat.le_trans this hl
 ·obtain⟨t,ht,_,e⟩:=jdd h hy
  rw[e]
  obtain⟨n,hn⟩:=hL t ht
  exact jhI (jdm hn)
theorem jh0{S G:List Nd5}{root:ByteArray}{M:List ByteArray}{i:Nat}(h:jft S G root M i){r:ByteArray}(hr:r∈M):(atL (S++jc2 G (frK S M)) r.data.toList).isSome=true:=by
 rw[jv9];cases hs:atL S r.data.toList with
 | some y=>rfl
 | none =>
  obtain⟨y,hy⟩:=Option.isSome_iff_exists.1 (h.at' (jfM.2 ⟨hr,hs⟩))
  have hm:y∈jc2 G (frK S M):=List.mem_filterMap.2 ⟨r,jfM.2 ⟨hr,hs⟩,hy⟩;cases hp:atL (jc2 G (frK S M)) r.data.toList with
  | some z=>rfl
  | none=>exact absurd (jaD hy).2.symm (jg1.1 hp y hm)
structure AddY(w:World)(s bm:Nat)(room:Int)(S:List Nd5)(L:List ByteArray)(top:ByteArray)(G:List Nd5)(M:List ByteArray)(e:Ending)(w':World):Prop where
 given:G.map kvI=readG L
 nodes:∀ t∈L,∃ n,jbW t n
 news:∀ y∈G,w.heap.size≤y.2.1
 path:jft S G (shaB top) M (frK S M).length
 fits:¬ room - S.length < (frK S M).length
 res:e=.returned (.tuple #[.string (shaB top),.int .i64 0])
 st:jas w' s bm room (jj3 (shaB top).data.toList (jeI ((frK S M).flatMap (jb4 G)) (S++jc2 G (frK S M))))
 kp:jac (fun z=>z=bm∨z∈S.map (·.2.1)) w w'
 rk:RK w w'
 rows:jlj w w' G
def jtq(Q:Prop)(room:Int)(S:List Nd5)(L:List ByteArray)(k:Int):Prop:=(k=2∧Q)∨(k=2∧∃ G,G.map kvI=readG L∧∃ x r,r∈jb4 G x∧¬ has2 S G r)∨(k=3∧∃ top G M,L[0]?=some top∧G.map kvI=readG L∧jft S G (shaB top) M (frK S M).length∧room - S.length < (frK S M).length)
def joD(Q:Prop)(w:World)(s bm:Nat)(room:Int)(S:List Nd5)(L:List ByteArray)(e:Ending)(w':World):Prop:=(∃ k:Int,jtq Q room S L k∧k≠0∧e=.returned (.tuple #[.string ⟨#[]⟩,.int .i64 k])∧Ext w w')∨∃ top G M,L[0]?=some top∧AddY w s bm room S L top G M e w'
theorem joP(w:World)(hc:jch w)(hGE:ErrT w)(s bm:Nat)(room:Int)(S:List Nd5)(h:jas w s bm room S)(v:Value)(L:List ByteArray)(hv:RdS w v L)(Q:Prop)(hL:AnyQ Q L)(hll:L.length≤1000)(top:ByteArray)(htop:L[0]?=some top)(hr0:0≤room)(hr1:room≤9223372036854775807)(hS:S.length≤100000)(hSu:∀ x∈S,0≤x.2.2.used∧x.2.2.used≤1000000000)(hSh:∀ x∈S,0≤x.2.2.held∧x.2.2.held≤1000000000) :
  Calls Tryz.prog 27 #[.pointer (some ⟨s,0,none⟩),v] w (joD Q w s bm room S L):=by
 have h0:L≠[]:=fun e=>by subst e;cases htop
 have hpos:0 < L.length:=List.length_pos_iff.2 h0
 obtain⟨a,c,rfl,_⟩:=hv.slice
 have HR:=Hd (jrh w hc hGE _ L hv hll h0 Q hL);have HC:=Hd hc;have HV:=Hd hv;have HL:=Hd hL;have HS:=Hd h;have HTOP:=Hd htop;have HSU:=Hd hSu;have HSHD:=Hd hSh;clear hc h hv hL htop h0 hSu hSh;go_enter Tryz.func27,Tryz.ntmps27;go_wp2_with fail
 refine HR.o.mono ?_;rintro e w1 (⟨rfl,hE,hq⟩ |⟨hnode,bg,G,rfl,hG,hrn⟩)
 ·have HE:=Hd hE
  have HQ:=Hd hq;clear hE HR hq;go_wp2_with fail
  go_ret2;exact .inl ⟨2,.inl ⟨rfl,HQ.o⟩,by decide,rfl,HE.o⟩
 have HND0:=Hd hnode;have HRN:=Hd hrn;have HGI:=Hd (show ∀ x∈G,x.2.1 < w1.heap.size from fun x hx=>(hG.at'.items x hx).lt);have HG1:=Hd hG.ext;clear hnode hrn
 obtain⟨ax,cx,hh,hcell⟩:=HV.o.slice
 obtain⟨ba,oa,hao,hqa⟩:=hcell 0 top HTOP.o
 subst hao;cases hh;have q1:=jaa hqa hG.ext;have HG:=Hd hG;rw[Nat.add_zero]at q1;clear hcell hqa hG HR;go_wp2_with fail
 refine (of_t _ _ [top] (by simp) (je0 w1 [top] 9) (HC.o.ext (HG.o.ext.alloc _))).mono ?_;rintro e w2 ⟨rfl,hE⟩;rw[jer];have hx2:=((ExtR w1).alloc (.cells #[.string top] 9)).trans hE;have HG2:=Hd (HG.o.keeps hx2);have HX2:=Hd hx2
 obtain⟨rt,hrt⟩:∃ rt,rt=shaB top:=⟨_,rfl⟩
 have HRT:=Hd hrt;have HTG:=Hd (show (atL G rt.data.toList).isSome=true by rw[hrt];exact jkr HG.o.is (List.mem_of_getElem? HTOP.o));rw[←hrt];clear hE hx2 hrt q1;go_wp2_with fail
 have HSH:=Hd (jgF HG2.o.is HND0.o hll);have HS2:=Hd (HS.o.ext HG2.o.ext);refine (jlZ w2 s bm room S G bg HS2.o HG2.o.at' HSH.o rt HTG.o).mono ?_;rintro e w3 (⟨rfl,hE,hno⟩ |⟨v3,n,M,rfl,hP,hF⟩)
 ·have HE:=Hd (HG2.o.ext.trans hE)
  have HNO:=Hd hno;clear hE hno;go_wp2_with fail
  go_ret2;exact .inl ⟨2,.inr (.inl ⟨rfl,G,HG2.o.is,HNO.o⟩),by decide,rfl,HE.o⟩
 have hlen:=jf6 (S:=S) (M:=M) (fun x hx=>hP.at' hx);have hfew:=HSH.o.few;have hn:(frK S M).length=n:=by have:=hF.len;simpa using this
 obtain⟨ad,cp,rfl⟩:=hF.sl
 have HP:=Hd hP;have HF:=Hd hF
 obtain⟨F,hFe⟩:∃ F,F=frK S M:=⟨_,rfl⟩
 rw[←hFe]at HF hn hlen;have HFE:=Hd hFe;have HGX:=Hd (HG2.o.keeps hF.ext);have HSX:=Hd (HS2.o.ext hF.ext);clear hP hF hFe;go_wp2_with fail
 refine (jvp w3 s bm room S HSX.o hr0 hr1 (by omega)).mono ?_;rintro e w4 ⟨rfl,hE⟩
 obtain⟨m,hm⟩:∃ m,m=room - (S.length:Int):=⟨_,rfl⟩
 rw[←hm];have HM:=Hd hm;have HE4:=Hd hE;clear hE hm
 by_cases hfull:m < (n:Int)
 ·go_wp2_with fail
  go_ret2;exact .inl ⟨3,.inr (.inr ⟨rfl,top,G,M,HTOP.o,HG2.o.is,by rw[←HRT.o];exact HP.o,by rw[←HFE.o,hn, ←HM.o];exact hfull⟩),by decide,rfl,(HG2.o.ext.trans HF.o.ext).trans HE4.o⟩
 ·have HRK4:=Hd (show RK w1 w4 from(((RK.refl w1).ext HX2.o).ext HF.o.ext).ext HE4.o)
  have hA0:Ad1 w4 s bm bg room S G F (.slice ad n cp) 0 w4:=⟨jac.refl _ _,by rw[List.take_zero];show jas w4 s bm room (S++[]);rw[List.append_nil];exact HSX.o.ext HE4.o,HGX.o.at'.ext HE4.o,by rw[hn];exact jbd HF.o.own HE4.o⟩;have HA0:=Hd hA0;have hbm:=HS.o.mp.mp
  obtain⟨_,_,hbm,_⟩:=hbm
  have hbmlt:=hbm.lt;have HNE:=Hd (show ∀ z,(Value.slice ad n cp).ownBlock=some z→z≠bm from fun z hz e=>by have:=HF.o.new z hz;have:=HG2.o.ext.size;omega);have HBG:=Hd (show bg≠bm from fun e=>by have:=HG2.o.new;omega);have HSG:=Hd (show ∀ x∈S,∀ y∈G,x.2.1≠y.2.1 from fun x hx y hy e=>by have:=(HS.o.mp.items x hx).lt;have:=HG2.o.news y hy;omega);have HND:=Hd (show F.Nodup by rw[HFE.o];exact jkn S M);have HFS:=Hd (show ∀ x∈F,atL S x.data.toList=none from fun x hx=>by rw[HFE.o]at hx;exact (jfM.1 hx).2);have HFG:=Hd (show ∀ x∈F,(atL G x.data.toList).isSome=true from fun x hx=>by rw[HFE.o]at hx;exact HP.o.at' hx);have HST:=Hd (HS.o.st);subst hn;clear hA0 hbm;go_wp2_with fail
  rw[show decide (m < (F.length:Int))=false from decide_eq_false (Int.not_lt.2 hfull)];go_loopw [46] (fun iv wr=>AdR1 w4 s bm bg room S G F (.slice ad F.length cp) iv wr∧RK w1 wr) (fun iv _=>F.length - (intOf iv).toNat)
  case atStart=>exact⟨⟨0,Nat.zero_le _,rfl,HA0.o⟩,HRK4.o⟩
  case round =>
   obtain⟨⟨i,hi,rfl,hA⟩,hrk⟩:=hrel
   have HRK:=Hd hrk;clear hrk;have HA:=Hd hA
   by_cases hlt:i < F.length
   ·have b1:(i:Int) < (F.length:Int):=by omega
    obtain⟨x,hx⟩:∃ x,F[i]?=some x:=⟨_,List.getElem?_eq_getElem hlt⟩
    obtain⟨ax,cx,hh,hcell⟩:=(jhP hA.row).slice
    obtain⟨ba2,oa2,hao,hqa⟩:=hcell i x hx
    subst hao;cases hh
    obtain⟨y,hy⟩:=Option.isSome_iff_exists.1 (HFG.o x (List.mem_of_getElem? hx))
    have Q1:=Hd (hA.st.st.cell (i:=1) (v:=.map (some bm)) (by rfl));have HGV:=Hd hA.gv;have HX:=Hd hx;have HY:=Hd hy
    obtain⟨yb,hyb⟩:∃ yb,yb=y.2.1:=⟨_,rfl⟩
    have HYB:=Hd hyb;clear hcell hx hy hA hyb;go_wp2_with fail
    refine jar [0,1,2,3,4,5,6,7,8] [8] Ext ExtR ExtT (by kernel_rfl) (by kernel_rfl) (by kernel_rfl) ?_
    (refine jah _ rfl (by kernel_rfl) rfl rfl (fun K hK=>?_);go_big_quiet_op;refine hK _ ?_;clear hK K)
    refine jbw _ (.pointer (some ⟨s,0,none⟩)) rfl (by kernel_rfl) rfl (fun w1=>by kernel_rfl) ?_;simp only[Act.put,sA,sB,sC]
    (refine jah _ rfl (by kernel_rfl) rfl rfl (fun K hK=>?_);go_big_quiet_op;refine hK _ ?_;clear hK K)
    refine jaB ⟨s,1,none⟩ _ rfl (by kernel_rfl) rfl rfl (fun w1 h1=>jab Tryz.underlying109 rfl (jaa Q1.o ((jak _).trans h1))) ?_;simp only[Act.put,sA,sB,sC];iterate 3 (refine jah _ rfl (by kernel_rfl) rfl rfl (fun K hK=>?_);go_big_quiet_op;refine hK _ ?_;clear hK K)
    refine jqt _ (.pointer (some ⟨yb,0,none⟩)) rfl (by kernel_rfl) rfl (fun w1 h1=>by
     have hx:=(HGV.o.ext ((jak _).trans h1)).look x false;rw[HY.o]at hx;unfold ptrO at hx;simp only[Bool.false_eq_true,if_false]at hx;rw[←HYB.o]at hx;simp[execOp,Act.eval,hx,Sem.run_bind,Result.andThen,Sem.run_pure]) ?_
    simp only[Act.put,sA,sB,sC];refine jba _ rfl (by kernel_rfl) rfl (fun w5 he K hK=>?_);have hA5:=HA.o.ext ((jak _).trans he)
    obtain⟨ob,hmu,hA6⟩:=hA5.put HSG.o HBG.o HNE.o HND.o HFS.o HX.o HY.o
    rw[←HYB.o]at hmu;have HA6:=Hd hA6
    obtain⟨oes,ock,hobm,_⟩:=hA6.st.mp.mp
    have HRK6:=Hd ((HRK.o.ext ((jak _).trans he)).put (jac.onePut _ bm ob) hobm);clear hobm;clear hA5 hA6 he HA Q1 HGV hqa;go_simp;refine hK _ _ ?_;clear hK K;refine jbh (by kernel_rfl) (fun w7 he=>?_);have HA7:=Hd (HA6.o.ext he);have HRK7:=Hd (HRK6.o.ext he);clear he HA6 hmu;go_wp2_with fail
    go_roundw
    case rel=>exact⟨⟨i+1,by omega,by go_num,HA7.o⟩,HRK7.o⟩
    case measure=>simp[intOf];omega
   ·have hie:i=F.length:=by omega
    subst hie
    obtain⟨S1,hS1⟩:∃ S1,S1=S++jc2 G F:=⟨_,rfl⟩
    have HS1:=Hd hS1;have HB0:=Hd (show Ad2 wr s bm bg room S1 G F (.slice ad F.length cp) [] wr from⟨jac.refl _ _,by have:=hA.st;rw[List.take_length]at this;rw[hS1];exact this,⟨G,hA.gv,fun k=>rfl⟩,hA.row⟩);have HU:=Hd (show ∀ x∈S1,0≤x.2.2.used∧x.2.2.used≤1000000000 from fun x hx=>by
     rw[hS1]at hx;rcases List.mem_append.1 hx with hx | hx
     ·exact HSU.o x hx
     ·obtain⟨t,ht,_,e⟩:=jdd HG2.o.is (jb1 hx).1
      rw[e];exact⟨Int.le_refl _,by show (0:Int)≤1000000000;decide⟩)
    have HR1:=Hd (show ∀ r∈F.flatMap (jb4 G),(atL S1 r.data.toList).isSome=true from fun r hr=>by
     rw[hS1,HFE.o];refine jh0 HP.o ?_
     have:=HP.o.is
     rw[List.take_length, ←HFE.o]at this;rw[this];exact List.mem_cons_of_mem _ hr)
    obtain⟨w5,hw5⟩:∃ w5,w5=wr:=⟨_,rfl⟩
    have HW5:=Hd hw5;have HRK5:=Hd (show RK w1 w5 by rw[hw5];exact HRK.o);rw[←hw5]at HB0;have HB0:=Hd (show Ad2 w5 s bm bg room S1 G F (.slice ad F.length cp) [] wr by rw[←hw5];exact HB0.o);have HA1:=Hd (show jac (fun z=>z=bm) w4 w5 by rw[hw5];exact hA.kp);clear HA0 hA HA hS1 hw5;go_wp2_with fail
    go_loopw [61] (fun iv wr=>AdR2 w5 s bm bg room S1 G F (.slice ad F.length cp) iv wr∧RK w1 wr) (fun iv _=>F.length - (intOf iv).toNat)
    case atStart=>exact⟨⟨0,Nat.zero_le _,rfl,HB0.o⟩,by rw[←HW5.o];exact HRK5.o⟩
    case round =>
     obtain⟨⟨i,hi2,rfl,hA⟩,hrk2⟩:=hrel
     have HRKB:=Hd hrk2;clear hrk2
     by_cases hlt2:i < F.length
     ·have b1:(i:Int) < (F.length:Int):=by omega
      obtain⟨x,hx⟩:∃ x,F[i]?=some x:=⟨_,List.getElem?_eq_getElem hlt2⟩
      obtain⟨ax,cx,hh,hcell⟩:=(jhP hA.row).slice
      obtain⟨ba2,oa2,hao,hqa⟩:=hcell i x hx
      subst hao;cases hh
      obtain⟨y,hy⟩:=Option.isSome_iff_exists.1 (HFG.o x (List.mem_of_getElem? hx))
      obtain⟨G',hG1,hG2⟩:=hA.gv
      have hk:=hG2 x.data.toList;rw[hy]at hk
      obtain⟨y',hy',hk⟩:=Option.map_eq_some_iff.1 hk
      have hlk:=hG1.look x false;rw[hy']at hlk;unfold ptrO at hlk;simp only[Bool.false_eq_true,if_false]at hlk
      obtain⟨rv,hIb,hIr⟩:=(hG1.items y' (jaD hy').1).cells
      have hyr:y'.2.2.refs=jb4 G x:=by rw[jfp hy];exact congrArg (fun z=>z.2.2) hk
      obtain⟨R,hR⟩:∃ R,R=jb4 G x:=⟨_,rfl⟩
      rw[hyr, ←hR]at hIr
      obtain⟨ar,cr,rfl⟩:=jay hIr
      have qr:=hIb.cell (i:=1) (v:=.slice ar R.length cr) (by rfl)
      obtain⟨T,hT⟩:∃ T,T=(F.take i).flatMap (jb4 G):=⟨_,rfl⟩
      have HT1:=Hd (show (F.take (i+1)).flatMap (jb4 G)=T++R by rw[List.take_add_one,hx,List.flatMap_append,hT,hR];simp);have HTL:=Hd (show T.length≤16000 by
       have:=jgC HSH.o (F.take i)
       rw[hT];rw[List.length_take]at this;omega)
      have HRL:=Hd (show R.length≤16 by rw[hR,jfp hy];exact HSH.o.refs y (jaD hy).1);have HRR:=Hd (show ∀ r∈R,(atL S1 r.data.toList).isSome=true from fun r hr=>HR1.o r (List.mem_flatMap.2 ⟨x,List.mem_of_getElem? hx,by rw[←hR];exact hr⟩));rw[←hT]at hA;have HA3:=Hd (show AdR3 w5 s bm bg room S1 G F (.slice (some ⟨ba2,oa2,none⟩) F.length cp) T R (.slice ar R.length cr) (.int .i64 0) wr from⟨0,Nat.zero_le _,rfl,by rw[List.take_zero,List.append_nil];exact hA,hIr⟩)
      obtain⟨yb,hyb⟩:∃ yb,yb=y'.2.1:=⟨_,rfl⟩
      rw[←hyb]at hlk qr;clear hcell hx hy hG1 hG2 hk hy' hIb hIr hyr hR hT hA hyb;go_wp2_with fail
      go_loopw [72] (fun jv wr2=>AdR3 w5 s bm bg room S1 G F (.slice (some ⟨ba2,oa2,none⟩) F.length cp) T R (.slice ar R.length cr) jv wr2∧RK w1 wr2) (fun jv _=>R.length - (intOf jv).toNat)
      case atStart=>exact⟨HA3.o,HRKB.o⟩
      case round =>
       obtain⟨⟨j,hj,rfl,hB,hrw⟩,hrk3⟩:=hrel
       have HRKC:=Hd hrk3;clear hrk3
       by_cases hlt3:j < R.length
       ·have b2:(j:Int) < (R.length:Int):=by omega
        obtain⟨z,hz⟩:∃ z,R[j]?=some z:=⟨_,List.getElem?_eq_getElem hlt3⟩
        obtain⟨ax3,cx3,hh3,hcell3⟩:=(jhP hrw).slice
        obtain⟨ba3,oa3,hao3,hqa3⟩:=hcell3 j z hz
        subst hao3;cases hh3;have qs:=hB.st.st.cell (i:=1) (v:=.map (some bm)) (by rfl)
        obtain⟨zb,u,hlk3,qu,fu,hu0,hu1,hB2,hrow2⟩:=hB.bump HU.o (by have:=HTL.o;have:=HRL.o;rw[List.length_append,List.length_take];omega) z (HRR.o z (List.mem_of_getElem? hz))
        have hrl:=HRL.o;have hw1 : -9223372036854775808≤u+1:=by omega
        have hw2:u+1≤9223372036854775807:=by omega
        have HB2:=Hd (And.intro (show Ad2 w5 s bm bg room S1 G F (.slice (some ⟨ba2,oa2,none⟩) F.length cp) (T++R.take (j+1)) _ by rw[List.take_add_one,hz, ←List.append_assoc];exact hB2) (hrow2 _ _ _ hrw));clear hcell3 hz hB hrw hB2 hrow2 hlk qr;go_wp2_with fail
        go_roundw
        case rel=>exact⟨⟨j+1,by omega,by go_num,HB2.o.1,HB2.o.2⟩,HRKC.o.set zb (.inl rfl) _⟩
        case measure=>simp[intOf];omega
       ·have hje:j=R.length:=by omega
        subst hje;rw[List.take_length, ←HT1.o]at hB;have HB4:=Hd hB;clear hB hrw HA3 hlk qr;go_wp2_with fail
        go_roundw
        case rel=>exact⟨⟨i+1,by omega,by go_num,HB4.o⟩,HRKC.o⟩
        case measure=>simp[intOf];omega
     ·have hie2:i=F.length:=by omega
      subst hie2;rw[List.take_length]at hA;have HB5:=Hd hA;have hroot:(atL S1 rt.data.toList).isSome=true:=by
       rw[HS1.o,HFE.o];exact jh0 HP.o (by rw[HP.o.is];exact List.mem_cons_self)
      have HHD:=Hd (show ∀ x∈S1,0≤x.2.2.held∧x.2.2.held≤1000000000 from fun x hx=>by
       rw[HS1.o]at hx;rcases List.mem_append.1 hx with hx | hx
       ·exact HSHD.o x hx
       ·obtain⟨t,ht,_,e⟩:=jdd HG2.o.is (jb1 hx).1
        rw[e];exact⟨Int.le_refl _,by show (0:Int)≤1000000000;decide⟩)
      have qs:=hA.st.st.cell (i:=1) (v:=.map (some bm)) (by rfl)
      obtain⟨zb,u,hlk3,qu,fu,hu0,hu1,hSE,hKE⟩:=hA.hold HHD.o rt hroot
      have hw1 : -9223372036854775808≤u+1:=by omega
      have hw2:u+1≤9223372036854775807:=by omega
      have HSE:=Hd hSE;have HKE:=Hd (((HG2.o.ext.trans HF.o.ext).trans HE4.o).mono (G:=fun z=>z=bm∨z∈S.map (·.2.1)) (fun _ _ g=>g.elim));have HK5:=Hd hKE;have HKA:=Hd HA1.o;clear hA HB0 HA1 hSE hKE hroot;go_wp2_with fail
      go_ret2;refine .inr ⟨top,G,M,HTOP.o,HG2.o.is,HND0.o,HG2.o.news,by rw[←HRT.o];exact HP.o,by rw[←HFE.o, ←HM.o];exact Int.not_lt.2 hfull,by rw[HRT.o];rfl,?_,?_,((RK.refl w).ext HG1.o).trans (HRKB.o.set zb (.inr rfl) _),HRN.o.rk (HRKB.o.set zb (.inr rfl) _) HGI.o⟩
      ·rw[←HFE.o, ←HS1.o, ←HRT.o];exact HSE.o
      ·refine (jac.trans' (F:=fun z=>z=bm∨z∈S.map (·.2.1)) HKE.o HKA.o (fun z hz e=>.inl e)).trans' HK5.o (fun z hz e=>?_)
       rw[HS1.o,List.map_append]at e;rcases List.mem_append.1 e with e | e
       ·exact .inr e
       ·obtain⟨y,hy,rfl⟩:=List.mem_map.1 e
        have:=HG2.o.news y (jb1 hy).1
        omega
end
section
open Go Go.RowKit
theorem jre(w:World)(s bm:Nat)(room:Int)(L:List Nd5)(k:ByteArray)(h:jas w s bm room L):Calls Tryz.prog 42 #[.pointer (some ⟨s,0,none⟩),.string k] w fun e w'=>e=.returned (.int .i64 (jku (atL L k.data.toList)))∧Ext w w':=by
 have q1:=h.st.cell (i:=1) (v:=.map (some bm)) (by rfl);have hlk:=h.mp.look k true;have HI:=Hd h.mp.items;simp only[if_true]at hlk;clear h;cases ha:atL L k.data.toList with
 | none =>
  rw[ha]at hlk;unfold ptrO at hlk;simp only[Option.isSome]at hlk;clear ha;go_enter Tryz.func42,Tryz.ntmps42;go_wp2_with fail
  go_ret
  exact⟨rfl,ExtR w⟩
 | some x =>
  rw[ha]at hlk
  obtain⟨rv,hB,_⟩:=(HI.o x (jaD ha).1).cells
  have q2:=hB.cell (i:=3) (v:=.int .i64 x.2.2.held) (by rfl);unfold ptrO at hlk;simp only[Option.isSome]at hlk;clear ha hB;go_enter Tryz.func42,Tryz.ntmps42;go_wp2_with fail
  go_ret
  exact⟨rfl,ExtR w⟩
theorem js9(w:World)(s bm:Nat)(room:Int)(L:List Nd5)(k:ByteArray)(h:jas w s bm room L)(hb:∀ x∈L, -1000000000≤x.2.2.used∧x.2.2.used≤1000000000 ∧ -1000000000≤x.2.2.held∧x.2.2.held≤1000000000):Calls Tryz.prog 88 #[.pointer (some ⟨s,0,none⟩),.string k] w fun e w'=>e=.returned (.int .i64 (jmp (atL L k.data.toList)))∧Ext w w':=by
 have q1:=h.st.cell (i:=1) (v:=.map (some bm)) (by rfl);have hlk:=h.mp.look k true;have HI:=Hd h.mp.items;simp only[if_true]at hlk;clear h;cases ha:atL L k.data.toList with
 | none =>
  rw[ha]at hlk;unfold ptrO at hlk;simp only[Option.isSome]at hlk;clear ha hb;go_enter Tryz.func88,Tryz.ntmps88;go_wp2_with fail
  go_ret
  exact⟨rfl,ExtR w⟩
 | some x =>
  rw[ha]at hlk;have hbx:=hb x (jaD ha).1
  obtain⟨rv,hB,_⟩:=(HI.o x (jaD ha).1).cells
  have Q2:=Hd (hB.cell (i:=2) (v:=.int .i64 x.2.2.used) (by rfl));have Q3:=Hd (hB.cell (i:=3) (v:=.int .i64 x.2.2.held) (by rfl));unfold ptrO at hlk;simp only[Option.isSome]at hlk
  obtain⟨ky,b,⟨tx,rf,us,hd⟩⟩:=x
  simp only at hlk Q2 Q3 hbx;have hs1 : -9223372036854775808≤us+hd:=by omega
  have hs2:us+hd≤9223372036854775807:=by omega
  clear ha hB hb;go_enter Tryz.func88,Tryz.ntmps88;go_wp2_with fail
  refine jan [0,1,2,3,4,5,6,7,8,9] Ext ExtR ExtT (by kernel_rfl) (by kernel_rfl) (by kernel_rfl) ?_
  (refine jag _ rfl (by kernel_rfl) rfl rfl (fun K hK=>?_);go_big_quiet_op;refine hK _ ?_;clear hK K)
  refine jce _ (.pointer (some ⟨b,0,none⟩)) rfl (by kernel_rfl) rfl (fun w1 _=>by kernel_rfl) ?_;simp only[Act.put,sA,sB,sC]
  (refine jag _ rfl (by kernel_rfl) rfl rfl (fun K hK=>?_);go_big_quiet_op;refine hK _ ?_;clear hK K)
  refine jal ⟨b,2,none⟩ _ rfl (by kernel_rfl) rfl rfl (fun w1 h1=>jab Tryz.underlying3 rfl (jaa Q2.o ((jak _).trans h1))) ?_;simp only[Act.put,sA,sB,sC]
  (refine jag _ rfl (by kernel_rfl) rfl rfl (fun K hK=>?_);go_big_quiet_op;refine hK _ ?_;clear hK K)
  refine jce _ (.pointer (some ⟨b,0,none⟩)) rfl (by kernel_rfl) rfl (fun w1 _=>by kernel_rfl) ?_;simp only[Act.put,sA,sB,sC]
  (refine jag _ rfl (by kernel_rfl) rfl rfl (fun K hK=>?_);go_big_quiet_op;refine hK _ ?_;clear hK K)
  refine jal ⟨b,3,none⟩ _ rfl (by kernel_rfl) rfl rfl (fun w1 h1=>jab Tryz.underlying3 rfl (jaa Q3.o ((jak _).trans h1))) ?_;simp only[Act.put,sA,sB,sC];iterate 2 (refine jag _ rfl (by kernel_rfl) rfl rfl (fun K hK=>?_);go_big_quiet_op;refine hK _ ?_;clear hK K)
  refine jaW (by kernel_rfl) (fun w3 he=>?_);have HE:=Hd ((jak _).trans he);clear he;go_wp2_with fail
  go_ret
  exact⟨rfl,HE.o⟩
end
section
open Go Go.RowKit
attribute [local go_sem] Oper.semAt_some
def delL(L:List Nd5)(k:Key):List Nd5:=L.filter fun x => !decide (k=x.1)
theorem jpC(k:Key):∀ L:List Nd5,(L.map (·.1)).Nodup→delV (L.map kvN) k=(delL L k).map kvN
 | [],_=>rfl
 | x :: r,h=>by
  rw[List.map_cons,List.nodup_cons]at h;rw[List.map_cons,delV];unfold delL
  by_cases e:k=x.1
  ·rw[if_pos (show k=(kvN x).1 from e),List.filter_cons_of_neg (by simp[e])]
   congr 1
   symm;rw[List.filter_eq_self];intro y hy
   have:k≠y.1:=fun e2=>h.1 (List.mem_map.2 ⟨y,hy,by rw[←e2,e]⟩)
   simpa using this
  ·rw[if_neg (show ¬ k=(kvN x).1 from e),List.filter_cons_of_pos (by simp[e]),List.map_cons,jpC k r h.2];rfl
theorem jcQ.del{W:World}{bm:Nat}{L:List Nd5}(h:jcQ W bm L)(k:ByteArray) :
  ∃ o,(∀ kt r,(Builtin.delete_ #[109,kt] r #[.map (some bm),.string k]).run Tryz.prog W=.ok (.tuple #[]) (W.putObj bm o))∧jcQ (W.putObj bm o) bm (delL L k.data.toList):=by
 obtain⟨es,ck,h1,h2⟩:=h.mp
 have hk:=h2.keys;rw[List.map_map]at hk;have hk:(L.map (·.1)).Nodup:=hk;have hd:=h2.del k.data.toList;rw[jpC _ L hk]at hd;have hK:jac (fun z=>z=bm) W (W.putObj bm (.map (Tryz.ES.arr (jcM es k.data.toList)) ck)):=jac.onePut W bm _;have hs:(delL L k.data.toList).Sublist L:=List.filter_sublist
 refine⟨_,fun kt r=>jiK Tryz.ES Tryz.uMapIt h1 k.data.toList kt r,⟨_,_,h1.put_same _,hd⟩,h.blks.sublist (hs.map _),fun x hx=>?_⟩
 have hi:=h.items x (hs.subset hx);refine hi.keeps hK (fun e=>?_) h.notRow
 obtain⟨_,hc,_⟩:=hi.cells
 have e:x.2.1=bm:=e;rw[e]at hc
 have:=h1.uniq hc;cases this
def InjL(l:List ByteArray):Prop:=∀ x∈l,∀ y∈l,shaB x=shaB y→x=y
theorem InjL.step{L:List ByteArray}{i:Nat}{t:ByteArray}(h:InjL (L.take i))(ht:L[i]?=some t)(hs:∀ x∈L.take i,shaB x=shaB t→x=t):InjL (L.take (i+1)):=by
 intro x hx y hy e;rw[List.take_add_one,ht]at hx hy;rcases List.mem_append.1 hx with h1 | h1 <;> rcases List.mem_append.1 hy with h2 | h2
 ·exact h x h1 y h2 e
 ·simp at h2;subst h2;exact hs x h1 e
 ·simp at h1;subst h1;exact (hs y h2 e.symm).symm
 ·simp at h1 h2;rw[h1,h2]
def ApR1(w:World)(L:List ByteArray)(hv iv:Value)(W:World):Prop:=∃ i:Nat,i≤L.length∧iv=.int .i64 i∧SRow w W hv i ((L.take i).map shaB)∧InjL (L.take i)
def ApR2(w4:World)(L:List ByteArray)(t:ByteArray)(i:Nat)(kv:Value)(W:World):Prop:=∃ k:Nat,k≤i∧kv=.int .i64 k∧Ext w4 W∧∀ x∈L.take k,shaB x=shaB t→x=t
def ApP(L:List ByteArray)(w:World)(e:Ending)(w':World):Prop:=∃ b,e=.returned (.bool b)∧(b=true↔InjL L)∧Ext w w'
theorem jo4(w:World)(hc:jch w)(v:Value)(L:List ByteArray)(hv:RdS w v L)(hl:L.length≤1000000):Calls Tryz.prog 31 #[v] w (ApP L w):=by
 obtain⟨a,c,rfl,_⟩:=hv.slice
 have HV:=Hd hv;have HC:=Hd hc;clear hv hc;go_enter Tryz.func31,Tryz.ntmps31;go_wp2_with fail
 go_loopw [3,4] (fun hv iv wr=>ApR1 w L hv iv wr) (fun _ iv _=>L.length - (intOf iv).toNat)
 case atStart=>exact⟨0,Nat.zero_le _,rfl,ORow.nil _ _ (ExtR w),fun x hx=>by cases hx⟩
 case round =>
  obtain⟨i,hi,rfl,hR,hI⟩:=hrel
  obtain⟨ah,ch,rfl⟩:=hR.sl
  have HR:=Hd hR;have HI:=Hd hI;clear hR hI
  by_cases hlt:i < L.length
  ·have b1:(i:Int) < (L.length:Int):=by omega
   obtain⟨t,ht⟩:∃ t,L[i]?=some t:=⟨_,List.getElem?_eq_getElem hlt⟩
   obtain⟨ax,cx,hh,hcell⟩:=HV.o.slice
   obtain⟨ba,oa,hao,hqa⟩:=hcell i t ht
   subst hao;cases hh;have q1:=jaa hqa HR.o.ext;have HT:=Hd ht;have HQT:=Hd hqa;have HCL:=Hd (show ∀ (j:Nat) x,L[j]?=some x→w.cell? ⟨ba,oa+j,none⟩=some (.string x)from fun j x hx=>by
    obtain⟨b',o',e,h⟩:=hcell j x hx
    cases e;exact h)
   clear hcell hqa ht;go_wp2_with fail
   refine (of_t _ _ [t] (by simp) (je0 wr [t] 9) (HC.o.ext (HR.o.ext.alloc _))).mono ?_;rintro e w4 ⟨rfl,hE⟩;rw[jer];have hx4:=((ExtR wr).alloc (.cells #[.string t] 9)).trans hE;have HR4:=Hd (HR.o.mono hx4);have HX4:=Hd (HR.o.ext.trans hx4)
   obtain⟨sh,hsh⟩:∃ sh,sh=shaB t:=⟨_,rfl⟩
   have HSH:=Hd hsh;rw[←hsh];clear hE hx4 hsh q1 HR;go_wp2_with fail
   go_loopw [6] (fun kv wr2=>ApR2 w4 L t i kv wr2) (fun kv _=>i - (intOf kv).toNat)
   case atStart=>exact⟨0,Nat.zero_le _,rfl,ExtR w4,fun x hx=>by cases hx⟩
   case round =>
    obtain⟨k,hk,rfl,hE,hs⟩:=hrel
    have HE:=Hd hE;have HS:=Hd hs;clear hE hs
    by_cases hlt2:k < i
    ·have b2:(k:Int) < (i:Int):=by omega
     have b3:(k:Int) < (L.length:Int):=by omega
     obtain⟨x,hx⟩:∃ x,L[k]?=some x:=⟨_,List.getElem?_eq_getElem (by omega)⟩
     have hxm:((L.take i).map shaB)[k]?=some (shaB x):=by rw[List.getElem?_map,List.getElem?_take,if_pos hlt2,hx];rfl
     have hrd:=jhP HR4.o.own;have hq2:∃ bh oh,ah=some ⟨bh,oh,none⟩∧w4.cell? ⟨bh,oh+k,none⟩=some (.string (shaB x)):=by
      rcases hrd with⟨_,_,_,h0⟩ |⟨bq,oq,cq,hh,_,_,hcell⟩
      ·rw[h0]at hxm;cases hxm
      ·exact⟨bq,oq,(Value.slice.inj hh).1,hcell k _ hxm⟩
     obtain⟨bh,oh,rfl,hq2⟩:=hq2
     obtain⟨sx,hsx⟩:∃ sx,sx=shaB x:=⟨_,rfl⟩
     rw[←hsx]at hq2;have HSX:=Hd hsx;have Q1:=Hd (jaa hq2 HE.o);have Q2:=Hd (jaa (HCL.o k x hx) (HX4.o.trans HE.o));have Q3:=Hd (jaa HQT.o (HX4.o.trans HE.o));have HX:=Hd hx;clear hx hxm hrd hq2 hsx;go_wp2_with fail
     refine jan [0,1,2,3,4,5,6,7,8,9,10,11,12,13,14,15,16] Ext ExtR ExtT (by kernel_rfl) (by kernel_rfl) (by kernel_rfl) ?_;iterate 3 (refine jag _ rfl (by kernel_rfl) rfl rfl (fun K hK=>?_);go_big_quiet_op;refine hK _ ?_;clear hK K)
     refine jal ⟨bh,oh+k,none⟩ _ rfl (by kernel_rfl) rfl rfl (fun w1 h1=>jab Tryz.underlying9 rfl (jaa Q1.o ((jak _).trans h1))) ?_;simp only[Act.put,sA,sB,sC];iterate 3 (refine jag _ rfl (by kernel_rfl) rfl rfl (fun K hK=>?_);go_big_quiet_op;refine hK _ ?_;clear hK K)
     cases hq:(sx.toList == sh.toList)with
     | false =>
      have HN:=Hd (show shaB x=shaB t→x=t from fun e=>by
       rw[←HSX.o, ←HSH.o]at e;rw[e]at hq;simp at hq)
      clear hq;iterate 9 (refine jb0 _ rfl (by kernel_rfl) rfl ?_;simp only[Act.put,sA,sB,sC])
      (refine jag _ rfl (by kernel_rfl) rfl rfl (fun K hK=>?_);go_big_quiet_op;refine hK _ ?_;clear hK K)
      refine jaW (by kernel_rfl) (fun w5 he=>?_);have HE5:=Hd (HE.o.trans ((jak _).trans he));have HS5:=Hd (show ∀ z∈L.take (k+1),shaB z=shaB t→z=t from fun z hz e=>by
       rw[List.take_add_one,HX.o]at hz;rcases List.mem_append.1 hz with h1 | h1
       ·exact HS.o z h1 e
       ·simp at h1;subst h1;exact HN.o e)
      clear he Q1 Q2 Q3 HE HS;go_wp2_with fail
      go_roundw
      case rel=>exact⟨k+1,by omega,by go_num,HE5.o,HS5.o⟩
      case measure=>simp[intOf];omega
     | true =>
      have HSQ:=Hd (show shaB x=shaB t by rw[←HSX.o, ←HSH.o];exact jgP (by simpa using hq));clear hq;iterate 3 (refine jag _ rfl (by kernel_rfl) rfl rfl (fun K hK=>?_);go_big_quiet_op;refine hK _ ?_;clear hK K)
      refine jal ⟨ba,oa+k,none⟩ _ rfl (by kernel_rfl) rfl rfl (fun w1 h1=>jab Tryz.underlying9 rfl (jaa Q2.o ((jak _).trans h1))) ?_;simp only[Act.put,sA,sB,sC];iterate 3 (refine jag _ rfl (by kernel_rfl) rfl rfl (fun K hK=>?_);go_big_quiet_op;refine hK _ ?_;clear hK K)
      refine jal ⟨ba,oa+i,none⟩ _ rfl (by kernel_rfl) rfl rfl (fun w1 h1=>jab Tryz.underlying9 rfl (jaa Q3.o ((jak _).trans h1))) ?_;simp only[Act.put,sA,sB,sC]
      (refine jag _ rfl (by kernel_rfl) rfl rfl (fun K hK=>?_);go_big_quiet_op;refine hK _ ?_;clear hK K)
      cases hq2:(x.toList == t.toList)with
      | true =>
       have HN:=Hd (show x=t from jgP (by simpa using hq2));have hb:(!true)=false:=rfl;clear hq2;rw[hb]
       (refine jag _ rfl (by kernel_rfl) rfl rfl (fun K hK=>?_);go_big_quiet_op;refine hK _ ?_;clear hK K)
       refine jaW (by kernel_rfl) (fun w5 he=>?_);have HE5:=Hd (HE.o.trans ((jak _).trans he));have HS5:=Hd (show ∀ z∈L.take (k+1),shaB z=shaB t→z=t from fun z hz e=>by
        rw[List.take_add_one,HX.o]at hz;rcases List.mem_append.1 hz with h1 | h1
        ·exact HS.o z h1 e
        ·simp at h1;subst h1;exact HN.o)
       clear he Q1 Q2 Q3 HE HS hb;go_wp2_with fail
       go_roundw
       case rel=>exact⟨k+1,by omega,by go_num,HE5.o,HS5.o⟩
       case measure=>simp[intOf];omega
      | false =>
       have hb:(!false)=true:=rfl;have HNE:=Hd (show ¬ InjL L from fun h=>by
        have:=h x (List.mem_of_getElem? HX.o) t (List.mem_of_getElem? HT.o) HSQ.o
        rw[this]at hq2;simp at hq2)
       clear hq2;rw[hb]
       (refine jag _ rfl (by kernel_rfl) rfl rfl (fun K hK=>?_);go_big_quiet_op;refine hK _ ?_;clear hK K)
       refine jaW (by kernel_rfl) (fun w5 he=>?_);have HE5:=Hd (HE.o.trans ((jak _).trans he));clear he Q1 Q2 Q3 HE HS hb;go_wp2_with fail
       go_ret
       exact⟨false,rfl,⟨fun e=>(by cases e),fun h=>absurd h HNE.o⟩,HX4.o.trans HE5.o⟩
    ·have hki:k=i:=by omega
     subst hki;have HIS:=Hd (HI.o.step HT.o HS.o);have HRR:=Hd (HR4.o.mono HE.o);have HMS:=Hd (show (L.take (k+1)).map shaB=(L.take k).map shaB++[sh] by rw[List.take_add_one,HT.o,List.map_append,HSH.o];rfl);have hm1:k+1≤maxLen:=by unfold maxLen;omega
     have hm2:(k+1) * 16≤140737488355328:=by omega
     clear HS HI HE HR4;go_wp2_with (at_builtin;refine jbv Tryz.sStrs (HRR.o.mono ((ExtR wr).alloc _)) (.tmp 41) (.tmp 43) rfl rfl rfl (ja9 (Blk.new wr _)) (news:=[.string sh]) (by intro u hu;simp at hu;rcases hu with rfl;rfl) rfl rfl hm1 hm2 ?_;intro v' w' r1 r2 r3)
     have r1':SRow w w' v' (k+1) ((L.take (k+1)).map shaB):=by unfold SRow;rw[HMS.o,List.map_append];exact r1
     obtain⟨ah',ch',rfl⟩:=r1'.sl
     have HR9:=Hd r1';clear r1 r2 r3 r1';go_wp2_with fail
     go_roundw
     case rel=>exact⟨k+1,by omega,by go_num,HR9.o,HIS.o⟩
     case measure=>simp[intOf];omega
  ·have hie:i=L.length:=by omega
   have HIL:=Hd (show InjL L by have:=HI.o;rwa [hie,List.take_length]at this);clear HI;go_wp2_with fail
   go_ret
   exact⟨true,rfl,⟨fun _=>HIL.o,fun _=>rfl⟩,HR.o.ext⟩
end
section
open Go Go.RowKit
def cK(T:List ByteArray)(k:Key):Nat:=(T.map (·.data.toList)).count k
theorem jmn(A B:List ByteArray)(k:Key):cK (A++B) k=cK A k+cK B k:=by unfold cK;rw[List.map_append,List.count_append]
theorem jhh(r:ByteArray)(B:List ByteArray)(k:Key):cK (r :: B) k=cK B k+(if k=r.data.toList then 1 else 0):=by
 unfold cK;rw[List.map_cons,List.count_cons]
 by_cases h:k=r.data.toList
 ·rw[if_pos h,h];simp
 ·rw[if_neg h,if_neg];simpa using fun e=>h e.symm
theorem juk{T:List ByteArray}{k:Key}(h:∀ r∈T,r.data.toList≠k):cK T k=0:=by
 unfold cK;rw[List.count_eq_zero];intro hm
 obtain⟨r,hr,e⟩:=List.mem_map.1 hm
 exact h r hr e
theorem jpl{T:List ByteArray}{r:ByteArray}(h:r∈T):1≤cK T r.data.toList:=by
 unfold cK;exact List.count_pos_iff.2 (List.mem_map.2 ⟨r,h,rfl⟩)
def addU(n:Nat)(x:Nd5):Nd5:=(x.1,x.2.1,⟨x.2.2.text,x.2.2.refs,x.2.2.used+n,x.2.2.held⟩)
def addH(n:Nat)(x:Nd5):Nd5:=(x.1,x.2.1,⟨x.2.2.text,x.2.2.refs,x.2.2.used,x.2.2.held+n⟩)
theorem jml:∀ (T:List ByteArray) (L:List Nd5),jeI T L=L.map fun x=>addU (cK T x.1) x
 | [],L=>by
  show L=_
  have:(fun x:Nd5=>addU (cK [] x.1) x)=id:=by
   funext x
   obtain⟨a,b,⟨t,r,u,h⟩⟩:=x
   unfold addU cK;simp
  rw[this,List.map_id]
 | r :: T,L=>by
  show jeI T (jfV r.data.toList L)=_;rw[jml T,jfV,List.map_map];refine List.map_congr_left fun x _=>?_;show addU (cK T (if x.1=r.data.toList then (x.1,x.2.1,putF 2 (x.2.2.used+1) x.2.2)else x).1) (if x.1=r.data.toList then (x.1,x.2.1,putF 2 (x.2.2.used+1) x.2.2)else x)=_;rw[jhh]
  by_cases h:x.1=r.data.toList
  ·simp only[if_pos h]
   unfold addU putF;simp only[if_true];rw[show x.2.2.used+1+((cK T x.1:Nat):Int)=x.2.2.used+((cK T x.1+1:Nat):Int) by omega]
  ·simp only[if_neg h,Nat.add_zero]
theorem jrV(r:ByteArray)(L:List Nd5):jj3 r.data.toList L=L.map fun x=>addH (cK [r] x.1) x:=by
 unfold jj3;refine List.map_congr_left fun x _=>?_;rw[jhh]
 by_cases h:x.1=r.data.toList
 ·rw[if_pos h,if_pos h];rfl
 ·rw[if_neg h,if_neg h]
  obtain⟨a,b,⟨t,r,u,h⟩⟩:=x
  unfold addH cK;simp
def jgq(T:List ByteArray)(r:ByteArray)(x:Nd5):Nd5:=addH (cK [r] x.1) (addU (cK T x.1) x)
theorem jui(T:List ByteArray)(r:ByteArray)(L:List Nd5):jj3 r.data.toList (jeI T L)=L.map (jgq T r):=by
 rw[jrV,jml,List.map_map];rfl
theorem jpc(T:List ByteArray)(r:ByteArray)(L:List Nd5):(L.map (jgq T r)).map (·.1)=L.map (·.1):=by
 rw[List.map_map];rfl
theorem jpd(T:List ByteArray)(r:ByteArray)(L:List Nd5):(L.map (jgq T r)).flatMap (fun y=>y.2.2.refs)=L.flatMap (fun y=>y.2.2.refs):=by
 rw[List.flatMap_map];rfl
theorem jiF(G:List Nd5):∀ F:List ByteArray,F.flatMap (jb4 G)=(jc2 G F).flatMap (fun y=>y.2.2.refs)
 | []=>rfl
 | x :: F=>by
  have ih:=jiF G F;unfold jc2 at *;rw[List.flatMap_cons,List.filterMap_cons];cases h:atL G x.data.toList with
  | none=>rw[ih];unfold jb4;rw[h];rfl
  | some y=>rw[ih,jfp h,List.flatMap_cons]
theorem jdM{S:List Nd5}{k:Key}:(atL S k).isSome=true↔k∈S.map (·.1):=by
 constructor
 ·intro h
  obtain⟨y,hy⟩:=Option.isSome_iff_exists.1 h
  exact List.mem_map.2 ⟨y,(jaD hy).1,(jaD hy).2⟩
 ·intro h
  obtain⟨y,hy,e⟩:=List.mem_map.1 h
  cases ha:atL S k with
  | some z=>rfl
  | none=>exact absurd e.symm (jg1.1 ha y hy)
theorem jud{S:List Nd5}(hn:(S.map (·.1)).Nodup){x y:Nd5}{k:Key}(hx:x∈S)(e:x.1=k)(hy:atL S k=some y):y=x:=by
 obtain⟨h1,h2⟩:=jaD hy
 exact ja4 hn h1 hx (h2.trans e.symm)
def jxm(L:List ByteArray)(top:ByteArray):Prop:=∀ P:ByteArray→Prop,(∀ t∈L,P (shaB t)→∀ h∈jaV (nodeOf t),P h)→P (shaB top)→∀ t∈L,P (shaB t)
theorem jwC{U:List ByteArray}(hU:InjL U){s t:ByteArray}(hs:s∈U)(ht:t∈U)(h:ky s=ky t):s=t:=hU s hs t ht (jlp h)
def addS(S G:List Nd5)(M:List ByteArray)(top:ByteArray):List Nd5:=jj3 (shaB top).data.toList (jeI ((frK S M).flatMap (jb4 G)) (S++jc2 G (frK S M)))
theorem jcI(S G:List Nd5)(M:List ByteArray)(top:ByteArray):addS S G M top=(S++jc2 G (frK S M)).map (jgq ((frK S M).flatMap (jb4 G)) (shaB top)):=jui _ _ _
theorem jxJ(w:World)(P:ByteArray→Prop):∀ (f:Nat) (l:List Pair),jaQ f l→(∀ t∈jaI (jad (f+1) l),P (shaB t)→∀ h∈jaV (nodeOf t),P h)→P (shaB (ja5 (jau (jad f) l)))→∀ t∈jaI (jad (f+1) l),P (shaB t):=by
 intro f;induction f with
 | zero =>
  intro l h _ h0 t ht;have e2:jaw (jad 0) l=[]:=by have:=jcf h;unfold jaw;rw[if_pos (by omega)]
  have eT:jaI (jad (0+1) l)=[ja5 (jau (jad 0) l)]:=by
   show jaI (.mk (ja5 (jau (jad 0) l)) (jaw (jad 0) l))=_;rw[jaI,e2];simp[jaK]
  rw[eT,List.mem_singleton]at ht;subst ht;exact h0
 | succ f ih =>
  intro l h hcl h0 t ht;have eT:jaI (jad (f+1+1) l)=ja5 (jau (jad (f+1)) l) :: jaK (jaw (jad (f+1)) l):=by
   show jaI (.mk (ja5 (jau (jad (f+1)) l)) (jaw (jad (f+1)) l))=_;rw[jaI]
  have hh:=jeT (f+1) l h;have hroot:jbW (ja5 (jau (jad (f+1)) l)) (jau (jad (f+1)) l):=⟨rfl,f+1,(good (f+1) l h).1⟩;rw[eT]at ht;rcases List.mem_cons.1 ht with rfl | ht
  ·exact h0
  obtain⟨K,hK,ht⟩:=jca.1 ht
  obtain⟨g,m,eg,e,h1,h32⟩:=jjX h hK
  obtain rfl:f=g:=by omega
  subst e;have hsub:∀ t∈jaI (jad (f+1) m),t∈jaI (jad (f+1+1) l):=fun t ht=>by
   rw[eT];exact List.mem_cons_of_mem _ (jca.2 ⟨_,hK,ht⟩)
  refine ih m h1 (fun t ht=>hcl t (hsub t ht)) ?_ t ht;refine hcl _ (by rw[eT];exact List.mem_cons_self) h0 _ ?_;rw[jd6 w (jdm hroot) hroot,hh];exact List.mem_map.2 ⟨_,hK,rfl⟩
theorem jnd(w:World){l:List Pair}(h:jaS l=0):jxm (jbf (jaI (jaT l))) (jaT l).text:=fun P h1 h2 t ht =>
 jxJ w P 12 (jaP l) (jbR (jaM h)) (fun t ht=>h1 t ((jbm _ _).2 ht)) h2 t ((jbm _ _).1 ht)
theorem jow(w:World){l:List Pair}(h:jaS l=0)(hl:(jbf (jaI (jaT l))).length≤1000):jv1 (jbf (jaI (jaT l))):=
 ⟨fun t ht=>by obtain⟨n,h1,_⟩:=(jlb h).node t ht;exact⟨n,h1⟩,
  fun t ht x hx=>by
  obtain⟨n,h1,h2⟩:=(jlb h).node t ht
  rw[jd6 w (jdm h1) h1]at hx;exact h2 x hx,hl⟩
theorem jas.nd{W:World}{s bm:Nat}{room:Int}{S:List Nd5}(h:jas W s bm room S):(S.map (·.1)).Nodup:=by
 obtain⟨es,ck,_,hv⟩:=h.mp.mp
 have:=hv.keys
 rw[List.map_map]at this;exact this
end
section
open Go Go.RowKit
attribute [local go_sem] Oper.semAt_some
def jcD(S:List Nd5):List ByteArray:=S.flatMap fun y=>y.2.2.refs
structure Cnt(S:List Nd5):Prop where
 used:∀ x∈S,x.2.2.used=(cK (jcD S) x.1:Int)
 shut:∀ r∈jcD S,r.data.toList∈S.map (·.1)
 held:∀ x∈S,0≤x.2.2.held
 r16:∀ x∈S,x.2.2.refs.length≤16
def jcb(S:List Nd5):Int:=(S.map fun x=>x.2.2.held).sum
theorem Cnt.none:Cnt []:=⟨by simp,by simp[jcD],by simp,by simp⟩
theorem jk3{S:List Nd5}(h:∀ x∈S,x.2.2.refs.length≤16):(jcD S).length≤16 * S.length:=by
 induction S with
 | nil=>simp[jcD]
 | cons x r ih =>
  have h1:=ih fun y hy=>h y (List.mem_cons_of_mem _ hy);have h2:=h x List.mem_cons_self;have e:jcD (x :: r)=x.2.2.refs++jcD r:=by simp[jcD]
  rw[e,List.length_append,List.length_cons];omega
theorem jrW(T:List ByteArray)(k:Key):cK T k≤T.length:=by
 unfold cK;have:=List.count_le_length (a:=k) (l:=T.map (·.data.toList));rwa [List.length_map]at this
theorem jwc{T:List ByteArray}{k:Key}(h:0 < cK T k):∃ r∈T,r.data.toList=k:=by
 unfold cK at h
 obtain⟨r,hr,e⟩:=List.mem_map.1 (List.count_pos_iff.1 h)
 exact⟨r,hr,e⟩
theorem Cnt.bd{S:List Nd5}(h:Cnt S)(hl:S.length≤1000):∀ x∈S,0≤x.2.2.used∧x.2.2.used≤16000:=fun x hx=>by
 have h1:=h.used x hx;have h2:=jrW (jcD S) x.1;have h3:=jk3 h.r16;omega
def jdr(T:List ByteArray)(x:Nd5):Nd5:=(x.1,x.2.1,⟨x.2.2.text,x.2.2.refs,x.2.2.used - (cK T x.1:Int),x.2.2.held⟩)
def decU(k:Key)(L:List Nd5):List Nd5:=L.map fun x=>if x.1=k then (x.1,x.2.1,putF 2 (x.2.2.used - 1) x.2.2)else x
theorem jqh(S:List Nd5):S.map (jdr [])=S:=by
 have:(jdr []:Nd5→Nd5)=id:=funext fun x=>by
  unfold jdr cK;simp
 rw[this,List.map_id]
theorem job(T:List ByteArray)(r:ByteArray)(S:List Nd5):S.map (jdr (T++[r]))=decU r.data.toList (S.map (jdr T)):=by
 unfold decU;rw[List.map_map];refine List.map_congr_left fun x _=>?_;simp only[Function.comp];have hc:cK (T++[r]) x.1=cK T x.1+(if x.1=r.data.toList then 1 else 0):=by
  rw[jmn]
  congr 1
  have:=jhh r [] x.1
  rw[this];simp[cK]
 by_cases e:x.1=r.data.toList
 ·rw[if_pos e]at hc
  rw[if_pos (show (jdr T x).1=r.data.toList from e)];unfold jdr putF;simp only[if_true];rw[hc];refine congrArg (fun z=>(x.1,x.2.1,z)) ?_
  congr 1
  push_cast
  omega
 ·rw[if_neg e]at hc
  rw[if_neg (show ¬(jdr T x).1=r.data.toList from e)];unfold jdr;rw[hc];simp
theorem jgL(T:List ByteArray)(S:List Nd5):(S.map (jdr T)).map (·.1)=S.map (·.1):=by rw[List.map_map];rfl
theorem jiy(T:List ByteArray)(S:List Nd5):jcD (S.map (jdr T))=jcD S:=by
 unfold jcD;rw[List.flatMap_map];rfl
theorem jta{W:World}{bm:Nat}{L:List Nd5}(h:jcQ W bm L){k:Key}{y:Nd5}(hy:atL L k=some y):L.map (setB 2 y.2.1 (y.2.2.used - 1))=decU k L:=by
 obtain⟨es,ck,_,h2⟩:=h.mp
 have hk:=h2.keys;rw[List.map_map]at hk;have hk:(L.map (·.1)).Nodup:=hk;unfold decU;refine List.map_congr_left (fun x hx=>?_);unfold setB
 by_cases e:x.2.1=y.2.1
 ·have:x=y:=ja4 h.blks hx (jaD hy).1 e
  subst this;rw[if_pos rfl,if_pos (jaD hy).2]
 ·rw[if_neg e,if_neg]
  intro e2
  have:x=y:=ja4 hk hx (jaD hy).1 (e2.trans (jaD hy).2.symm)
  subst this;exact e rfl
theorem jr5{S:List Nd5}(hn:(S.map (·.1)).Nodup){y:Nd5}(hy:y∈S)(k:Key):cK (jcD S) k=cK y.2.2.refs k+cK (jcD (delL S y.1)) k:=by
 induction S with
 | nil=>cases hy
 | cons x r ih =>
  rw[List.map_cons,List.nodup_cons]at hn;have e:jcD (x :: r)=x.2.2.refs++jcD r:=by simp[jcD]
  rw[e,jmn];rcases List.mem_cons.1 hy with rfl | hy
  ·have:delL (y :: r) y.1=r:=by
    unfold delL;rw[List.filter_cons_of_neg (by simp),List.filter_eq_self];intro z hz
    have:y.1≠z.1:=fun e=>hn.1 (List.mem_map.2 ⟨z,hz,e.symm⟩)
    simpa using this
   rw[this]
  ·have hne:y.1≠x.1:=fun e=>hn.1 (List.mem_map.2 ⟨y,hy,e⟩)
   have:delL (x :: r) y.1=x :: delL r y.1:=by unfold delL;rw[List.filter_cons_of_pos (by simpa using hne)]
   rw[this,ih hn.2 hy];have e2:jcD (x :: delL r y.1)=x.2.2.refs++jcD (delL r y.1):=by simp[jcD]
   rw[e2,jmn];omega
theorem jfe(T:List ByteArray)(S:List Nd5)(k:Key):delL (S.map (jdr T)) k=(delL S k).map (jdr T):=by
 unfold delL;rw[List.filter_map];rfl
theorem jet{S:List Nd5}{k:Key}{x:Nd5}:x∈delL S k↔x∈S∧x.1≠k:=by
 unfold delL;rw[List.mem_filter];simp only[Bool.not_eq_true',decide_eq_false_iff_not]
 exact⟨fun h=>⟨h.1,fun e=>h.2 e.symm⟩,fun h=>⟨h.1,fun e=>h.2 e.symm⟩⟩
theorem jun{S:List Nd5}(hn:(S.map (·.1)).Nodup)(h:Cnt S){y:Nd5}(hy:y∈S)(h0:y.2.2.used=0):Cnt (delL (S.map (jdr y.2.2.refs)) y.1):=by
 rw[jfe];have hy0:cK (jcD S) y.1=0:=by have:=h.used y hy;omega
 refine⟨fun x hx=>?_,fun r hr=>?_,fun x hx=>?_,fun x hx=>?_⟩
 ·obtain⟨z,hz,rfl⟩:=List.mem_map.1 hx
  have h1:=h.used z (jet.1 hz).1;have h2:=jr5 hn hy z.1;show z.2.2.used - (cK y.2.2.refs z.1:Int)=(cK (jcD ((delL S y.1).map (jdr y.2.2.refs))) z.1:Int);rw[jiy];omega
 ·rw[jiy]at hr
  rw[jgL];have hrS:r∈jcD S:=by
   obtain⟨z,hz,hr⟩:=List.mem_flatMap.1 hr
   exact List.mem_flatMap.2 ⟨z,(jet.1 hz).1,hr⟩
  obtain⟨z,hz,e⟩:=List.mem_map.1 (h.shut r hrS)
  refine List.mem_map.2 ⟨z,jet.2 ⟨hz,fun e2=>?_⟩,e⟩
  have:=jpl hrS
  rw[←e,e2]at this;omega
 ·obtain⟨z,hz,rfl⟩:=List.mem_map.1 hx
  exact h.held z (jet.1 hz).1
 ·obtain⟨z,hz,rfl⟩:=List.mem_map.1 hx
  exact h.r16 z (jet.1 hz).1
theorem jn4(T:List ByteArray)(S:List Nd5):jcb (S.map (jdr T))=jcb S:=by
 unfold jcb;rw[List.map_map];rfl
theorem jp2{S:List Nd5}(hn:(S.map (·.1)).Nodup){y:Nd5}(hy:y∈S):jcb S=y.2.2.held+jcb (delL S y.1):=by
 induction S with
 | nil=>cases hy
 | cons x r ih =>
  rw[List.map_cons,List.nodup_cons]at hn;have e:∀ (a:Nd5) b,jcb (a :: b)=a.2.2.held+jcb b:=fun a b=>by unfold jcb;rw[List.map_cons,List.sum_cons]
  rw[e];rcases List.mem_cons.1 hy with rfl | hy
  ·have:delL (y :: r) y.1=r:=by
    unfold delL;rw[List.filter_cons_of_neg (by simp),List.filter_eq_self];intro z hz
    have:y.1≠z.1:=fun e=>hn.1 (List.mem_map.2 ⟨z,hz,e.symm⟩)
    simpa using this
   rw[this]
  ·have hne:y.1≠x.1:=fun e=>hn.1 (List.mem_map.2 ⟨y,hy,e⟩)
   have:delL (x :: r) y.1=x :: delL r y.1:=by unfold delL;rw[List.filter_cons_of_pos (by simpa using hne)]
   rw[this,e,ih hn.2 hy];omega
theorem jp3{S:List Nd5}(hn:(S.map (·.1)).Nodup)(hb:(S.map (·.2.1)).Nodup){y:Nd5}(hy:y∈S)(v:Int):jcb (S.map (setB 3 y.2.1 v))=jcb S+v - y.2.2.held:=by
 have e:∀ (a:Nd5) b,jcb (a :: b)=a.2.2.held+jcb b:=fun a b=>by unfold jcb;rw[List.map_cons,List.sum_cons]
 clear hn;induction S with
 | nil=>cases hy
 | cons x r ih =>
  rw[List.map_cons,List.nodup_cons]at hb;rw[List.map_cons,e,e];rcases List.mem_cons.1 hy with rfl | hy
  ·have h1:(setB 3 y.2.1 v y).2.2.held=v:=by unfold setB putF;simp
   have h2:r.map (setB 3 y.2.1 v)=r:=by
    conv=>rhs;rw[←List.map_id r]
    refine List.map_congr_left fun z hz=>?_;unfold setB;rw[if_neg (fun e=>hb.1 (List.mem_map.2 ⟨z,hz,e⟩))];rfl
   rw[h1,h2];omega
  ·have hne:¬ x.2.1=y.2.1:=fun e=>hb.1 (List.mem_map.2 ⟨y,hy,e.symm⟩)
   have h1:setB 3 y.2.1 v x=x:=by unfold setB;rw[if_neg hne]
   rw[h1,ih hb.2 hy];omega
theorem jiN(c:Nat)(v:Int)(S:List Nd5):(S.map (setB 3 c v)).map (·.1)=S.map (·.1):=by
 rw[List.map_map];refine List.map_congr_left fun x _=>?_;simp only[Function.comp,setB];split <;> rfl
theorem jdb(c:Nat)(v:Int)(x:Nd5):(setB 3 c v x).2.2.used=x.2.2.used∧(setB 3 c v x).2.2.refs=x.2.2.refs∧(setB 3 c v x).1=x.1∧(setB 3 c v x).2.2.text=x.2.2.text∧(setB 3 c v x).2.1=x.2.1:=by
 unfold setB putF;split <;> simp
theorem jiO(c:Nat)(v:Int)(S:List Nd5):jcD (S.map (setB 3 c v))=jcD S:=by
 unfold jcD;rw[List.flatMap_map]
 have:(fun x=>(setB 3 c v x).2.2.refs)=fun x:Nd5=>x.2.2.refs:=funext fun x=>(jdb c v x).2.1
 rw[this]
theorem jup{S:List Nd5}(h:Cnt S)(c:Nat){v:Int}(hv:0≤v):Cnt (S.map (setB 3 c v)):=by
 refine⟨fun x hx=>?_,fun r hr=>?_,fun x hx=>?_,fun x hx=>?_⟩
 ·obtain⟨z,hz,rfl⟩:=List.mem_map.1 hx
  rw[jiO,(jdb c v z).1,(jdb c v z).2.2.1];exact h.used z hz
 ·rw[jiO]at hr;rw[jiN];exact h.shut r hr
 ·obtain⟨z,hz,rfl⟩:=List.mem_map.1 hx
  unfold setB putF
  by_cases e:z.2.1=c
  ·rw[if_pos e];exact hv
  ·rw[if_neg e];exact h.held z hz
 ·obtain⟨z,hz,rfl⟩:=List.mem_map.1 hx
  rw[(jdb c v z).2.1];exact h.r16 z hz
def jma(z:Nat)(W:World)(b:Nat)(it:It):Prop:=b < z∧∃ rv,Blk W b (.cells #[.string it.text,rv,.int .i64 it.used,.int .i64 it.held] 118)∧W.ownsRow 0 9 1 rv it.refs.length (it.refs.map Value.string)∧∀ c,rv.ownBlock=some c→c < z
structure jcx(z:Nat)(W:World)(s bm:Nat)(room:Int)(S:List Nd5):Prop where
 st:jas W s bm room S
 s0:s < z
 b0:bm < z
 lo:∀ x∈S,jma z W x.2.1 x.2.2
theorem jas.low{W:World}{s bm:Nat}{room:Int}{S:List Nd5}(h:jas W s bm room S):jcx W.heap.size W s bm room S:=by
 obtain⟨es,ck,h1,_⟩:=h.mp.mp
 refine⟨h,h.st.lt,h1.lt,fun x hx=>?_⟩
 obtain⟨rv,h1,h2⟩:=(h.mp.items x hx).cells
 exact⟨h1.lt,rv,h1,h2,fun c hc=>(World.ownsRow.lt h2 c hc).2⟩
theorem jma.past{z:Nat}{W W':World}{b:Nat}{it:It}{F:BSet}(h:jma z W b it)(k:jac F W W')(hF:∀ c,F c→z≤c):jma z W' b it:=by
 obtain⟨hb,rv,h1,h2,h3⟩:=h
 exact⟨hb,rv,h1.keeps k (fun f=>by have:=hF b f;omega),jaG h2 k (fun c hc f=>by have:=hF c f;have:=h3 c hc;omega),h3⟩
theorem jcx.past{z:Nat}{W W':World}{s bm:Nat}{room:Int}{S:List Nd5}{F:BSet}(h:jcx z W s bm room S)(k:jac F W W')(hF:∀ c,F c→z≤c):jcx z W' s bm room S:=by
 have hlo:=fun x hx=>(h.lo x hx).past k hF
 obtain⟨es,ck,h1,h2⟩:=h.st.mp.mp
 refine⟨⟨h.st.st.keeps k (fun f=>by have:=hF s f;have:=h.s0;omega),⟨es,ck,h1.keeps k (fun f=>by have:=hF bm f;have:=h.b0;omega),h2⟩,h.st.mp.blks,fun x hx=>?_⟩,h.s0,h.b0,hlo⟩
 obtain⟨_,rv,h3,h4,_⟩:=hlo x hx
 exact⟨rv,h3,h4⟩
theorem jcx.ext{z:Nat}{W W':World}{s bm:Nat}{room:Int}{S:List Nd5}(h:jcx z W s bm room S)(k:Ext W W'):jcx z W' s bm room S:=h.past k (fun _ f=>f.elim)
theorem jcx.set{z:Nat}{W:World}{s bm:Nat}{room:Int}{S:List Nd5}(h:jcx z W s bm room S){y:Nd5}(hy:y∈S){f:Nat}(hf:f=2∨f=3)(v:Int):jcx z (W.setCell ⟨y.2.1,f,none⟩ (.int .i64 v)) s bm room (S.map (setB f y.2.1 v)):=by
 have hi:=h.st.mp.items y hy
 obtain⟨rv,hb,_⟩:=hi.cells
 have hK:jac (fun z=>z=y.2.1) W (W.setCell ⟨y.2.1,f,none⟩ (.int .i64 v)):=jac.oneSet W ⟨y.2.1,f,none⟩ _;have hN:jgW W (fun z=>z=y.2.1):=fun z cur fz e hz=>by
  have e:z=y.2.1:=e;subst e
  have:=hb.uniq hz;injection this with _ h2;exact absurd h2 (by decide)
 refine⟨⟨h.st.st.keeps hK (fun e=>?_),h.st.mp.setF hi hf v⟩,h.s0,h.b0,fun x hx=>?_⟩
 ·have e:s=y.2.1:=e
  rw[e]at h
  have:=hb.uniq h.st.st;injection this with _ h2;exact absurd h2 (by decide)
 ·obtain⟨u,hu,rfl⟩:=List.mem_map.1 hx
  obtain⟨l1,rv',l2,l3,l4⟩:=h.lo u hu
  unfold setB;split
  ·rename_i e
   refine⟨l1,rv',?_,?_,l4⟩
   ·show Blk _ u.2.1 _
    rw[e]at l2 ⊢;rcases hf with rfl | rfl
    ·exact l2.set_same (i:=2) _
    ·exact l2.set_same (i:=3) _
   ·have:=jcY l3 hK hN
    rcases hf with rfl | rfl <;> exact this
  ·rename_i e
   exact⟨l1,rv',l2.keeps hK e,jcY l3 hK hN,l4⟩
theorem jcx.del{z:Nat}{W:World}{s bm:Nat}{room:Int}{S:List Nd5}(h:jcx z W s bm room S)(k:ByteArray) :
  ∃ o,(∀ kt r,(Builtin.delete_ #[109,kt] r #[.map (some bm),.string k]).run Tryz.prog W=.ok (.tuple #[]) (W.putObj bm o))∧jcx z (W.putObj bm o) s bm room (delL S k.data.toList):=by
 obtain⟨ob,hdl,hM⟩:=h.st.mp.del k
 have hK:jac (fun z=>z=bm) W (W.putObj bm ob):=jac.onePut W bm ob
 refine⟨ob,hdl,⟨h.st.st.keeps hK (fun e=>?_),hM⟩,h.s0,h.b0,fun x hx=>?_⟩
 ·have e:s=bm:=e
  obtain⟨es,ck,h1,_⟩:=h.st.mp.mp
  subst e
  have:=h1.uniq h.st.st;cases this
 ·obtain⟨l1,rv,l2,l3,l4⟩:=h.lo x (jet.1 hx).1
  refine⟨l1,rv,l2.keeps hK (fun e=>?_),jcY l3 hK h.st.mp.notRow,l4⟩
  have e:x.2.1=bm:=e
  obtain⟨es,ck,h1,_⟩:=h.st.mp.mp
  rw[e]at l2
  have:=h1.uniq l2;cases this
theorem jq8{w:World}{B g n cap:Nat}{T:List ByteArray}{t:ByteArray}(h:w.ownsRow B 9 1 (.slice (some ⟨g,0,none⟩) (n+1) cap) (n+1) ((T++[t]).map Value.string)):w.ownsRow B 9 1 (.slice (some ⟨g,0,none⟩) n cap) n (T.map Value.string):=by
 obtain⟨h1,⟨h2,_⟩ |⟨g',cap',cur,h2,h3,h4,h5,h6,h7,h8⟩⟩:=h
 ·cases h2
 ·obtain⟨ha,_,hc⟩:=Value.slice.inj h2
  have hg:g=g':=by have:=Option.some.inj ha;exact congrArg Addr.block this
  subst hg hc;have hl:T.length=n:=by simp at h1;omega
  refine⟨by simp[hl],.inr ⟨g,cap,cur,rfl,h3,h4,by omega,h6,h7,?_⟩⟩
  have e:(T++[t]).map Value.string=T.map Value.string++[.string t]:=by simp
  rw[e]at h8
  have:=congrArg (List.take n) h8
  rw[List.take_take,Nat.min_eq_left (by omega),List.take_left' (by simp[hl])]at this;rw[Nat.mul_one];exact this
def jny(S:List Nd5)(T:List ByteArray):Prop:=∀ x∈S,x.2.2.used+x.2.2.held≤0→∃ r∈T,r.data.toList=x.1
def SubS(S0 S:List Nd5):Prop:=∀ x∈S,∃ y∈S0,x.1=y.1∧x.2.1=y.2.1∧x.2.2.text=y.2.2.text∧x.2.2.refs=y.2.2.refs∧x.2.2.held=y.2.2.held
structure DrO(z:Nat)(s bm:Nat)(room:Int)(S0 S:List Nd5)(T:List ByteArray)(w3:World)(v:Value)(W:World):Prop where
 st:jcx z W s bm room S
 cnt:Cnt S
 loose:jny S T
 row:W.ownsRow 0 9 1 v T.length (T.map Value.string)
 new:∀ b,v.ownBlock=some b→z≤b
 sub:SubS S0 S
 sum:jcb S=jcb S0
 len:S.length≤S0.length
 tl:T.length+16 * S.length≤1+16 * S0.length
 stay:∀ x∈S0,0 < x.2.2.held→x.1∈S.map (·.1)
 kp:jac (fun b=>b=bm∨b∈S0.map (·.2.1)∨z≤b) w3 W
 rk:RK w3 W
def mapSz(W:World)(bm:Nat):Nat:=match W.heap[bm]? with | some (.map es _)=>es.size | _=>0
theorem jas.mapSz{W:World}{s bm:Nat}{room:Int}{S:List Nd5}(h:jas W s bm room S):mapSz W bm=S.length:=by
 obtain⟨es,ck,h1,h2⟩:=h.mp.mp
 have:=h2.lenL
 unfold Go.Proofs.YtpaacnhboilkkaaGreatDoor.mapSz;rw[show W.heap[bm]?=_ from h1];simp[ja7.arr,this]
theorem jkF{S:List Nd5}{T:List ByteArray}{t:ByteArray}(h:jny S (T++[t]))(ht:∀ x∈S,x.1=t.data.toList→0 < x.2.2.used+x.2.2.held):jny S T:=fun x hx h0=>by
 obtain⟨r,hr,e⟩:=h x hx h0
 rcases List.mem_append.1 hr with hr | hr
 ·exact⟨r,hr,e⟩
 ·have:=ht x hx (by rw[←e,List.mem_singleton.1 hr]);omega
theorem jql{S:List Nd5}{T:List ByteArray}{t:ByteArray}(h:jny S (T++[t])){R:List ByteArray}{k:Key}(hk:k=t.data.toList):jny (delL (S.map (jdr R)) k) (T++R):=fun x hx h0=>by
 rw[jfe]at hx
 obtain⟨z,hz,rfl⟩:=List.mem_map.1 hx
 have hz:=jet.1 hz;have h0:z.2.2.used - (cK R z.1:Int)+z.2.2.held≤0:=h0
 by_cases hc:0 < cK R z.1
 ·obtain⟨r,hr,e⟩:=jwc hc
  exact⟨r,List.mem_append_right _ hr,e⟩
 ·obtain⟨r,hr,e⟩:=h z hz.1 (by omega)
  rcases List.mem_append.1 hr with hr | hr
  ·exact⟨r,List.mem_append_left _ hr,e⟩
  ·exact absurd (e.symm.trans (by rw[List.mem_singleton.1 hr,hk])) hz.2
theorem jvq{S0 S:List Nd5}(h:SubS S0 S)(R:List ByteArray)(k:Key):SubS S0 (delL (S.map (jdr R)) k):=fun x hx=>by
 rw[jfe]at hx
 obtain⟨z,hz,rfl⟩:=List.mem_map.1 hx
 exact h z (jet.1 hz).1
theorem jpD{S:List Nd5}{y:Nd5}(hy:y∈S)(R:List ByteArray):(delL (S.map (jdr R)) y.1).length+1≤S.length:=by
 rw[jfe,List.length_map];unfold delL
 have:=List.length_filter_lt_length_iff_exists (l:=S) (p:=fun x => !decide (y.1=x.1))
 have:=this.2 ⟨y,hy,by simp⟩
 omega
theorem jtj{S0 S:List Nd5}(hn:(S0.map (·.1)).Nodup)(hs:SubS S0 S)(h:∀ x∈S0,0 < x.2.2.held→x.1∈S.map (·.1)){y:Nd5}(hy:y∈S)(h0:y.2.2.held=0)(R:List ByteArray):∀ x∈S0,0 < x.2.2.held→x.1∈(delL (S.map (jdr R)) y.1).map (·.1):=fun x hx h1=>by
 obtain⟨z,hz,e⟩:=List.mem_map.1 (h x hx h1)
 rw[jfe,jgL];refine List.mem_map.2 ⟨z,jet.2 ⟨hz,fun e2=>?_⟩,e⟩
 obtain⟨y0,hy0,k1,_,_,_,k5⟩:=hs y hy
 have:x=y0:=ja4 hn hx hy0 (by rw[←e,e2,k1])
 subst this;omega
end
end Go.Proofs.YtpaacnhboilkkaaGreatDoor
