/- Parts of the proof, one behind the other: StoreC, StoreD. Each is under no condition but those that it states. -/
import Derived.Test.YtcpnjmcipainpaaGreatDoorPc22
namespace Go.Proofs.YtcpnjmcipainpaaGreatDoor
set_option linter.unusedSimpArgs false
set_option linter.unusedVariables false
set_option maxRecDepth 100000
set_option maxHeartbeats 16000000
section
open Go Go.RowKit
noncomputable def itOf(t:ByteArray):It:=⟨t,jaY (nodeOf t),0,0⟩
noncomputable def ky(t:ByteArray):Key:=(shaB t).data.toList
noncomputable def addG(m:List (Key × It))(t:ByteArray):List (Key × It):=if m.any (fun x=>decide (ky t=x.1))then m else m++[(ky t,itOf t)]
noncomputable def readG(L:List ByteArray):List (Key × It):=L.foldl addG []
def kvI(x:Nd5):Key × It:=(x.1,x.2.2)
theorem jhp{L:List Nd5}{k:Key}:atL L k=none↔∀ x∈L,k≠x.1:=by
 unfold atL;rw[List.find?_eq_none];simp
theorem jpL{L:List Nd5}{k:Key}:(L.map kvI).any (fun x=>decide (k=x.1))=(atL L k).isSome:=by
 rw[List.any_map];unfold atL;rw[List.isSome_find?];rfl
theorem jf2(k:Key)(v:Value)(n:Nat):∀ es:List EntK,jbh es k=none→jbP es k v n=es++[(k,v,n)]
 | [],_=>rfl
 | x :: r,h=>by
  rw[jiw]at h;unfold jbP
  by_cases hk:k=x.1
  ·rw[if_pos hk]at h;cases h
  ·rw[if_neg hk]at h ⊢
   rw[jf2 k v n r h];rfl
theorem jct.put{W:World}{bm:Nat}{L:List Nd5}(h:jct W bm L)(k:ByteArray)(hk:atL L k.data.toList=none){b:Nat}{it:It}(hb:jdy W b it)(hn:∀ x∈L,x.2.1≠b) :
  ∃ o,(Instr.mapUpdate 115 (.map (some bm)) (.string k) (.pointer (some ⟨b,0,none⟩))).run Tryz.prog W=.ok () (W.putObj bm o)∧jct (W.putObj bm o) bm (L++[(k.data.toList,b,it)]):=by
 obtain⟨es,ck,h1,h2⟩:=h.mp
 have hg:jbh es k.data.toList=none:=by rw[h2.get,jmC,hk];rfl
 have hmu:=jdv Tryz.ES Tryz.uMapIt h1 k.data.toList (.pointer (some ⟨b,0,none⟩));have hp:=h2.put k.data.toList (.pointer (some ⟨b,0,none⟩));rw[hg]at hmu hp;simp only[Option.isSome_none,Bool.false_eq_true,if_false]at hmu hp;have hK:jag (fun z=>z=bm) W (W.putObj bm (.map (Tryz.ES.arr (jbP es k.data.toList (.pointer (some ⟨b,0,none⟩)) ck)) (ck+1))):=jag.onePut W bm _;have hN:jgH W (fun z=>z=bm):=fun z cur fz e hz=>by
  have e:z=bm:=e;subst e
  have:=h1.uniq hz;cases this
 have hne:∀ {c:Nat} {i:It},jdy W c i→¬ c=bm:=fun hi e=>by
  obtain⟨_,hc,_⟩:=hi.cells
  subst e
  have:=h1.uniq hc;cases this
 refine⟨_,hmu,⟨_,_,h1.put_same _,?_⟩,?_,?_⟩
 ·have e:putV (L.map kvN) k.data.toList (.pointer (some ⟨b,0,none⟩))=(L++[(k.data.toList,b,it)]).map kvN:=by
   rw[List.map_append, ←h2.same, ←jm9,jf2 _ _ ck _ hg,List.map_append];rfl
  rw[←e];exact hp
 ·rw[List.map_append,List.nodup_append]
  exact⟨h.blks,by simp,fun a ha c hc e=>by
   simp at hc;subst hc;subst e
   obtain⟨x,hx,e⟩:=List.mem_map.1 ha
   exact hn x hx e⟩
 ·intro x hx
  rcases List.mem_append.1 hx with hx | hx
  ·exact (h.items x hx).keeps hK (hne (h.items x hx)) hN
  ·simp only[List.mem_singleton]at hx
   subst hx;exact hb.keeps hK (hne hb) hN
structure ReS(w:World)(bg:Nat)(G:List Nd5)(T:List ByteArray)(W:World):Prop where
 ext:Ext w W
 at':jct W bg G
 is:G.map kvI=readG T
 new:w.heap.size≤bg
 news:∀ x∈G,w.heap.size≤x.2.1
def jsj(w:World)(bg:Nat)(L:List ByteArray)(iv:Value)(W:World):Prop:=∃ i:Nat,i≤L.length∧iv=.int .i64 i∧∃ G,ReS w bg G (L.take i) W
theorem ReS.keeps{w:World}{bg:Nat}{G:List Nd5}{T:List ByteArray}{W W':World}(h:ReS w bg G T W)(e:Ext W W'):ReS w bg G T W':=⟨h.ext.trans e,h.at'.ext e,h.is,h.new,h.news⟩
theorem jls{L:List ByteArray}{i:Nat}{t:ByteArray}(h:L[i]?=some t):readG (L.take (i+1))=addG (readG (L.take i)) t:=by
 unfold readG;rw[List.take_add_one,h,List.foldl_append];rfl
theorem jqG(w:World)(hc:jbO w)(v:Value)(L:List ByteArray)(hv:RdS w v L)(hl:L.length≤1000)(h0:L≠[])(hN:∀ t∈L,∃ n,jbN t n) :
  Calls Tryz.prog 81 #[v] w fun e w'=>∃ bg G,e=.returned (.tuple #[.map (some bg),.int .i64 0])∧ReS w bg G L w':=by
 have hpos:0 < L.length:=List.length_pos_iff.2 h0
 obtain⟨a,c,rfl,_⟩:=hv.slice
 have HL3:=Hd hv;have HC:=Hd hc;have HN:=Hd hN;have hmm:=Tryz.makeMapIt w;clear hv hc hN h0;have hb0:((L.length:Int) == 0)=false:=by simpa using (by omega:L.length≠0)
 go_enter Tryz.func81,Tryz.ntmps81;go_wp2_with fail
 obtain⟨bg,hbg⟩:∃ bg,bg=w.heap.size:=⟨_,rfl⟩
 have HBG:=Hd hbg;rw[←hbg];clear hbg hmm;go_loopw [16] (fun iv wr=>jsj w bg L iv wr) (fun iv _=>L.length - (intOf iv).toNat)
 case atStart =>
  refine⟨0,Nat.zero_le _,rfl,[],⟨(ExtR w).alloc _,⟨⟨[],0,?_,MapV.nil 0⟩,by simp,fun x hx=>by cases hx⟩,rfl,by rw[HBG.o];exact Nat.le_refl _,fun x hx=>by cases hx⟩⟩
  rw[HBG.o];exact Blk.new w _
 case round =>
  obtain⟨i,hi,rfl,G,hS⟩:=hrel
  have HSR:=Hd hS;clear hS
  by_cases hlt:i < L.length
  ·have b1:(i:Int) < (L.length:Int):=by omega
   obtain⟨t,ht⟩:∃ t,L[i]?=some t:=⟨_,List.getElem?_eq_getElem hlt⟩
   obtain⟨ax,cx,hh,hcell⟩:=HL3.o.slice
   obtain⟨ba,oa,hao,hqa⟩:=hcell i t ht
   subst hao;cases hh;have q1:=jab hqa HSR.o.ext
   obtain⟨n0,hn0⟩:=HN.o t (List.mem_of_getElem? ht)
   have hIs:=jcc hn0;have HTS:=Hd (jls ht);have HIT:=Hd (show itOf t=⟨t,jaY (nodeOf t),0,0⟩from rfl)
   obtain⟨n,hnn⟩:∃ n,n=nodeOf t:=⟨_,rfl⟩
   rw[←hnn]at hIs HIT;have h16:=jgd hIs
   obtain⟨htx,g,hg⟩:=hIs
   have HG:=Hd hg;have HRF:=Hd ((hg.one (inlP g)).refs);have HTX:=Hd htx;clear hcell hn0 hnn htx hg hqa ht;go_wp2_with fail
   rw[HTX.o];refine (jg4 (inlP g) wr n HG.o).mono ?_;rintro e w4 ⟨rfl,hE⟩;rw[←HTX.o];have HX4:=Hd hE;clear hE q1;unfold jac.V;go_wp2_with (refine jai Tryz.allocNode rfl rfl ?_;intro W3 hB3 hE3;refine jaf (vs:=n.cells) rfl rfl rfl rfl hB3 (by rw[n.cells_len HRF.o];rfl) (by rw[n.cells_len HRF.o];exact Tryz.szNode) (jac.one _) ?_;intro W4 hB4 hE4;have hE34:Ext w4 W4:=hE3.trans' hE4 (fun x hx e=>by have e:x=w4.heap.size:=e;omega))
   have HX5:=Hd (HX4.o.trans hE34);have HB5:=Hd hB4;clear hB3 hE3 hB4 hE4 hE34 HX4;refine (of_t _ _ [t] (by simp) (jcL W4 [t] 9) (HC.o.ext ((HSR.o.ext.trans HX5.o).alloc _))).mono ?_;rintro e w6 ⟨rfl,hE⟩;rw[jcl];have hx6:=((ExtR W4).alloc (.cells #[.string t] 9)).trans hE;have HX6:=Hd (HX5.o.trans hx6);have HB6:=Hd (HB5.o.keeps hx6 (fun h=>h));have HS6:=Hd (HSR.o.keeps HX6.o);have hlk:=HS6.o.at'.look (shaB t) false;have HNA:=Hd (jpL (L:=G) (k:=ky t));have HKY:=Hd (show (shaB t).data.toList=ky t from rfl);have HAD:=Hd (show addG (G.map kvI) t=if (G.map kvI).any (fun x=>decide (ky t=x.1))then G.map kvI else G.map kvI++[(ky t,itOf t)]from rfl);rw[HKY.o]at hlk;simp only[Bool.false_eq_true,if_false]at hlk
   obtain⟨sh,hsh⟩:∃ sh,sh=shaB t:=⟨_,rfl⟩
   rw[←hsh]at hlk HKY ⊢
   obtain⟨kt,hkt⟩:∃ kt,kt=ky t:=⟨_,rfl⟩
   rw[←hkt]at hlk HKY HNA HAD;clear hE hx6 HX5 HB5 hsh hkt;cases ha:atL G kt with
   | some x =>
    rw[ha]at hlk;unfold ptrO at hlk;simp only at hlk;have hz:addG (G.map kvI) t=G.map kvI:=by rw[HAD.o,HNA.o,ha];rfl
    have HZ:=Hd hz;clear ha hz;go_wp2_with fail
    go_roundw
    case rel =>
     exact⟨i+1,by omega,by go_num,G,HS6.o.ext,HS6.o.at',by rw[HTS.o, ←HS6.o.is,HZ.o],HS6.o.new,HS6.o.news⟩
    case measure=>simp[intOf];omega
   | none =>
    rw[ha]at hlk;unfold ptrO at hlk;simp only at hlk;have hz:addG (G.map kvI) t=G.map kvI++[(kt,itOf t)]:=by rw[HAD.o,HNA.o,ha];rfl
    have HZ:=Hd hz;have HA:=Hd ha;have hld6:=jap w6 _ n HRF.o HB6.o;unfold jac.V at hld6;clear ha hz;go_wp2_with (refine jah 144 (.tmp 7) rfl rfl _ _ rfl hld6 ?_)
    refine (jkj g n HG.o w6).mono ?_;rintro e w8 ⟨v8,rfl,hR8,hnil⟩;have hE8:=hR8.ext;have hnew8:=hR8.new;have hown:=hR8.own
    obtain⟨a8,c8,rfl⟩:=hR8.sl
    have S8:=HS6.o.keeps hE8;have hA9:=S8.at'.ext ((ExtR w8).alloc (.cells #[.string t,.slice a8 (jaY n).length c8,.int .i64 0,.int .i64 0] 125));have hb9:=Blk.new w8 (.cells #[.string t,.slice a8 (jaY n).length c8,.int .i64 0,.int .i64 0] 125);have hi9:jdy (w8.alloc (.cells #[.string t,.slice a8 (jaY n).length c8,.int .i64 0,.int .i64 0] 125)) w8.heap.size (itOf t):=by
     rw[HIT.o]
     exact⟨_,hb9,jbx hown ((ExtR w8).alloc _)⟩
    obtain⟨ob,hmu,hA10⟩:=hA9.put sh (by rw[HKY.o];exact HA.o) hi9 (fun x hx e=>by have:=(S8.at'.items x hx).lt;omega)
    rw[HKY.o]at hA10;have hE10:Ext w ((w8.alloc (.cells #[.string t,.slice a8 (jaY n).length c8,.int .i64 0,.int .i64 0] 125)).putObj bg ob):=(S8.ext.alloc _).putObj (.inr S8.new) _;have HE10:=Hd hE10;have HA10:=Hd hA10;have HNW:=Hd (show w.heap.size≤w8.heap.size from S8.ext.size);clear hE10 hA10 hi9 hb9 hA9 S8 hown hnew8 hE8 hR8 hnil hld6 hlk;go_wp2_with fail
    go_roundw
    case rel =>
     refine⟨i+1,by omega,by go_num,G++[(kt,w8.heap.size,itOf t)],HE10.o,HA10.o,?_,HS6.o.new,?_⟩
     ·rw[HTS.o, ←HS6.o.is,HZ.o,List.map_append];rfl
     ·intro x hx
      rcases List.mem_append.1 hx with hx | hx
      ·exact HS6.o.news x hx
      ·simp only[List.mem_singleton]at hx;subst hx;exact HNW.o
    case measure=>simp[intOf];omega
  ·have hie:i=L.length:=by omega
   subst hie;have HS:=Hd (show ReS w bg G L wr by have:=HSR.o;rwa [List.take_length]at this);clear HSR;go_wp2_with fail
   go_ret2
   exact⟨bg,G,rfl,HS.o⟩
end
section
open Go Go.RowKit
attribute [local go_sem] Oper.semAt_some
def frK(S:List Nd5)(M:List ByteArray):List ByteArray:=(ja9 M).filter fun y=>(atL S y.data.toList).isNone
structure Meet(w0:World)(s:Nat)(S:List Nd5)(bg b:Nat)(M:List ByteArray)(W:World):Prop where
 ext:Ext w0 W
 lo:w0.heap.size≤b
 c3:Blk W b (.cells #[.pointer (some ⟨s,0,none⟩)] 24)
 c5:Blk W (b+1) (.cells #[.map (some bg)] 115)
 c9:Blk W (b+4) (.cells #[.map (some (b+3))] 107)
 tab:∃ es ck,Blk W (b+3) (.map (Tryz.ES.arr es) ck)∧∀ y:ByteArray,jbh es y.data.toList=cntV (cntB M y)
 var:∃ v n,Blk W (b+2) (.cells #[v] 34)∧W.ownsRow 0 9 1 v n ((frK S M).map Value.string)∧n≤M.length∧∀ z,v.ownBlock=some z→b+5≤z
theorem Meet.keeps{w0:World}{s:Nat}{S:List Nd5}{bg b:Nat}{M:List ByteArray}{W W':World}(h:Meet w0 s S bg b M W)(e:Ext W W'):Meet w0 s S bg b M W':=by
 obtain⟨es,ck,h1,h2⟩:=h.tab
 obtain⟨v,n,h3,h4,h5,h6⟩:=h.var
 exact⟨h.ext.trans e,h.lo,h.c3.keeps e (fun g=>g),h.c5.keeps e (fun g=>g),h.c9.keeps e (fun g=>g),⟨es,ck,h1.keeps e (fun g=>g),h2⟩,v,n,h3.keeps e (fun g=>g),jbx h4 e,h5,h6⟩
theorem jkf(S:List Nd5)(M:List ByteArray)(x:ByteArray):frK S (M++[x])=if memB (ja9 M) x=true then frK S M else if (atL S x.data.toList).isNone then frK S M++[x]else frK S M:=by
 unfold frK;rw[jga];unfold addF;split
 ·rfl
 ·rw[List.filter_append]
  split
  ·rename_i h;rw[List.filter_cons_of_pos (by simpa using h)];rfl
  ·rename_i h;rw[List.filter_cons_of_neg (by simpa using h)];simp
theorem jmg(M:List ByteArray)(x y:ByteArray):cntB (M++[x]) y=cntB M y+(if x.data.toList=y.data.toList then 1 else 0):=by
 unfold cntB;rw[List.map_append,List.count_append,List.map_cons,List.map_nil,List.count_singleton]
 simp
theorem jpj(w0:World)(s bm:Nat)(room:Int)(S G:List Nd5)(bg b:Nat)(h:jbo w0 s bm room S)(hG:jct w0 bg G)(W:World)(M:List ByteArray)(hM:Meet w0 s S bg b M W)(x:ByteArray)(hx:(atL G x.data.toList).isSome=true)(hl:M.length≤1000000) :
  Calls Tryz.prog 136 #[.string x,.pointer (some ⟨b+4,0,none⟩),.pointer (some ⟨b,0,none⟩),.pointer (some ⟨b+2,0,none⟩),.pointer (some ⟨b+1,0,none⟩)] W fun e w'=>e=.returned (.bool true)∧Meet w0 s S bg b (M++[x]) w':=by
 have HM:=Hd hM;have HS:=Hd h
 obtain⟨es,ck,h5,h6⟩:=hM.tab
 obtain⟨v,n,h1,h2,h3,h4⟩:=hM.var
 obtain⟨ad,cp,rfl⟩:=ja1 h2
 obtain⟨cn,hcn⟩:∃ cn,cn=cntB M x:=⟨_,rfl⟩
 have hcl:cn≤1000000:=by
  rw[hcn];unfold cntB;refine Nat.le_trans List.count_le_length ?_;rw[List.length_map];exact hl
 have e6:=h6 x;rw[←hcn]at e6;have hlk:(Instr.lookup 107 (.map (some (b+3))) (.string x) false).run Tryz.prog W=.ok (.int .i64 (cn:Int)) W:=by
  have:=jdh Tryz.ES Tryz.uMapSI h5 (Tryz.zeroI W) x.data.toList false
  rw[e6]at this;unfold cntV at this
  by_cases h0:cn=0
  ·rw[if_pos h0]at this;rw[h0];exact this
  ·rw[if_neg h0]at this;exact this
 obtain⟨es2,hes2⟩:∃ es2,es2=jbP es x.data.toList (.int .i64 ((cn:Int)+1)) ck:=⟨_,rfl⟩
 obtain⟨ck2,hck2⟩:∃ ck2,ck2=(if (jbh es x.data.toList).isSome then ck else ck+1):=⟨_,rfl⟩
 obtain⟨W2,hW2⟩:∃ W2,W2=W.putObj (b+3) (.map (Tryz.ES.arr es2) ck2):=⟨_,rfl⟩
 have hmu:(Instr.mapUpdate 107 (.map (some (b+3))) (.string x) (.int .i64 ((cn:Int)+1))).run Tryz.prog W=.ok () W2:=by
  have:=jdv Tryz.ES Tryz.uMapSI h5 x.data.toList (.int .i64 ((cn:Int)+1))
  rw[←hes2, ←hck2, ←hW2]at this;exact this
 have B2:Blk W2 (b+3) (.map (Tryz.ES.arr es2) ck2):=by rw[hW2];exact h5.put_same _
 have e7:∀ y:ByteArray,jbh es2 y.data.toList=cntV (cntB (M++[x]) y):=fun y=>by
  rw[hes2,jc8,h6 y,jmg]
  by_cases hxy:y.data.toList=x.data.toList
  ·have hyx:y=x:=ByteArray.ext (Array.ext' hxy)
   subst hyx;rw[if_pos rfl,if_pos rfl, ←hcn];unfold cntV;rw[if_neg (by omega)];simp
  ·rw[if_neg hxy,if_neg (fun e=>hxy e.symm)];rfl
 have hlk2:(Instr.lookup 107 (.map (some (b+3))) (.string x) false).run Tryz.prog W2=.ok (.int .i64 ((cn:Int)+1)) W2:=by
  have:=jdh Tryz.ES Tryz.uMapSI B2 (Tryz.zeroI W2) x.data.toList false
  rw[hes2,jc8,if_pos rfl]at this;exact this
 have K2:jag (fun z=>z=b+3) W W2:=by rw[hW2];exact jag.onePut _ _ _
 have q9:W.cell? ⟨b+4,0,none⟩=some (.map (some (b+3))):=hM.c9.cell (i:=0) (by rfl);have E2:Ext w0 W2:=hM.ext.trans' K2 (fun y hy e=>by have e:y=_:=e;have:=hM.lo;omega);have C9:=hM.c9.keeps K2 (by omega);have q92:W2.cell? ⟨b+4,0,none⟩=some (.map (some (b+3))):=C9.cell (i:=0) (by rfl);have C3:=hM.c3.keeps K2 (by omega);have q32:W2.cell? ⟨b,0,none⟩=some (.pointer (some ⟨s,0,none⟩)):=C3.cell (i:=0) (by rfl);have C5:=hM.c5.keeps K2 (by omega);have V2:=h1.keeps K2 (by omega);have O2:=ja7 h2 K2 (fun z hz e=>by have:=h4 z hz;have e:z=_:=e;omega);have hV2:W2.cell? ⟨b+2,0,none⟩=some (.slice ad n cp):=V2.cell (i:=0) (by rfl);have hV2f:W2.frozen? ⟨b+2,0,none⟩=false:=V2.frozen;have qs:=(h.st.keeps E2 (fun g=>g)).cell (i:=1) (v:=.map (some bm)) (by rfl);have hlks:=(h.mp.ext E2).look x false;simp only[Bool.false_eq_true,if_false]at hlks;have HMEM:=Hd (show memB (ja9 M) x=true↔cn≠0 from by
  rw[jfL,jbC,hcn];unfold cntB;rw[←Nat.pos_iff_ne_zero,List.count_pos_iff,List.mem_map]
  exact⟨fun hm=>⟨x,hm,rfl⟩,fun ⟨y,hy,e⟩=>by rw[←show y=x from ByteArray.ext (Array.ext' e)];exact hy⟩)
 have HFS:=Hd (jkf S M x);have HTAB:=Hd (show ∃ es ck,Blk W2 (b+3) (.map (Tryz.ES.arr es) ck)∧∀ y:ByteArray,jbh es y.data.toList=cntV (cntB (M++[x]) y)from⟨es2,ck2,B2,e7⟩);have HGM:=Hd (show ∀ W3:World,Ext w0 W3→jct W3 bg G from fun _ e=>hG.ext e)
 obtain⟨yg,hyg⟩:∃ y,atL G x.data.toList=some y:=Option.isSome_iff_exists.1 hx
 have HGY:=Hd hyg;clear hyg;have HK2:=Hd K2;have HC3:=Hd C3;have HC5:=Hd C5;have HC9:=Hd C9;have HV2:=Hd V2;have HO2:=Hd O2;have HE2:=Hd E2;have H4:=Hd h4;have H3:=Hd h3;have HLO:=Hd hM.lo;have HEND:=Hd (show frK S (M++[x])=frK S M→Meet w0 s S bg b (M++[x]) W2 from fun e=>⟨E2,hM.lo,C3,C5,C9,⟨es2,ck2,B2,e7⟩,_,n,V2,by rw[e];exact O2,by rw[List.length_append];omega,h4⟩);clear hM h h1 h2 h4 h5 h6 hcn e6 hes2 hck2 hW2 B2 e7 K2 C3 C5 C9 V2 O2 E2 hG hx
 by_cases hc0:cn=0
 ·subst hc0
  have hnm:memB (ja9 M) x=false:=by
   cases hm:memB (ja9 M) x with
   | false=>rfl
   | true=>exact absurd rfl (HMEM.o.1 hm)
  have HNM:=Hd hnm;have hlk':(Instr.lookup 107 (.map (some (b+3))) (.string x) false).run Tryz.prog W=.ok (.int .i64 0) W:=hlk;have hmu':(Instr.mapUpdate 107 (.map (some (b+3))) (.string x) (.int .i64 1)).run Tryz.prog W=.ok () W2:=hmu;have hlk2':(Instr.lookup 107 (.map (some (b+3))) (.string x) false).run Tryz.prog W2=.ok (.int .i64 1) W2:=hlk2;clear hnm hlk hmu hlk2;cases hs:atL S x.data.toList with
  | some y =>
   rw[hs]at hlks;unfold ptrO at hlks;simp only at hlks;have HFE:=Hd (show frK S (M++[x])=frK S M by rw[HFS.o,HNM.o,hs];rfl);clear hs;go_enter Tryz.func136,Tryz.ntmps136;go_wp2_with fail
   go_ret
   exact⟨rfl,HEND.o HFE.o⟩
  | none =>
   rw[hs]at hlks;unfold ptrO at hlks;simp only at hlks;have HFE:=Hd (show frK S (M++[x])=frK S M++[x] by rw[HFS.o,HNM.o,hs];rfl);clear hs;have hm1:n+1≤maxLen:=by have:=H3.o;unfold maxLen;omega
   have hm2:(n+1) * 16≤140737488355328:=by have:=H3.o;omega
   go_enter Tryz.func136,Tryz.ntmps136
   obtain⟨i0,hi,hz0,hz1,hz2⟩:=info_parts Tryz.infoStr
   go_wp2_with (at_builtin;refine jck _ rfl (.tmp 24) (.tmp 26) 34 rfl 9 i0 _ 1 16 Tryz.uStrs hi hz0 hz1 hz2 rfl (by decide) (.slice ad n cp) n _ rfl (jbx HO2.o ((ExtR W2).alloc _)) ⟨W2.heap.size,0,none⟩ 1 1 [.string x] rfl rfl (jbg (Blk.new W2 _)) (by simp[Value.oneCell']) hm1 hm2 ?_;intro v' w6 r1 r2 r3;obtain⟨ad',cp',rfl⟩:=ja1 r1;have K6:jag (fun z=>(Value.slice ad n cp).ownBlock=some z) W2 w6:=((jag.refl _ W2).alloc _).trans r2;have nO:∀ z,z < b+5→¬(Value.slice ad n cp).ownBlock=some z:=(fun z hz e=>by have:=H4.o z e;omega);have hV6:=HV2.o.keeps K6 (nO _ (by omega));have q56:w6.cell? ⟨b+2,0,none⟩=some (.slice ad n cp):=hV6.cell (i:=0) (by rfl);have f56:w6.frozen? ⟨b+2,0,none⟩=false:=hV6.frozen;have K7:jag (fun z=>z=b+2) w6 (w6.setCell ⟨b+2,0,none⟩ (.slice ad' (n+1) cp')):=jag.oneSet w6 ⟨b+2,0,none⟩ _;have C57:=(HC5.o.keeps K6 (nO _ (by omega))).keeps K7 (by omega);have q57:=C57.cell (i:=0) (v:=.map (some bg)) (by rfl);have E7:Ext w0 (w6.setCell ⟨b+2,0,none⟩ (.slice ad' (n+1) cp')):=(HE2.o.trans' K6 (fun y hy e=>by have:=H4.o y e;have:=HLO.o;omega)).trans' K7 (fun y hy e=>by have e:y=_:=e;have:=HLO.o;omega);have hlkg:=(HGM.o _ E7).look x false;rw[HGY.o]at hlkg;unfold ptrO at hlkg;simp only[Bool.false_eq_true,if_false]at hlkg)
   go_ret
   refine⟨rfl,E7,HLO.o,(HC3.o.keeps K6 (nO _ (by omega))).keeps K7 (by omega),C57,(HC9.o.keeps K6 (nO _ (by omega))).keeps K7 (by omega),?_,.slice ad' (n+1) cp',n+1,hV6.set_same (i:=0) _,?_,?_,?_⟩
   ·obtain⟨es3,ck3,hT1,hT2⟩:=HTAB.o
    exact⟨es3,ck3,(hT1.keeps K6 (nO _ (by omega))).keeps K7 (by omega),hT2⟩
   ·rw[HFE.o,List.map_append]
    refine ja7 r1 K7 (fun z hz e=>?_);have e:z=b+2:=e;rcases r3 with r3 | r3
    ·have:=H4.o z (r3 ▸ hz);omega
    ·have h9:=r3 z hz;rw[World.size_alloc]at h9;have:=HV2.o.lt;omega
   ·have:=H3.o;rw[List.length_append];exact Nat.succ_le_succ this
   ·intro z hz
    rcases r3 with r3 | r3
    ·exact H4.o z (r3 ▸ hz)
    ·have h9:=r3 z hz;rw[World.size_alloc]at h9;have:=HC9.o.lt;omega
 ·have hc1:¬((cn:Int)+1≤1):=by omega
  have HFE:=Hd (show frK S (M++[x])=frK S M by rw[HFS.o,HMEM.o.2 hc0];rfl);go_enter Tryz.func136,Tryz.ntmps136;go_wp2_with fail
  go_ret
  exact⟨rfl,HEND.o HFE.o⟩
end
end Go.Proofs.YtcpnjmcipainpaaGreatDoor
