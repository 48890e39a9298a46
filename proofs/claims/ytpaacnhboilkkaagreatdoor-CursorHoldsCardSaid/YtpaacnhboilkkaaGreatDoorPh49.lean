import Derived.Test.YtpaacnhboilkkaaGreatDoorPh40
import Derived.Test.YtpaacnhboilkkaaGreatDoorPh42
import Derived.Test.YtpaacnhboilkkaaGreatDoorPh48
namespace Go.Proofs.YtpaacnhboilkkaaGreatDoor
set_option linter.unusedSimpArgs false
set_option linter.unusedVariables false
set_option maxRecDepth 100000
set_option maxHeartbeats 16000000
section
open Go Go.RowKit
attribute [local go_sem] Oper.semAt_some
def HlR(w1:World)(z:Nat)(l:List Pair)(S:List Nd5)(s bm cx cy:Nat)(fr:ByteArray)(E:List Pair)(m:Nat)(iv:Value)(wr:World):Prop:=
 ∃ (i:Nat) (S':List Nd5) (vx vy:Value),i≤50∧iv=.int .i64 ((i:Nat):Int)∧(i≤m→S'=S)∧HlS w1 z s bm cx cy fr l S' (jaP (E.drop i)) (jaP (E.drop i)) vx vy wr
theorem jqx(E:List Pair)(i:Nat)(hE:∀ p∈E,p.1.size≤6):∃ ax ay ok,jjk (E.drop i)=.tuple #[.agg #[.string ax,.string ay],.bool ok]∧ax.size≤6:=by
 cases h:E.drop i with
 | nil=>exact⟨_,_,_,rfl,by decide⟩
 | cons q r =>
  have:q∈E:=List.mem_of_mem_drop (i:=i) (by rw[h];exact List.mem_cons_self)
  exact⟨_,_,_,rfl,hE q this⟩
theorem nx_c{w1 W:World}{z s bm cx cy:Nat}{fr:ByteArray}{l E:List Pair}{S:List Nd5}{Ry:List Pair}{vx vy:Value}{i:Nat}(h:HlS w1 z s bm cx cy fr l S (jaP (E.drop i)) Ry vx vy W)(hf:fr.size≤1000000){ax ay:ByteArray}{ok:Bool}(hn:jjk (E.drop i)=.tuple #[.agg #[.string ax,.string ay],.bool ok])(n:Nat)(h1:cx < n)(h2:∀ b,vx.ownBlock=some b→b < n) :
  Calls Tryz.prog 46 #[.pointer (some ⟨cx,0,none⟩)] W fun e w'=>e=.returned (.tuple #[.agg #[.string ax,.string ay],.bool ok])∧∃ vx',HlS w1 z s bm cx cy fr l S (jaP (E.drop (i+1))) Ry vx' vy w'∧jac (fun b=>b < n) W w':=
 (jgu W cx s bm 2000 S fr (jaP (E.drop i)) vx hf h.x h.st).mono fun e w' ⟨he,v',hT⟩=>by
  have hL:=h.next hT;rw[jfq,List.tail_drop]at hL
  refine⟨by rw[he,jdE,hn],v',hL,hT.kp.1.mono fun b _ e=>?_⟩
  rcases e with e | e
  ·show b < n;omega
  ·exact h2 b e
theorem sk_c{w1 W:World}{z s bm cx cy:Nat}{fr:ByteArray}{l:List Pair}{S:List Nd5}{Rx Ry:List Pair}{vx vy:Value}(h:HlS w1 z s bm cx cy fr l S Rx Ry vx vy W){rt:ByteArray}(hr:rt=rootM l)(ax:ByteArray)(ha:ax.size≤6) :
  Calls Tryz.prog 45 #[.pointer (some ⟨s,0,none⟩),.string rt,.string ax] W fun e w'=>∃ c,e=.returned (.tuple #[.pointer (some ⟨c,0,none⟩),.int .i64 0])∧Ext W w':=by
 rw[hr];refine (jh1 W s bm 2000 S ax l (by omega) h.has h.st).mono ?_;rintro e w' ⟨c,v,h1,_,_,h2,_⟩
 exact⟨c,h1,h2⟩
theorem jfk(w:World)(x y:ByteArray):(Instr.loadAt 72 (.pointer (some ⟨w.heap.size,0,none⟩))).run Tryz.prog (w.alloc (.cells #[.string x,.string y] 72))=.ok (.agg #[.string x,.string y]) (w.alloc (.cells #[.string x,.string y] 72)):=by
 have hB:Blk (w.alloc (.cells #[.string x,.string y] 72)) w.heap.size (.cells #[.string x,.string y] 72):=Blk.new w _;exact jcB (b:=w.heap.size) (o:=0) (hB.cell (i:=0) (by rfl)) (hB.cell (i:=1) (by rfl))
theorem jfm(x y:ByteArray)(w:World):(binOp .neq 72 (.agg #[.string x,.string y]) (.agg #[.string x,.string y])).run Tryz.prog w=.ok (.bool (!true)) w:=by
 have h:=jsH x y x y w
 rwa [show (x == x && y == y)=true from(juy (x,y) (x,y)).2 rfl]at h
theorem j0l{u w:World}{n:Nat}(x y:ByteArray)(hB:Blk u n (.cells #[.string x,.string y] 72))(hK:jac (fun b=>b < n) u w):(Instr.loadAt 72 (.pointer (some ⟨n,0,none⟩))).run Tryz.prog (w.alloc (.cells #[.string x,.string y] 72))=.ok (.agg #[.string x,.string y]) (w.alloc (.cells #[.string x,.string y] 72)):=by
 have h:=(hB.keeps hK (Nat.lt_irrefl _)).keeps ((ExtR w).alloc (.cells #[.string x,.string y] 72)) (fun h=>h)
 exact jcB (b:=n) (o:=0) (h.cell (i:=0) (by rfl)) (h.cell (i:=1) (by rfl))
theorem juK(w:World)(hc:jch w)(he:ErrT w)(v u:Value)(l:List Pair)(cs:List Chg)(hv:RdP w v l)(hn:l.length≤9223372036854775807)(hs:joK l)(fr:ByteArray)(hfr:fr.size≤9223372036854775807)(hu:RdC w u cs)(hnc:cs.length≤9223372036854775807)(hsc:∀ c∈cs,c.key.size≤9223372036854775807∧c.value.size≤9223372036854775807)(a8:Nat)(ha8:a8 < 256) :
  Calls Tryz.prog 11 #[v,.string fr,u,.int .u8 a8] w fun e w'=>e=.returned (.bool true)∧Ext w w':=by
 have HC:=Hd hc;have EE:=Hd he;have HV:=Hd hv;have HU:=Hd hu;have HS:=Hd (And.intro hs hsc);have HN:=Hd (And.intro hn hnc)
 obtain⟨ad,c,hsl⟩:=hv.sl
 subst hsl
 obtain⟨ad2,c2,hsl⟩:=hu.sl
 subst hsl;clear hc hv hs hn he hu hnc hsc;go_enter Tryz.func11,Tryz.ntmps11;go_wp2_with fail
 refine (jto w HC.o EE.o).mono ?_;rintro e w1 ⟨rfl,hE⟩;have HE1:=Hd hE;clear hE;go_wp2_with fail
 refine (jmP w1 (HC.o.ext HE1.o) (EE.o.ext HE1.o) _ l (HV.o.ext HE1.o) HN.o.1 HS.o.1).mono ?_;rintro e w2 (⟨rfl,hE,hno⟩ |⟨s,bm,S,rfl,hH⟩)
 ·have HE2:=Hd (HE1.o.trans hE)
  clear hE hno;go_wp2_with fail
  refine (jtE w2 _ cs (HU.o.ext HE2.o) HN.o.2 HS.o.2).mono ?_;rintro e w3 ⟨rfl,hE⟩;have HE3:=Hd (HE2.o.trans hE);clear hE HE2;go_wp2_with fail
  go_ret
  exact⟨rfl,HE3.o⟩
 have HH:=Hd hH;have HX2:=Hd hH.ext;have HM:=Hd hH.has
 obtain⟨rt,hrt⟩:∃ rt,rt=rootM l:=⟨_,rfl⟩
 have RT:=Hd hrt;rw[show shaB (jaT l).text=rootM l from rfl, ←hrt];clear hH hrt;go_wp2_with fail
 refine (jtE w2 _ cs (HU.o.ext (HE1.o.trans HX2.o)) HN.o.2 HS.o.2).mono ?_;rintro e w3 ⟨rfl,hE⟩;have HX3:=Hd hE;have HE3:=Hd ((HE1.o.trans HX2.o).trans hE);clear hE;cases hfc:fewC cs with
 | false =>
  go_wp2_with fail
  go_ret
  exact⟨rfl,HE3.o⟩
 | true =>
 clear hfc
 by_cases hf50:fr.size≤50
 case neg =>
  have b0:(50:Int) < (fr.size:Int):=by omega
  go_wp2_with fail
  go_ret
  exact⟨rfl,HE3.o⟩
 have b0:¬(50:Int) < (fr.size:Int):=by omega
 go_wp2_with fail
 obtain⟨E,hEd⟩:∃ E,E=jgE fr l:=⟨_,rfl⟩
 have HED:=Hd hEd;have HE6:=Hd (show ∀ p∈E,p.1.size≤6 from fun p hp=>by
  rw[hEd]at hp
  have:=(jaM HM.o.ok).size p (List.mem_filter.1 hp).1
  omega)
 have PS:=Hd (show (jbc fr).size≤1000000 from by rw[jb9];omega);have hsk:=jh1 w3 s bm 2000 S fr l (by omega) HM.o (HH.o.st.ext HX3.o);rw[show shaB (jaT l).text=rootM l from rfl, ←RT.o]at hsk;refine hsk.mono ?_;rintro e w4 ⟨cx,vx,rfl,hx1,hx2,hE,hCx⟩;rw[jeh, ←HED.o]at hCx;have HX4:=Hd (HX3.o.trans hE);have HCX:=Hd hCx;have NX:=Hd (And.intro hx1 (And.intro hx2 hCx.lt));clear hsk hx1 hx2 hE hCx;go_wp2_with fail
 have hsk:=jh1 w4 s bm 2000 S fr l (by omega) HM.o (HH.o.st.ext HX4.o);rw[show shaB (jaT l).text=rootM l from rfl, ←RT.o]at hsk;refine hsk.mono ?_;rintro e w5 ⟨cy,vy,rfl,hy1,hy2,hE,hCy⟩;rw[jeh, ←HED.o]at hCy;have HX5:=Hd (HX4.o.trans hE);have HCY:=Hd hCy;have HC5:=Hd (HCX.o.ext hE);have HTW:=Hd (show Two w2.heap.size cx vx cy vy from by
  have h1:=NX.o;have h2:=HX4.o.size;have h3:=HX3.o.size
  exact⟨by omega,fun k=>by have:=h1.2.2.2 _ k;omega,fun k=>by have:=hy2 _ k;omega,fun b k1 k2=>by have:=h1.2.2.2 _ k1;have:=hy2 _ k2;omega,⟨by omega,fun b k=>by have:=h1.2.1 b k;omega⟩,⟨by omega,fun b k=>by have:=hy2 b k;omega⟩⟩)
 clear hsk hy1 hy2 hE hCy hEd HCX NX;go_wp2_with fail
 obtain⟨m,hm⟩:∃ m,m=a8 % 8:=⟨_,rfl⟩
 have hm8:(a8:Int) % 8=(m:Int):=by omega
 have HMM:=Hd hm;clear hm
 obtain⟨z,hz⟩:∃ z,z=w2.heap.size:=⟨_,rfl⟩
 have HL0:=Hd (show HlS w1 z s bm cx cy (jbc fr) l S (jaP (E.drop 0)) (jaP (E.drop 0)) vx vy w5 from⟨HX2.o.trans HX5.o,HH.o.st.ext HX5.o,HM.o,HC5.o,HCY.o,by rw[hz];exact HTW.o,by rw[hz];exact HX2.o.size,by rw[hz];exact HX5.o.size⟩);have HZ:=Hd hz;clear hz HTW HC5 HCY HX5 HX4 HX3 HE3 HX2;go_loopw [17] (fun iv wr=>HlR w1 z l S s bm cx cy (jbc fr) E m iv wr) (fun iv _=>50 - (intOf iv).toNat)
 case atStart=>exact⟨0,S,vx,vy,by omega,rfl,fun _=>rfl,HL0.o⟩
 case round =>
  obtain⟨i,S',vx',vy',hi,rfl,hSS,hL⟩:=hrel
  have HL:=Hd hL;have HSS:=Hd hSS;clear hL hSS
  by_cases hlt:i < 50
  case neg =>
   have b1:¬(i:Int) < 50:=by omega
   go_wp2_with fail
   go_ret
   exact⟨rfl,HE1.o.trans HL.o.ext⟩
  have b1:(i:Int) < 50:=by omega
  obtain⟨ax,ay,ok,hnx,hax⟩:=jqx E i HE6.o
  have NX:=Hd hnx;have AX:=Hd hax;clear hnx hax
  by_cases him:i=m
  ·subst him
   have hS:S'=S:=HSS.o (Nat.le_refl _);subst hS;have b2:((i:Int) ==(i:Int))=true:=by simp
   go_wp2_with fail
   have hCO:=jrX wr (HC.o.ext (HE1.o.trans HL.o.ext)) (EE.o.ext (HE1.o.trans HL.o.ext)) s bm 2000 S' HL.o.st (HH.o.kp.nodes (jl8 HM.o.ok)) l HM.o _ cs (HU.o.ext (HE1.o.trans HL.o.ext)) HN.o.2 HS.o.2 (by decide) (by decide) (HH.o.tst.bds (by decide)).1 (HH.o.tst.bds (by decide)).2.1 (HH.o.tst.bds (by decide)).2.2;rw[←RT.o]at hCO;refine hCO.mono ?_;clear hCO;rintro e wc (⟨hk,rfl,hE⟩ |⟨hk,wa,hEa,⟨k,_,hk0,rfl,hE⟩ |⟨top,G,M,htop,hY⟩⟩)
   ·have HL:=Hd (HL.o.grow hE)
    have hk2:(jbX l cs == 0)=false:=by simpa using hk
    clear hE;go_wp2_with fail
    refine (nx_c HL.o PS.o NX.o _ HL.o.x.lt.1 HL.o.x.lt.2).mono ?_;rintro e w6 ⟨rfl,xp,l2,_⟩;have L2:=Hd l2;clear l2;go_wp2_with fail
    refine (sk_c (L2.o.grow ((ExtR w6).alloc _)) RT.o ax AX.o).mono ?_;rintro e w8 ⟨cz,rfl,hE⟩;have L4:=Hd ((L2.o.grow ((ExtR w6).alloc _)).grow hE);have Q8:=Hd ((Blk.new w6 _).keeps hE (fun h=>h));clear hE;go_wp2_with fail
    refine (nx_c L4.o.swap PS.o NX.o w6.heap.size L2.o.y.lt.1 L2.o.y.lt.2).mono ?_;rintro e w9 ⟨rfl,yp,l5,hK⟩;have L6:=Hd (l5.swap.grow ((ExtR w9).alloc (.cells #[.string ax,.string ay] 72)));have p1:=j0l ax ay Q8.o hK;have p2:=jfk w9 ax ay;have p3:=jfm ax ay;clear l5 hK;go_wp2_with (first |(refine jae 72 (.tmp 20) rfl rfl _ _ rfl p1 ?_) |(refine jae 72 (.tmp 24) rfl rfl _ _ rfl p2 ?_) |(refine jcO (.tmp 120) (.tmp 121) rfl rfl _ _ _ rfl rfl (by kernel_rfl) (p3 _) ?_))
    go_roundw
    case rel=>exact⟨i+1,S',xp,yp,by omega,by go_num,fun h=>absurd h (by omega),L6.o⟩
    case measure=>simp[intOf];omega
   ·have HL:=Hd ((HL.o.grow hEa).grow hE)
    have hk2:(k == 0)=false:=by simpa using hk0
    clear hE hEa;go_wp2_with fail
    refine (nx_c HL.o PS.o NX.o _ HL.o.x.lt.1 HL.o.x.lt.2).mono ?_;rintro e w6 ⟨rfl,xp,l2,_⟩;have L2:=Hd l2;clear l2;go_wp2_with fail
    refine (sk_c (L2.o.grow ((ExtR w6).alloc _)) RT.o ax AX.o).mono ?_;rintro e w8 ⟨cz,rfl,hE⟩;have L4:=Hd ((L2.o.grow ((ExtR w6).alloc _)).grow hE);have Q8:=Hd ((Blk.new w6 _).keeps hE (fun h=>h));clear hE;go_wp2_with fail
    refine (nx_c L4.o.swap PS.o NX.o w6.heap.size L2.o.y.lt.1 L2.o.y.lt.2).mono ?_;rintro e w9 ⟨rfl,yp,l5,hK⟩;have L6:=Hd (l5.swap.grow ((ExtR w9).alloc (.cells #[.string ax,.string ay] 72)));have p1:=j0l ax ay Q8.o hK;have p2:=jfk w9 ax ay;have p3:=jfm ax ay;clear l5 hK;go_wp2_with (first |(refine jae 72 (.tmp 20) rfl rfl _ _ rfl p1 ?_) |(refine jae 72 (.tmp 24) rfl rfl _ _ rfl p2 ?_) |(refine jcO (.tmp 120) (.tmp 121) rfl rfl _ _ _ rfl rfl (by kernel_rfl) (p3 _) ?_))
    go_roundw
    case rel=>exact⟨i+1,S',xp,yp,by omega,by go_num,fun h=>absurd h (by omega),L6.o⟩
    case measure=>simp[intOf];omega
   ·have hlenL:=jqv (S:=S') (jfD hk)
    obtain⟨d1,d2,d3,d4⟩:=hY.dropOk HH.o hlenL
    have h:=HL.o;rw[HZ.o]at h;have h2:=HlS.add HH.o h hEa hY;rw[←HZ.o]at h2;have HLA:=Hd h2;have HLO:=Hd h;have HY:=Hd hY;have HD:=Hd (And.intro d1 (And.intro d2 (And.intro d3 d4)));have HEA:=Hd hEa;have hres:=hY.res;subst hres;clear hlenL d1 d2 d3 d4 h h2 hY hEa htop
    obtain⟨S2,hS2⟩:∃ S2,S2=addS S' G M top:=⟨_,rfl⟩
    have HS2:=Hd hS2
    obtain⟨tk,htk⟩:∃ tk,tk=shaB top:=⟨_,rfl⟩
    have HTK:=Hd htk;rw[←hS2]at HLA HD;rw[←htk];clear hS2 htk
    by_cases hpar:(i:Int) % 2=0
    ·have b3:((i:Int) % 2 == 0)=true:=by simpa using hpar
     go_wp2_with fail
     refine (jsc _ s bm 2000 S2 HLA.o.st HD.o.1 HD.o.2.1 HD.o.2.2.1 HD.o.2.2.2 tk).mono ?_;rintro e wd (⟨_,rfl,hE⟩ |⟨S3,y,hy,_,rfl,hDY⟩)
     ·have HL:=Hd (HLA.o.grow hE)
      clear hE;go_wp2_with fail
      refine (nx_c HL.o PS.o NX.o _ HL.o.x.lt.1 HL.o.x.lt.2).mono ?_;rintro e w6 ⟨rfl,xp,l2,_⟩;have L2:=Hd l2;clear l2;go_wp2_with fail
      refine (sk_c (L2.o.grow ((ExtR w6).alloc _)) RT.o ax AX.o).mono ?_;rintro e w8 ⟨cz,rfl,hE⟩;have L4:=Hd ((L2.o.grow ((ExtR w6).alloc _)).grow hE);have Q8:=Hd ((Blk.new w6 _).keeps hE (fun h=>h));clear hE;go_wp2_with fail
      refine (nx_c L4.o.swap PS.o NX.o w6.heap.size L2.o.y.lt.1 L2.o.y.lt.2).mono ?_;rintro e w9 ⟨rfl,yp,l5,hK⟩;have L6:=Hd (l5.swap.grow ((ExtR w9).alloc (.cells #[.string ax,.string ay] 72)));have p1:=j0l ax ay Q8.o hK;have p2:=jfk w9 ax ay;have p3:=jfm ax ay;clear l5 hK;go_wp2_with (first |(refine jae 72 (.tmp 20) rfl rfl _ _ rfl p1 ?_) |(refine jae 72 (.tmp 24) rfl rfl _ _ rfl p2 ?_) |(refine jcO (.tmp 120) (.tmp 121) rfl rfl _ _ _ rfl rfl (by kernel_rfl) (p3 _) ?_))
      go_roundw
      case rel=>exact⟨i+1,S2,xp,yp,by omega,by go_num,fun h=>absurd h (by omega),L6.o⟩
      case measure=>simp[intOf];omega
     ·rw[HS2.o]at hDY hy
      rw[HTK.o]at hy;have h3:=HlS.drop HH.o HLO.o HEA.o HY.o (jac.refl _ _) hDY hy;rw[←HZ.o]at h3;have HL:=Hd h3;clear h3 hDY hy;go_wp2_with fail
      refine (nx_c HL.o PS.o NX.o _ HL.o.x.lt.1 HL.o.x.lt.2).mono ?_;rintro e w6 ⟨rfl,xp,l2,_⟩;have L2:=Hd l2;clear l2;go_wp2_with fail
      refine (sk_c (L2.o.grow ((ExtR w6).alloc _)) RT.o ax AX.o).mono ?_;rintro e w8 ⟨cz,rfl,hE⟩;have L4:=Hd ((L2.o.grow ((ExtR w6).alloc _)).grow hE);have Q8:=Hd ((Blk.new w6 _).keeps hE (fun h=>h));clear hE;go_wp2_with fail
      refine (nx_c L4.o.swap PS.o NX.o w6.heap.size L2.o.y.lt.1 L2.o.y.lt.2).mono ?_;rintro e w9 ⟨rfl,yp,l5,hK⟩;have L6:=Hd (l5.swap.grow ((ExtR w9).alloc (.cells #[.string ax,.string ay] 72)));have p1:=j0l ax ay Q8.o hK;have p2:=jfk w9 ax ay;have p3:=jfm ax ay;clear l5 hK;go_wp2_with (first |(refine jae 72 (.tmp 20) rfl rfl _ _ rfl p1 ?_) |(refine jae 72 (.tmp 24) rfl rfl _ _ rfl p2 ?_) |(refine jcO (.tmp 120) (.tmp 121) rfl rfl _ _ _ rfl rfl (by kernel_rfl) (p3 _) ?_))
      go_roundw
      case rel=>exact⟨i+1,S3,xp,yp,by omega,by go_num,fun h=>absurd h (by omega),L6.o⟩
      case measure=>simp[intOf];omega
    ·have b3:((i:Int) % 2 == 0)=false:=by simpa using hpar
     have HL:=HLA;go_wp2_with fail
     refine (nx_c HL.o PS.o NX.o _ HL.o.x.lt.1 HL.o.x.lt.2).mono ?_;rintro e w6 ⟨rfl,xp,l2,_⟩;have L2:=Hd l2;clear l2;go_wp2_with fail
     refine (sk_c (L2.o.grow ((ExtR w6).alloc _)) RT.o ax AX.o).mono ?_;rintro e w8 ⟨cz,rfl,hE⟩;have L4:=Hd ((L2.o.grow ((ExtR w6).alloc _)).grow hE);have Q8:=Hd ((Blk.new w6 _).keeps hE (fun h=>h));clear hE;go_wp2_with fail
     refine (nx_c L4.o.swap PS.o NX.o w6.heap.size L2.o.y.lt.1 L2.o.y.lt.2).mono ?_;rintro e w9 ⟨rfl,yp,l5,hK⟩;have L6:=Hd (l5.swap.grow ((ExtR w9).alloc (.cells #[.string ax,.string ay] 72)));have p1:=j0l ax ay Q8.o hK;have p2:=jfk w9 ax ay;have p3:=jfm ax ay;clear l5 hK;go_wp2_with (first |(refine jae 72 (.tmp 20) rfl rfl _ _ rfl p1 ?_) |(refine jae 72 (.tmp 24) rfl rfl _ _ rfl p2 ?_) |(refine jcO (.tmp 120) (.tmp 121) rfl rfl _ _ _ rfl rfl (by kernel_rfl) (p3 _) ?_))
     go_roundw
     case rel=>exact⟨i+1,S2,xp,yp,by omega,by go_num,fun h=>absurd h (by omega),L6.o⟩
     case measure=>simp[intOf];omega
  ·have b2:((i:Int) ==(m:Int))=false:=by simp;omega
   go_wp2_with fail
   refine (nx_c HL.o PS.o NX.o _ HL.o.x.lt.1 HL.o.x.lt.2).mono ?_;rintro e w6 ⟨rfl,xp,l2,_⟩;have L2:=Hd l2;clear l2;go_wp2_with fail
   refine (sk_c (L2.o.grow ((ExtR w6).alloc _)) RT.o ax AX.o).mono ?_;rintro e w8 ⟨cz,rfl,hE⟩;have L4:=Hd ((L2.o.grow ((ExtR w6).alloc _)).grow hE);have Q8:=Hd ((Blk.new w6 _).keeps hE (fun h=>h));clear hE;go_wp2_with fail
   refine (nx_c L4.o.swap PS.o NX.o w6.heap.size L2.o.y.lt.1 L2.o.y.lt.2).mono ?_;rintro e w9 ⟨rfl,yp,l5,hK⟩;have L6:=Hd (l5.swap.grow ((ExtR w9).alloc (.cells #[.string ax,.string ay] 72)));have p1:=j0l ax ay Q8.o hK;have p2:=jfk w9 ax ay;have p3:=jfm ax ay;clear l5 hK;go_wp2_with (first |(refine jae 72 (.tmp 20) rfl rfl _ _ rfl p1 ?_) |(refine jae 72 (.tmp 24) rfl rfl _ _ rfl p2 ?_) |(refine jcO (.tmp 120) (.tmp 121) rfl rfl _ _ _ rfl rfl (by kernel_rfl) (p3 _) ?_))
   go_roundw
   case rel=>exact⟨i+1,S',xp,yp,by omega,by go_num,fun h=>HSS.o (by omega),L6.o⟩
   case measure=>simp[intOf];omega
end
end Go.Proofs.YtpaacnhboilkkaaGreatDoor
