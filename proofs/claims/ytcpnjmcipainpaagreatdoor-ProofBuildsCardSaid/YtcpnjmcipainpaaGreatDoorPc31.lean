/- Parts of the proof, one behind the other: PrfK, PrfL, RefPn, RefQa, RefQb, AppK, RefQc, RefPa, RefPo, RefQd, RefQe, RefPf, RefPg, RefPh, EqlP. Each is under no condition but those that it states. -/
import Derived.Test.YtcpnjmcipainpaaGreatDoorPc30
import Derived.Test.YtcpnjmcipainpaaGreatDoorPc24
import Derived.Test.YtcpnjmcipainpaaGreatDoorPc6
import Derived.Test.YtcpnjmcipainpaaGreatDoorPc7
import Derived.Test.YtcpnjmcipainpaaGreatDoorPc15
import Derived.Test.YtcpnjmcipainpaaGreatDoorPc3
import Derived.Test.YtcpnjmcipainpaaGreatDoorPc17
import Derived.Test.YtcpnjmcipainpaaGreatDoorPc4
import Derived.Test.YtcpnjmcipainpaaGreatDoorPc10
import Derived.Test.YtcpnjmcipainpaaGreatDoorPc8
import Derived.OwnWalk
namespace Go.Proofs.YtcpnjmcipainpaaGreatDoor
set_option linter.unusedSimpArgs false
set_option linter.unusedVariables false
set_option maxRecDepth 100000
set_option maxHeartbeats 16000000
section
open Go Go.RowKit
attribute [local go_sem] Oper.semAt_some
theorem jlh(k:ByteArray)(q:Pair)(l:List Pair):jfe k (q :: l)=if q.1=k then some 0 else (jfe k l).map (·+1):=by
 unfold jfe;rw[List.findIdx?_cons]
 by_cases h:q.1=k
 ·subst h;simp
 ·rw[if_neg h];simp[jcP h]
theorem jj9(k:ByteArray):∀ l:List Pair,jdG l k=valL l k
 | []=>rfl
 | q :: l=>by
  have ih:=jj9 k l;unfold jdG at ih ⊢;unfold valL;rw[jlh]
  by_cases h:q.1=k
  ·rw[if_pos h,if_pos h];rfl
  ·rw[if_neg h,if_neg h, ←ih,Option.map_map]
   cases jfe k l <;> rfl
theorem jh5(l:List Pair)(key:ByteArray):1≤(wayN l key).length∧(wayN l key).length≤13:=by
 have:=jjQ 12 (ja3 l) (jbe key)
 unfold wayN;rw[List.length_cons];omega
theorem jgq(w:World){l:List Pair}(h:ja6 l=0)(key:ByteArray):proveR (shaB (ja5 l).text) key (wayN l key)=(jdG l key,true):=by
 obtain⟨h1,h2⟩:=jm8 w 12 (ja3 l) (jbe key) (jdu (jbS h)) (jkt key)
 have h1:proveN (shaB (ja5 l).text) (jbe key) (wayN l key)=(visL 12 (ja3 l) (jbe key),[],true):=h1
 have:=jh5 l key
 unfold proveR;rw[if_neg (by omega),h1,h2,jo7,jj9];rfl
theorem jh6(w:World){l:List Pair}(h:ja6 l=0)(key:ByteArray):jc5 w (wayN l key):=by
 have hr:=jdu (jbS h);intro t ht;unfold wayN at ht;rcases List.mem_cons.1 ht with e | ht
 ·rw[e];exact .inl ⟨jay (jad 12) (ja3 l),rfl,12,(good 12 _ hr).1⟩
 ·obtain⟨g,m,hW⟩:=jpt 12 _ _ hr (jkt key) t ht
  rw[hW.text];exact .inl ⟨jay (jad g) m,rfl,g,(good g _ hW.rows).1⟩
noncomputable def extN(l:List Pair)(key:ByteArray)(nodes:List ByteArray):Option (ByteArray × ByteArray):=
 if ja6 l≠0 then none
 else if (proveR (shaB (ja5 l).text) key nodes).2=true∧(proveR (shaB (ja5 l).text) key nodes).1≠jdG l key then jgW nodes (jcf l)else none
theorem jmt(W:World)(hc:jbO W):Calls Tryz.prog 67 #[] W fun e w'=>e=.returned (.string (shaB (ja5 []).text))∧Ext W w':=by
 have HR:=Hd (jnn W (.slice none 0 0) [] hc (.inl ⟨none,0,rfl,rfl⟩) (by decide +kernel))
 obtain⟨r,hr⟩:∃ r,r=shaB (ja5 []).text:=⟨_,rfl⟩
 rw[←hr]at HR ⊢;clear hc hr;go_enter Tryz.func67,Tryz.ntmps67;go_wp2_with fail
 refine HR.o.mono ?_;rintro e w1 ⟨rfl,hE⟩;have HE:=Hd hE;clear hE;go_wp2_with fail
 go_ret
 exact⟨rfl,HE.o⟩
theorem jjv(W:World)(v u:Value)(l:List Pair)(key:ByteArray)(hv:RdP W v l)(hn:l.length≤9223372036854775807)(hs:jjT l)(h:ja6 l≠0) :
  Calls Tryz.prog 105 #[v,.string key,u] W fun e w'=>e=.returned (jeD none)∧Ext W w':=by
 have hR:=joP W v l hv hn hs h
 obtain⟨a,c,hsl⟩:=hv.sl
 subst hsl
 obtain⟨x,hx⟩:∃ x,x=ja6 l:=⟨_,rfl⟩
 rw[←hx]at h hR;have hne:(x != 0)=true:=by simpa using h
 have HR:=Hd hR;clear hR hv hx hs;go_enter Tryz.func105,Tryz.ntmps105;go_wp2_with fail
 refine HR.o.mono ?_;rintro e w1 ⟨rfl,hE⟩;have HE:=Hd hE;clear hE;go_wp2_with fail
 go_ret3
 exact⟨rfl,HE.o⟩
def jr5(w5:World)(xs ys:List ByteArray)(v:Value)(wr:World):Prop:=∃ i:Nat,i≤xs.length∧v=.int .i64 i∧Ext w5 wr∧(xs.take i).findSome? (jdo ys)=none
def jqS(w5:World)(x:ByteArray)(ys:List ByteArray)(v:Value)(wr:World):Prop:=∃ j:Nat,j≤ys.length∧v=.int .i64 j∧Ext w5 wr∧(ys.take j).find? (job x)=none
theorem jlb(W:World)(hc:jbO W)(v u:Value)(l:List Pair)(key:ByteArray)(nodes:List ByteArray)(hv:RdP W v l)(hu:RdS W u nodes)(hk:key.size≤1000)(hn:nodes.length≤1000000)(hG:jc5 W nodes)(h:ja6 l=0) :
  Calls Tryz.prog 105 #[v,.string key,u] W fun e w'=>e=.returned (jeD (extN l key nodes))∧Ext W w':=by
 have hll:l.length≤1000000:=Nat.le_trans (jbS h).len (by decide)
 obtain⟨R,hR0⟩:∃ R,R=jeD (extN l key nodes):=⟨_,rfl⟩
 rw[←hR0]
 obtain⟨⟨o,b⟩,hr⟩:∃ r,r=proveR (shaB (ja5 l).text) key nodes:=⟨_,rfl⟩
 obtain⟨f,hf⟩:∃ f,f=jdG l key:=⟨_,rfl⟩
 have hR0:R=jeD (if b=true∧o≠f then jgW nodes (jcf l)else none):=by
  rw[hR0];unfold extN;rw[if_neg (fun hh=>hh h), ←hr, ←hf]
 have HR0:=Hd hR0;have HRT:=Hd (jnn W v l hc hv h);have HVF:=Hd (fun w (e:Ext W w)=>jeY w (hc.ext e) (shaB (ja5 l).text) key hk u nodes (hu.ext e) (hG.ext e));have HHO:=Hd (fun w (e:Ext W w)=>jgh w v l key o (hv.ext e) hll);have HND:=Hd (fun w (e:Ext W w)=>jkq w v l (hc.ext e) (hv.ext e) h);rw[←hr]at HVF;rw[←hf]at HHO
 obtain⟨rt,hrt⟩:∃ rt,rt=shaB (ja5 l).text:=⟨_,rfl⟩
 rw[←hrt]at HRT HVF
 obtain⟨ys,hys⟩:∃ ys,ys=ja9 (jaF (ja5 l)):=⟨_,rfl⟩
 have hly:ys.length≤1000000:=by
  rw[hys];have a:=jd9 h;exact Nat.le_trans a (by decide)
 rw[←hys]at HND;have HYS:=Hd (show jcf l=ys from hys.symm);have HC:=Hd hc;have HU:=Hd hu
 obtain⟨a,c,hsl⟩:=hv.sl
 subst hsl
 obtain⟨a',c',hsl⟩:=jkw hu
 subst hsl;clear hc hv hu hk hG h hR0 hr hf hrt hys hll;go_enter Tryz.func105,Tryz.ntmps105;go_wp2_with fail
 refine HRT.o.mono ?_;rintro e w1 ⟨rfl,hE⟩;have HE1:=Hd hE;clear hE HRT;go_wp2_with fail
 refine (HVF.o w1 HE1.o).mono ?_;rintro e w2 ⟨rfl,hE⟩;have HE2:=Hd (HE1.o.trans hE);clear hE HE1 HVF;unfold verV;cases b with
 | false =>
  unfold clmV;go_wp2_with (first |(refine jai Tryz.allocClaim rfl rfl ?_;intro W3 hB3 hE3) |(refine jaf (old:=clmL none) (vs:=clmL none) rfl rfl rfl rfl hB3 (by rw[jaW]) (by rw[jaW];exact Tryz.szClaim) (jbk _) ?_;intro W4 hB4 hE4))
  go_ret3;have hX4:Ext w2 W4:=hE3.trans' hE4 (fun x hx e=>by have e:x=w2.heap.size:=e;omega)
  exact⟨by rw[HR0.o,if_neg (fun h=>by cases h.1)];rfl,HE2.o.trans hX4⟩
 | true =>
  unfold clmV;go_wp2_with (first |(refine jai Tryz.allocClaim rfl rfl ?_;intro W3 hB3 hE3) |(refine jaf (old:=clmL none) (vs:=clmL o) rfl rfl rfl rfl hB3 ((jaW none).trans (jaW o).symm) (by rw[jaW];exact Tryz.szClaim) (jbk _) ?_;intro W4 hB4 hE4;have HB4:=Hd hB4) |(refine jah 71 (.tmp 11) rfl rfl _ _ rfl (jbm HB4.o) ?_))
  have hX4:Ext w2 W4:=hE3.trans' hE4 (fun x hx e=>by have e:x=w2.heap.size:=e;omega);have HE4:=Hd (HE2.o.trans hX4);clear hB3 hE3 hB4 hE4 hX4;refine (HHO.o W4 HE4.o).mono ?_;rintro e w5 ⟨rfl,hE⟩;have HE5:=Hd (HE4.o.trans hE);clear hE HE4
  by_cases hof:o=f
  ·have hd:decide (o=f)=true:=decide_eq_true hof
   rw[hd];clear hd;have HOF:=Hd hof;clear hof;go_wp2_with fail
   go_ret3
   exact⟨by rw[HR0.o,if_neg (fun h=>h.2 HOF.o)];rfl,HE5.o⟩
  have hd:decide (o=f)=false:=decide_eq_false hof;rw[hd];have HR1:=Hd (show R=jeD (jgW nodes ys) by rw[HR0.o,if_pos ⟨trivial,hof⟩,HYS.o]);clear hd hof HR0;go_wp2_with fail
  refine (HND.o w5 HE5.o).mono ?_;rintro e w6 ⟨q,n,rfl,hRw⟩;have hrd:=hRw.rd;have HE6:=Hd (HE5.o.trans hRw.ext);have hln:ys.length=n:=by have:=hRw.len;simpa using this
  subst hln
  obtain⟨a3,c3,e3⟩:=hRw.sl
  subst e3;have HY6:=Hd hrd;have HX6:=Hd (HU.o.ext HE6.o);clear hRw hrd HE5 HND;go_wp2_with fail
  go_loopw [48] (fun i wr=>jr5 w6 nodes ys i wr) (fun i _=>nodes.length - (intOf i).toNat)
  case atStart=>exact⟨0,by omega,rfl,ExtR _,by simp⟩
  case round =>
   obtain⟨i,hi,rfl,hE,hall⟩:=hrel
   have HE:=Hd hE;have HALL:=Hd hall;clear hE hall
   by_cases hlt:i < nodes.length
   ·obtain⟨x,hx⟩:∃ x,nodes[i]?=some x:=⟨_,List.getElem?_eq_getElem hlt⟩
    obtain⟨a7,c7,hh,hcx⟩:=HX6.o.slice
    obtain⟨bx,ox,hax,hcx0⟩:=hcx i x hx
    obtain⟨e1,_,e3⟩:=Value.slice.inj hh
    rw[hax]at e1;subst e1;subst e3;have hq:=jab hcx0 HE.o;have HXI:=Hd hx;have b1:(i:Int) < (nodes.length:Int):=by omega
    clear hh hcx hcx0 hax hx;go_wp2_with fail
    clear hq;go_loopw [54] (fun j wr=>jqS w6 x ys j wr) (fun j _=>ys.length - (intOf j).toNat)
    case atStart=>exact⟨0,by omega,rfl,HE.o,by simp⟩
    case round =>
     obtain⟨j,hj,rfl,hF,hall2⟩:=hrel
     have HF:=Hd hF;have HALL2:=Hd hall2;clear hF hall2
     by_cases hlt2:j < ys.length
     ·obtain⟨y,hy⟩:∃ y,ys[j]?=some y:=⟨_,List.getElem?_eq_getElem hlt2⟩
      obtain⟨a8,c8,hh,hcx⟩:=HY6.o.slice
      obtain⟨by2,oy2,hax,hcx0⟩:=hcx j y hy
      obtain⟨e1,_,e3⟩:=Value.slice.inj hh
      rw[hax]at e1;subst e1;subst e3;have hq:=jab hcx0 HF.o;have HYJ:=Hd hy;have b2:(j:Int) < (ys.length:Int):=by omega
      clear hh hcx hcx0 hax hy;go_wp2_with fail
      clear hq;refine (jmh _ x y (HC.o.ext (HE6.o.trans HF.o))).mono ?_;rintro e w7 ⟨rfl,hE7⟩;have HE7:=Hd (HF.o.trans hE7);clear hE7
      obtain⟨cb,hcb⟩:∃ cb,cb=job x y:=⟨_,rfl⟩
      rw[show (decide (x≠y) && decide (shaB x=shaB y))=cb from hcb.symm];have HCB:=Hd hcb;clear hcb;cases cb with
      | true =>
       have HFND:=Hd (show R=jeD (some (x,y)) by
        rw[HR1.o,jmf HXI.o HALL.o (r:=(x,y)) (by unfold jdo;rw[jp2 HYJ.o HALL2.o HCB.o.symm];rfl)])
       go_wp2_with fail
       go_ret3
       exact⟨by rw[HFND.o];rfl,HE6.o.trans HE7.o⟩
      | false =>
       have HST:=Hd (jmz HYJ.o HALL2.o HCB.o.symm);go_wp2_with fail
       go_roundw
       case rel=>exact⟨j+1,by omega,by go_num,HE7.o,HST.o⟩
       case measure=>simp[intOf];omega
     ·have hjn:j=ys.length:=by omega
      have HST:=Hd (show (nodes.take (i+1)).findSome? (jdo ys)=none from jjp HXI.o HALL.o (by have h:=HALL2.o;rwa [hjn,List.take_length]at h));clear hjn;go_wp2_with fail
      go_roundw
      case rel=>exact⟨i+1,by omega,by go_num,HF.o,HST.o⟩
      case measure=>simp[intOf];omega
   ·have hin:i=nodes.length:=by omega
    have HFN:=Hd (show R=jeD none by
     rw[HR1.o];have h:=HALL.o;rw[hin,List.take_length]at h;unfold jgW;rw[h])
    clear hin;go_wp2_with fail
    go_ret3
    exact⟨by rw[HFN.o];rfl,HE6.o.trans HE.o⟩
theorem jmx(W:World)(hc:jbO W)(v u:Value)(l:List Pair)(key:ByteArray)(nodes:List ByteArray)(hv:RdP W v l)(hu:RdS W u nodes)(hk:key.size≤1000)(hl:l.length≤9223372036854775807)(hs:jjT l)(hn:nodes.length≤1000000)(hG:jc5 W nodes) :
  Calls Tryz.prog 105 #[v,.string key,u] W fun e w'=>e=.returned (jeD (extN l key nodes))∧Ext W w':=by
 by_cases h:ja6 l=0
 ·exact jlb W hc v u l key nodes hv hu hk hn hG h
 ·have e:extN l key nodes=none:=by unfold extN;rw[if_pos h]
  rw[e];exact jjv W v u l key hv hl hs h
def exW:List Pair:=[(⟨#[97]⟩,⟨#[49]⟩),(⟨#[98]⟩,⟨#[50]⟩)]
theorem jir:ja6 exW=0:=by decide +kernel
theorem jpY:fewB exW=true:=by decide +kernel
theorem jpZ:InjL (jcf exW):=by unfold InjL;decide +kernel
theorem jmu:ja6 []=0:=by decide +kernel
theorem jj7:wayN [] ⟨#[97]⟩=[⟨#[128]⟩]:=by decide +kernel
theorem jsw:jdG exW ⟨#[97]⟩=some ⟨#[49]⟩:=by decide +kernel
theorem jpX:jdG exW ⟨#[98]⟩=some ⟨#[50]⟩:=by decide +kernel
theorem jsv:jdG [] ⟨#[97]⟩=none:=by decide +kernel
theorem jkv(w:World)(xs:List Pair)(T:TypeId):RdP (w.alloc (.cells (jdK xs).toArray T)) (.slice (some ⟨w.heap.size,0,none⟩) xs.length xs.length) xs:=by
 refine .inr ⟨_,0,_,rfl,(Blk.new w _).lt,Nat.le_refl _,fun j x hx=>?_⟩
 obtain⟨h1,h2⟩:=jd2 xs j x hx
 exact⟨by rw[Nat.zero_add];exact (Blk.new w _).cellL h1,by rw[Nat.zero_add];exact (Blk.new w _).cellL h2⟩
def KpC(z:Nat)(x y:World):Prop:=jag (fun b=>z≤b) x y∧∀ b cs T,T≠71→Blk x b (.cells cs T)→Blk y b (.cells cs T)
theorem KpC.trans(z:Nat)(a b c:World)(h:KpC z a b)(k:KpC z b c):KpC z a c:=⟨h.1.trans k.1,fun x cs T e hB=>k.2 x cs T e (h.2 x cs T e hB)⟩
theorem KpC.ext(z:Nat)(x y:World)(h:Ext x y):KpC z x y:=⟨h.mono (fun _ _ h=>h.elim),fun b cs T _ hB=>hB.keeps h (fun h=>h)⟩
theorem KpC.fill{z b:Nat}{x y:World}{cs:Array Value}(h:jag (fun c=>c=b) x y)(hz:z≤b)(hB:Blk x b (.cells cs 71)):KpC z x y:=
 ⟨h.mono (fun c _ e=>by have e:c=b:=e;show z≤c;omega),fun c ds T hT hC=>hC.keeps h (fun e=>by
  have e:c=b:=e;subst e;have h:=Option.some.inj (hC.symm.trans hB);injection h with _ h2;exact hT h2)⟩
theorem Tryz.enterEmpty:∀ args w,(callFunc 67 args).run Tryz.prog w=.ok (.enter 67 args) w:=fun _ _=>by kernel_rfl
theorem Tryz.enterVerify:∀ args w,(callFunc 51 args).run Tryz.prog w=.ok (.enter 51 args) w:=fun _ _=>by kernel_rfl
theorem jj3{w:World}{b:Nat}{x:UInt8}{T:TypeId}{a:Act}{o:Oper}(ho:execOp a.eval o=(do pure (.value (←convert 92 9 (.slice (some ⟨b,0,none⟩) 1 1)))))(hB:Blk w b (.cells #[.int .u8 (x.toNat:Int)] T)):(execOp a.eval o).run Tryz.prog w=.ok (.value (.string ⟨#[x]⟩)) w:=by
 have hc:(convert 92 9 (.slice (some ⟨b,0,none⟩) 1 1)).run Tryz.prog w=.ok (.string ⟨#[x]⟩) w:=by
  refine run_convert_bytes_back w _ _ _ ⟨b,0,none⟩ 1 [x] Tryz.uBytes Tryz.uU8 Tryz.uStr (fun j hj=>?_);have h0:j=0:=by simp at hj;omega
  subst h0;exact hB.cell (by rfl)
 rw[ho,Sem.run_bind,hc];rfl
theorem jhP{w:World}{b:Nat}{t:ByteArray}{T:TypeId}(hB:Blk w b (.cells #[.string t] T)):RdS w (.slice (some ⟨b,0,none⟩) 1 1) [t]:=
 .inr ⟨b,0,1,rfl,hB.lt,Nat.le_refl _,fun j x hx=>by
  rw[Nat.zero_add]
  match j,hx with
  | 0,hx=>simp at hx;subst hx;exact hB.cell (by rfl)⟩
def jps(b:Nat)(rt:ByteArray)(x19 x21:Value):Act:={ tmps:=#[.bool false,.pointer (some ⟨b,0,none⟩),.int .i64 0,undef,undef,undef,undef,undef,undef,undef,undef,undef,undef,undef,undef,undef,undef,.tuple #[clmV none,.int .i64 0],.string rt,x19,.string ⟨#[128]⟩,x21,.tuple #[clmV none,.int .i64 0],clmV none,.int .i64 0,undef,undef,undef,undef,undef,undef,undef,undef,undef,undef,undef,undef,undef,undef,undef,undef,undef,undef,undef,undef,undef,undef,undef,undef,undef,undef,undef,undef,undef,undef,undef,undef,undef,undef,undef,undef,undef,undef,undef,undef,undef,undef,undef,undef,undef,undef,undef,undef,undef,undef,undef,undef,undef,undef,undef,undef,undef,undef,undef,undef,undef,undef,undef,undef,undef,undef,undef,undef,undef,undef,undef,undef,undef,undef,undef,undef,undef,undef,undef,undef,undef,undef,undef,undef,undef,undef,undef,undef,undef,undef,undef,undef,undef,undef],defers:=[] }
theorem jnL(w:World)(hc:jbO w):Calls Tryz.prog 49 #[] w fun e w'=>e=.returned (.bool true)∧Ext w w':=by
 have HC:=Hd hc
 obtain⟨rt,hrt⟩:∃ rt,rt=shaB (ja5 []).text:=⟨_,rfl⟩
 have HEM:=Hd (fun w (h:jbO w)=>jmt w h);rw[←hrt]at HEM;have HVE:=Hd (fun w (h:jbO w) v (hv:RdS w v [⟨#[128]⟩])=>jeY w h rt ⟨#[97]⟩ (by decide) v [⟨#[128]⟩] hv (by rw[←jj7];exact jh6 w jmu _));have e1:verV (proveR rt ⟨#[97]⟩ [⟨#[128]⟩])=.tuple #[clmV none,.int .i64 0]:=by
  have:=jgq w jmu ⟨#[97]⟩
  rw[jj7,jsv]at this;rw[hrt,this];rfl
 rw[e1]at HVE;clear hc hrt e1;go_enter Tryz.func49,Tryz.ntmps49;go_wp2_with fail
 refine wp_mono (Q:=fun e a' w'=>e=.normal∧∃ (b:Nat) (x19 x21:Value),a'=jps b rt x19 x21∧Ext w w'∧Blk w' b (.cells (clmL none).toArray 71)) (jel [1,3,8,9] Ext (KpC w.heap.size) ExtR ExtT (KpC.trans w.heap.size) (KpC.ext w.heap.size) (by kernel_rfl) (by kernel_rfl) 11 (by kernel_rfl) ?_) ?_
 ·refine jeM (k:=0) _ 67 #[] (.string rt) rfl (by kernel_rfl) rfl (fun w1=>jau Tryz.enterEmpty (by kernel_rfl)) (fun w1 h1=>HEM.o w1 (HC.o.keeps (((jas w).mono (fun _ _ h=>h.elim):jag (fun b=>w.heap.size≤b) w _).trans h1.1) (fun e=>by have e:w.heap.size≤_:=e;have:=HC.o.lt;omega))) ?_
  simp only[Act.put,sA,sB,sC];have HX0:=Hd (jas w);refine jhG 1 8 _ _ (by kernel_rfl) rfl rfl rfl rfl (fun u1 k1 K hK=>?_) (fun u1 k1 K hK=>?_)
  ·have HX1:=Hd (show Ext w (u1.alloc (.cells #[.int .u8 128] 5))from(HX0.o.trans k1).trans ((ExtR u1).alloc _))
   have HB1:=Hd (Blk.new u1 (.cells #[.int .u8 128] 5));go_simp;refine hK _ _ (KpC.ext _ _ _ ((ExtR _).alloc _)) ?_;clear hK K k1;refine jfM (k:=2) _ (.string ⟨#[128]⟩) rfl (by kernel_rfl) rfl (fun w9 h9=>jj3 (x:=128) rfl (h9.2 _ _ _ (show 5≠71 by decide) (by exact HB1.o))) ?_;simp only[Act.put,sA,sB,sC];refine jhG 3 8 _ _ (by kernel_rfl) rfl rfl rfl rfl (fun u2 k2 K hK=>?_) (fun u2 k2 K hK=>?_)
   ·have HX2:=Hd (show Ext w (u2.alloc (.cells #[.string ⟨#[128]⟩] 9))from(HX1.o.trans k2).trans ((ExtR u2).alloc _))
    have HB3:=Hd (Blk.new u2 (.cells #[.string ⟨#[128]⟩] 9));go_simp;refine hK _ _ (KpC.ext _ _ _ ((ExtR _).alloc _)) ?_;clear hK K;refine jeM (k:=4) _ 51 _ (.tuple #[clmV none,.int .i64 0]) rfl (by kernel_rfl) rfl (fun w1=>jau Tryz.enterVerify (by kernel_rfl)) (fun w9 h9=>HVE.o w9 (HC.o.keeps (((HX2.o.mono (fun _ _ h=>h.elim)):jag (fun b=>w.heap.size≤b) w _).trans h9.1) (fun e=>by have e:w.heap.size≤_:=e;have:=HC.o.lt;omega)) _ (jhP (h9.2 _ _ _ (show 9≠71 by decide) (by exact HB3.o)))) ?_;simp only[Act.put,sA,sB,sC];refine ja0 (k:=5) _ rfl (by kernel_rfl) rfl rfl (fun K hK=>?_);go_big_quiet_op;refine hK _ ?_;clear hK K;refine ja0 (k:=6) _ rfl (by kernel_rfl) rfl rfl (fun K hK=>?_);go_big_quiet_op;refine hK _ ?_;clear hK K;refine ja0 (k:=7) _ rfl (by kernel_rfl) rfl rfl (fun K hK=>?_);go_big_quiet_op;refine hK _ ?_;clear hK K;refine jbR (k:=8) _ rfl (by kernel_rfl) rfl (fun u3 k3 K hK=>?_);refine jfq Tryz.allocClaim rfl ?_;intro W8 hB8 hE8;have HX3:=Hd (show Ext w W8 from(HX2.o.trans k3).trans hE8);have HZ8:=Hd (show w.heap.size≤u3.heap.size from(HX2.o.trans k3).size);have HB8:=Hd hB8;refine hK _ _ (KpC.ext _ _ _ hE8) ?_;clear hK K hB8 hE8;simp only[Act.put,sA,sB,sC];refine jbR (k:=9) _ rfl (by kernel_rfl) rfl (fun u4 k4 K hK=>?_);have hB9:=HB8.o.keeps k4 (fun h=>h);refine jcw (old:=clmL none) (vs:=clmL none) rfl rfl rfl hB9 rfl (by rw[jaW];exact Tryz.szClaim) (jbk _) ?_;intro W9 hB9' hE9;refine hK _ _ (KpC.fill hE9 HZ8.o hB9) ?_;have HX4:=Hd (show Ext w W9 from(HX3.o.trans k4).trans' hE9 (fun x hx e=>by have e:x=_:=e;have:=HZ8.o;omega));clear hK K;simp only[Act.put,sA,sB,sC];refine ja0 (k:=10) _ rfl (by kernel_rfl) rfl rfl (fun K hK=>?_);go_big_quiet_op;refine hK _ ?_;clear hK K;refine jeN (by kernel_rfl) (fun w10 h10=>?_)
    exact⟨trivial,_,_,_,rfl,HX4.o.trans h10,hB9'.keeps h10 (fun h=>h)⟩
   ·refine jfq Tryz.allocClaim rfl ?_
    intro W8 hB8 hE8;have HX2:=Hd (show Ext w W8 from(HX1.o.trans k2).trans hE8);have HZ8:=Hd (show w.heap.size≤u2.heap.size from(HX1.o.trans k2).size);have HB8:=Hd hB8;refine hK _ _ (KpC.ext _ _ _ hE8) ?_;clear hK K hB8 hE8;simp only[Act.put,sA,sB,sC];refine jbR (k:=3) _ rfl (by kernel_rfl) rfl (fun u3 k3 K hK=>?_)
    replace HB8:=Hd (HB8.o.keeps (k3.trans ((ExtR u3).alloc (.cells #[.string ⟨#[128]⟩] 9))) (fun h=>h))
    have HX3:=Hd (show Ext w (u3.alloc (.cells #[.string ⟨#[128]⟩] 9))from(HX2.o.trans k3).trans ((ExtR u3).alloc _));have HB3:=Hd (Blk.new u3 (.cells #[.string ⟨#[128]⟩] 9));go_simp;refine hK _ _ (KpC.ext _ _ _ ((ExtR _).alloc _)) ?_;clear hK K;refine jeM (k:=4) _ 51 _ (.tuple #[clmV none,.int .i64 0]) rfl (by kernel_rfl) rfl (fun w1=>jau Tryz.enterVerify (by kernel_rfl)) (fun w9 h9=>HVE.o w9 (HC.o.keeps (((HX3.o.mono (fun _ _ h=>h.elim)):jag (fun b=>w.heap.size≤b) w _).trans h9.1) (fun e=>by have e:w.heap.size≤_:=e;have:=HC.o.lt;omega)) _ (jhP (h9.2 _ _ _ (show 9≠71 by decide) (by exact HB3.o)))) ?_;simp only[Act.put,sA,sB,sC];refine ja0 (k:=5) _ rfl (by kernel_rfl) rfl rfl (fun K hK=>?_);go_big_quiet_op;refine hK _ ?_;clear hK K;refine ja0 (k:=6) _ rfl (by kernel_rfl) rfl rfl (fun K hK=>?_);go_big_quiet_op;refine hK _ ?_;clear hK K;refine ja0 (k:=7) _ rfl (by kernel_rfl) rfl rfl (fun K hK=>?_);go_big_quiet_op;refine hK _ ?_;clear hK K;refine jbR (k:=9) _ rfl (by kernel_rfl) rfl (fun u4 k4 K hK=>?_);have hB9:=HB8.o.keeps k4 (fun h=>h);refine jcw (old:=clmL none) (vs:=clmL none) rfl rfl rfl hB9 rfl (by rw[jaW];exact Tryz.szClaim) (jbk _) ?_;intro W9 hB9' hE9;refine hK _ _ (KpC.fill hE9 HZ8.o hB9) ?_;have HX4:=Hd (show Ext w W9 from(HX3.o.trans k4).trans' hE9 (fun x hx e=>by have e:x=_:=e;have:=HZ8.o;omega));clear hK K;simp only[Act.put,sA,sB,sC];refine ja0 (k:=10) _ rfl (by kernel_rfl) rfl rfl (fun K hK=>?_);go_big_quiet_op;refine hK _ ?_;clear hK K;refine jeN (by kernel_rfl) (fun w10 h10=>?_)
    exact⟨trivial,_,_,_,rfl,HX4.o.trans h10,hB9'.keeps h10 (fun h=>h)⟩
  ·refine jfq Tryz.allocClaim rfl ?_
   intro W8 hB8 hE8;have HX1:=Hd (show Ext w W8 from(HX0.o.trans k1).trans hE8);have HZ8:=Hd (show w.heap.size≤u1.heap.size from(HX0.o.trans k1).size);have HB8:=Hd hB8;refine hK _ _ (KpC.ext _ _ _ hE8) ?_;clear hK K hB8 hE8;simp only[Act.put,sA,sB,sC];refine jbR (k:=1) _ rfl (by kernel_rfl) rfl (fun u2 k2 K hK=>?_)
   replace HB8:=Hd (HB8.o.keeps (k2.trans ((ExtR u2).alloc (.cells #[.int .u8 128] 5))) (fun h=>h))
   have HX2:=Hd (show Ext w (u2.alloc (.cells #[.int .u8 128] 5))from(HX1.o.trans k2).trans ((ExtR u2).alloc _));have HB1:=Hd (Blk.new u2 (.cells #[.int .u8 128] 5));go_simp;refine hK _ _ (KpC.ext _ _ _ ((ExtR _).alloc _)) ?_;clear hK K k2;refine jfM (k:=2) _ (.string ⟨#[128]⟩) rfl (by kernel_rfl) rfl (fun w9 h9=>jj3 (x:=128) rfl (h9.2 _ _ _ (show 5≠71 by decide) (by exact HB1.o))) ?_;simp only[Act.put,sA,sB,sC];refine jbR (k:=3) _ rfl (by kernel_rfl) rfl (fun u3 k3 K hK=>?_)
   replace HB8:=Hd (HB8.o.keeps (k3.trans ((ExtR u3).alloc (.cells #[.string ⟨#[128]⟩] 9))) (fun h=>h))
   have HX3:=Hd (show Ext w (u3.alloc (.cells #[.string ⟨#[128]⟩] 9))from(HX2.o.trans k3).trans ((ExtR u3).alloc _));have HB3:=Hd (Blk.new u3 (.cells #[.string ⟨#[128]⟩] 9));go_simp;refine hK _ _ (KpC.ext _ _ _ ((ExtR _).alloc _)) ?_;clear hK K;refine jeM (k:=4) _ 51 _ (.tuple #[clmV none,.int .i64 0]) rfl (by kernel_rfl) rfl (fun w1=>jau Tryz.enterVerify (by kernel_rfl)) (fun w9 h9=>HVE.o w9 (HC.o.keeps (((HX3.o.mono (fun _ _ h=>h.elim)):jag (fun b=>w.heap.size≤b) w _).trans h9.1) (fun e=>by have e:w.heap.size≤_:=e;have:=HC.o.lt;omega)) _ (jhP (h9.2 _ _ _ (show 9≠71 by decide) (by exact HB3.o)))) ?_;simp only[Act.put,sA,sB,sC];refine ja0 (k:=5) _ rfl (by kernel_rfl) rfl rfl (fun K hK=>?_);go_big_quiet_op;refine hK _ ?_;clear hK K;refine ja0 (k:=6) _ rfl (by kernel_rfl) rfl rfl (fun K hK=>?_);go_big_quiet_op;refine hK _ ?_;clear hK K;refine ja0 (k:=7) _ rfl (by kernel_rfl) rfl rfl (fun K hK=>?_);go_big_quiet_op;refine hK _ ?_;clear hK K;refine jbR (k:=9) _ rfl (by kernel_rfl) rfl (fun u4 k4 K hK=>?_);have hB9:=HB8.o.keeps k4 (fun h=>h);refine jcw (old:=clmL none) (vs:=clmL none) rfl rfl rfl hB9 rfl (by rw[jaW];exact Tryz.szClaim) (jbk _) ?_;intro W9 hB9' hE9;refine hK _ _ (KpC.fill hE9 HZ8.o hB9) ?_;have HX4:=Hd (show Ext w W9 from(HX3.o.trans k4).trans' hE9 (fun x hx e=>by have e:x=_:=e;have:=HZ8.o;omega));clear hK K;simp only[Act.put,sA,sB,sC];refine ja0 (k:=10) _ rfl (by kernel_rfl) rfl rfl (fun K hK=>?_);go_big_quiet_op;refine hK _ ?_;clear hK K;refine jeN (by kernel_rfl) (fun w10 h10=>?_)
   exact⟨trivial,_,_,_,rfl,HX4.o.trans h10,hB9'.keeps h10 (fun h=>h)⟩
 ·rintro e a' w1 ⟨rfl,b,x19,x21,rfl,hE,hB⟩
  have HE1:=Hd hE;have HB1:=Hd hB;clear hE hB HEM HVE;unfold jps;go_wp2_with fail
  have hx0:Ext w1 (w1.alloc (.cells #[.string ⟨#[97]⟩,.string ⟨#[49]⟩,.string ⟨#[98]⟩,.string ⟨#[50]⟩] 95)):=(ExtR w1).alloc _;refine (jiC _ (HC.o.ext (HE1.o.trans hx0)) _ exW (jkv w1 exW 95) (by decide) (fun p hp=>by
   have:∀ p∈exW,p.1.size≤9223372036854775807∧p.2.size≤9223372036854775807:=by decide
   exact this p hp)).mono ?_
  rintro e w2 (⟨_,_,hno⟩ |⟨s,bm,S,rfl,hE,hH,_,_⟩)
  ·exact absurd ⟨jpY,jir,jpZ⟩ hno
  have HE2:=Hd (HE1.o.trans (hx0.trans hE));have HB2:=Hd (HB1.o.keeps (hx0.trans hE) (fun h=>h));have HL2:=Hd ((jkv w1 exW 95).ext hE);have HS2:=Hd hH.st;have HM:=Hd (And.intro hH.hasM hH.key)
  obtain⟨rx,hrx⟩:∃ rx,rx=shaB (ja5 exW).text:=⟨_,rfl⟩
  have HRX:=Hd hrx;rw[←hrx]
  obtain⟨lg,hlg⟩:∃ lg,lg=w1.heap.size:=⟨_,rfl⟩
  rw[←hlg]at HL2 ⊢;have HL2:=Hd (show RdP w2 (.slice (some ⟨lg,0,none⟩) 2 2) exW from HL2.o);clear hE hH hx0 hrx HE1 HB1 hlg;go_wp2_with fail
  have hbd:=jik w2 s bm 2000 S HS2.o exW HM.o.1 ⟨#[98]⟩ (by decide);rw[←HRX.o]at hbd;refine hbd.mono ?_;rintro e w3 ⟨pa,pc,rfl,hP⟩
  obtain⟨N,hN⟩:∃ N,N=wayN exW ⟨#[98]⟩:=⟨_,rfl⟩
  rw[←hN]at hP ⊢;have HNN:=Hd hN;have HP3:=Hd hP.rd;have HE3:=Hd (HE2.o.trans hP.ext);have HB3:=Hd (HB2.o.keeps hP.ext (fun h=>h));have HL3:=Hd (HL2.o.ext hP.ext);have HS3:=Hd (HS2.o.ext hP.ext);clear hbd hP HE2 HB2 HL2 HS2 hN
  obtain⟨nn,hnn⟩:∃ nn,nn=N.length:=⟨_,rfl⟩
  rw[←hnn]at HP3 ⊢;have HNL:=Hd hnn;clear hnn;go_wp2_with fail
  have hgN:jc5 w3 N:=by rw[HNN.o];exact jh6 w3 jir _
  have hvf:=jeY w3 (HC.o.ext HE3.o) rx ⟨#[98]⟩ (by decide) _ N HP3.o hgN;have hpr:proveR rx ⟨#[98]⟩ N=(some ⟨#[50]⟩,true):=by rw[HRX.o,HNN.o,jgq w3 jir,jpX]
  rw[hpr]at hvf;have HPR:=Hd hpr;refine hvf.mono ?_;rintro e w4 ⟨rfl,hE⟩;have HP4:=Hd (HP3.o.ext hE);have HE4:=Hd (HE3.o.trans hE);have HB4:=Hd (HB3.o.keeps hE (fun h=>h));have HL4:=Hd (HL3.o.ext hE);have HS4:=Hd (HS3.o.ext hE);clear hvf hE hgN hpr HP3 HE3 HB3 HL3 HS3;have e2:verV (some ⟨#[50]⟩,true)=.tuple #[.agg (clmL (some ⟨#[50]⟩)).toArray,.int .i64 0]:=rfl;rw[e2];clear e2;go_wp2_with (first |(refine jai Tryz.allocClaim rfl rfl ?_;intro W5 hB5 hE5) |(refine jaf (old:=clmL none) (vs:=clmL (some ⟨#[50]⟩)) rfl rfl rfl rfl hB5 rfl (by rw[jaW];exact Tryz.szClaim) (jbk _) ?_;intro W6 hB6 hE6))
  have HE6:=Hd (HE4.o.trans (hE5.trans' hE6 (fun x hx e=>by have e:x=w4.heap.size:=e;omega)));have hX6:Ext w4 W6:=hE5.trans' hE6 (fun x hx e=>by have e:x=w4.heap.size:=e;omega);have HP6:=Hd (HP4.o.ext hX6);have HL6:=Hd (HL4.o.ext hX6);have HS6:=Hd (HS4.o.ext hX6);have HB6:=Hd (HB4.o.keeps hX6 (fun h=>h));have HC6:=Hd hB6
  obtain⟨cb,hcb⟩:∃ cb,cb=w4.heap.size:=⟨_,rfl⟩
  rw[←hcb]at HC6 ⊢;clear hcb hB5 hE5 hB6 hE6 hX6 HE4 HP4 HL4 HS4 HB4;have hvf:=jeY W6 (HC.o.ext HE6.o) rx ⟨#[98]⟩ (by decide) (.slice none 0 0) [] (.inl ⟨none,0,rfl,rfl⟩) (fun t ht=>by cases ht);have e2:verV (proveR rx ⟨#[98]⟩ [])=.tuple #[.agg (clmL none).toArray,.int .i64 10]:=rfl;rw[e2]at hvf;clear e2;refine hvf.mono ?_;rintro e w7 ⟨rfl,hE⟩;clear hvf;go_wp2_with (first |(refine jai Tryz.allocClaim rfl rfl ?_;intro W8 hB8 hE8) |(refine jaf (old:=clmL none) (vs:=clmL none) rfl rfl rfl rfl hB8 rfl (by rw[jaW];exact Tryz.szClaim) (jbk _) ?_;intro W9 hB9 hE9))
  have hX9:Ext W6 W9:=hE.trans (hE8.trans' hE9 (fun x hx e=>by have e:x=w7.heap.size:=e;omega));have HE9:=Hd (HE6.o.trans hX9);have HP9:=Hd (HP6.o.ext hX9);have HL9:=Hd (HL6.o.ext hX9);have HS9:=Hd (HS6.o.ext hX9);have HB9:=Hd (HB6.o.keeps hX9 (fun h=>h));have HC9:=Hd (HC6.o.keeps hX9 (fun h=>h))
  obtain⟨cc,hcc⟩:∃ cc,cc=w7.heap.size:=⟨_,rfl⟩
  rw[←hcc];clear hcc hE hB8 hE8 hB9 hE9 hX9 HE6 HP6 HL6 HS6 HB6 HC6;have hno:atL S (⟨#[63]⟩:ByteArray).data.toList=none:=by
   cases ha:atL S (⟨#[63]⟩:ByteArray).data.toList with
   | none=>rfl
   | some y =>
    obtain⟨t,_,ht⟩:=(HM.o.2 _).1 (jjB.1 (show (atL S (⟨#[63]⟩:ByteArray).data.toList).isSome=true by rw[ha];rfl))
    have h1:=congrArg List.length ht;have h2:(ky t).length=32:=jbK t;rw[h2]at h1;cases h1
  refine (jk0 W9 s bm 2000 S HS9.o ⟨#[63]⟩ ⟨#[98]⟩ hno).mono ?_;rintro e w10 ⟨rfl,hE⟩;have HE10:=Hd (HE9.o.trans hE);have HP10:=Hd (HP9.o.ext hE);have HL10:=Hd (HL9.o.ext hE);have HB10:=Hd (HB9.o.keeps hE (fun h=>h));have HC10:=Hd (HC9.o.keeps hE (fun h=>h));clear hno hE HE9 HP9 HL9 HS9 HB9 HC9;go_wp2_with fail
  have hex:=jmx w10 (HC.o.ext HE10.o) _ _ exW ⟨#[98]⟩ N HL10.o HP10.o (by decide) (by decide) (fun p hp=>by
   have:∀ p∈exW,p.1.size≤9223372036854775807∧p.2.size≤9223372036854775807:=by decide
   exact this p hp) (by rw[HNN.o];have:=jh5 exW ⟨#[98]⟩;omega) (by rw[HNN.o];exact jh6 w10 jir _)
  have e3:extN exW ⟨#[98]⟩ N=none:=by
   have hpr:=HPR.o;rw[HRX.o]at hpr;unfold extN;rw[if_neg (fun h=>h jir),hpr,jpX,if_neg (fun h=>h.2 rfl)]
  rw[e3]at hex;refine hex.mono ?_;rintro e w11 ⟨rfl,hE⟩;have HE11:=Hd (HE10.o.trans hE);have HL11:=Hd (HL10.o.ext hE);have HB11:=Hd (HB10.o.keeps hE (fun h=>h));have HC11:=Hd (HC10.o.keeps hE (fun h=>h));clear hex e3 hE HE10 HP10 HL10 HB10 HC10;unfold jeD;have q0:=HB11.o.cell (i:=0) (v:=.bool false) (by rfl);have c0:=HC11.o.cell (i:=0) (v:=.bool true) (by rfl);have c1:=HC11.o.cell (i:=1) (v:=.string ⟨#[50]⟩) (by rfl);have he2:((⟨#[50]⟩:ByteArray).toList ==(⟨#[50]⟩:ByteArray).toList)=true:=by simp
  have he0:((⟨#[]⟩:ByteArray).toList ==(⟨#[]⟩:ByteArray).toList)=true:=by simp
  go_wp2_with (refine jah 71 (.tmp 8) rfl rfl _ _ rfl (jbm HC11.o) ?_)
  have hh:=jgh w11 _ exW ⟨#[98]⟩ (some ⟨#[50]⟩) HL11.o (by decide);rw[jpX,decide_eq_true rfl]at hh;refine hh.mono ?_;rintro e w12 ⟨rfl,hE⟩;have HE12:=Hd (HE11.o.trans hE);have HL12:=Hd (HL11.o.ext hE);have HC12:=Hd (HC11.o.keeps hE (fun h=>h));clear hh hE q0 c0 c1 HE11 HL11 HB11 HC11;go_wp2_with (refine jah 71 (.tmp 8) rfl rfl _ _ rfl (jbm HC12.o) ?_)
  have hh:=jgh w12 _ exW ⟨#[97]⟩ (some ⟨#[50]⟩) HL12.o (by decide);rw[jsw,decide_eq_false (by decide)]at hh;refine hh.mono ?_;rintro e w13 ⟨rfl,hE⟩;have HE13:=Hd (HE12.o.trans hE);clear hh hE;go_wp2_with fail
  go_ret
  exact⟨rfl,HE13.o⟩
theorem jcn(x:UInt32)(s n:Nat)(hs:s+n=32)(hn:0 < n)(hn2:n < 32):bits .or .u32 ((x.toNat:Int) / (2:Int) ^ n) ((x.toNat:Int) * (2:Int) ^ s % (4294967296:Int))=((rotW x (UInt32.ofNat n)).toNat:Int):=by
 have e1:(x.toNat:Int) * (2:Int) ^ s % (4294967296:Int)=((x <<< (32 - UInt32.ofNat n)).toNat:Int):=by
  rw[UInt32.toNat_shiftLeft];have h1:(32 - UInt32.ofNat n).toNat=s:=by
   rw[UInt32.toNat_sub_of_le]
   ·rw[UInt32.toNat_ofNat'];show 32 - n % 2 ^ 32=s;omega
   ·rw[UInt32.le_iff_toNat_le,UInt32.toNat_ofNat'];show n % 2 ^ 32≤32;omega
  rw[h1,Nat.mod_eq_of_lt (show s < 32 by omega),Nat.shiftLeft_eq]
  simp
 have e2:(x.toNat:Int) / (2:Int) ^ n=((x >>> UInt32.ofNat n).toNat:Int):=by
  rw[UInt32.toNat_shiftRight];rw[UInt32.toNat_ofNat',Nat.mod_eq_of_lt (show n < 2 ^ 32 by omega),Nat.mod_eq_of_lt hn2,Nat.shiftRight_eq_div_pow]
  simp
 rw[e1,e2,jez,UInt32.or_comm];rfl
theorem jsG(w:World)(x:UInt32):Calls Tryz.prog 185 #[wv x,.int .u64 2] w fun e w'=>e=.returned (wv (rotW x 2))∧w=w':=by
 have HR:=Hd (jcn x 30 2 (by decide) (by decide) (by decide));unfold wv;go_enter Tryz.func185,Tryz.ntmps185;go_wp2;go_ret;have h2:bits .or .u32 ((x.toNat:Int) / (4:Int)) ((x.toNat:Int) * (1073741824:Int) % (4294967296:Int))=((rotW x 2).toNat:Int):=HR.o
 exact⟨congrArg (fun z=>Ending.returned (Value.int .u32 z)) h2,rfl⟩
theorem jsH(w:World)(x:UInt32):Calls Tryz.prog 185 #[wv x,.int .u64 6] w fun e w'=>e=.returned (wv (rotW x 6))∧w=w':=by
 have HR:=Hd (jcn x 26 6 (by decide) (by decide) (by decide));unfold wv;go_enter Tryz.func185,Tryz.ntmps185;go_wp2;go_ret;have h2:bits .or .u32 ((x.toNat:Int) / (64:Int)) ((x.toNat:Int) * (67108864:Int) % (4294967296:Int))=((rotW x 6).toNat:Int):=HR.o
 exact⟨congrArg (fun z=>Ending.returned (Value.int .u32 z)) h2,rfl⟩
theorem jsI(w:World)(x:UInt32):Calls Tryz.prog 185 #[wv x,.int .u64 7] w fun e w'=>e=.returned (wv (rotW x 7))∧w=w':=by
 have HR:=Hd (jcn x 25 7 (by decide) (by decide) (by decide));unfold wv;go_enter Tryz.func185,Tryz.ntmps185;go_wp2;go_ret;have h2:bits .or .u32 ((x.toNat:Int) / (128:Int)) ((x.toNat:Int) * (33554432:Int) % (4294967296:Int))=((rotW x 7).toNat:Int):=HR.o
 exact⟨congrArg (fun z=>Ending.returned (Value.int .u32 z)) h2,rfl⟩
theorem jrM(w:World)(x:UInt32):Calls Tryz.prog 185 #[wv x,.int .u64 11] w fun e w'=>e=.returned (wv (rotW x 11))∧w=w':=by
 have HR:=Hd (jcn x 21 11 (by decide) (by decide) (by decide));unfold wv;go_enter Tryz.func185,Tryz.ntmps185;go_wp2;go_ret;have h2:bits .or .u32 ((x.toNat:Int) / (2048:Int)) ((x.toNat:Int) * (2097152:Int) % (4294967296:Int))=((rotW x 11).toNat:Int):=HR.o
 exact⟨congrArg (fun z=>Ending.returned (Value.int .u32 z)) h2,rfl⟩
theorem jrN(w:World)(x:UInt32):Calls Tryz.prog 185 #[wv x,.int .u64 13] w fun e w'=>e=.returned (wv (rotW x 13))∧w=w':=by
 have HR:=Hd (jcn x 19 13 (by decide) (by decide) (by decide));unfold wv;go_enter Tryz.func185,Tryz.ntmps185;go_wp2;go_ret;have h2:bits .or .u32 ((x.toNat:Int) / (8192:Int)) ((x.toNat:Int) * (524288:Int) % (4294967296:Int))=((rotW x 13).toNat:Int):=HR.o
 exact⟨congrArg (fun z=>Ending.returned (Value.int .u32 z)) h2,rfl⟩
theorem jrO(w:World)(x:UInt32):Calls Tryz.prog 185 #[wv x,.int .u64 17] w fun e w'=>e=.returned (wv (rotW x 17))∧w=w':=by
 have HR:=Hd (jcn x 15 17 (by decide) (by decide) (by decide));unfold wv;go_enter Tryz.func185,Tryz.ntmps185;go_wp2;go_ret;have h2:bits .or .u32 ((x.toNat:Int) / (131072:Int)) ((x.toNat:Int) * (32768:Int) % (4294967296:Int))=((rotW x 17).toNat:Int):=HR.o
 exact⟨congrArg (fun z=>Ending.returned (Value.int .u32 z)) h2,rfl⟩
theorem jrP(w:World)(x:UInt32):Calls Tryz.prog 185 #[wv x,.int .u64 18] w fun e w'=>e=.returned (wv (rotW x 18))∧w=w':=by
 have HR:=Hd (jcn x 14 18 (by decide) (by decide) (by decide));unfold wv;go_enter Tryz.func185,Tryz.ntmps185;go_wp2;go_ret;have h2:bits .or .u32 ((x.toNat:Int) / (262144:Int)) ((x.toNat:Int) * (16384:Int) % (4294967296:Int))=((rotW x 18).toNat:Int):=HR.o
 exact⟨congrArg (fun z=>Ending.returned (Value.int .u32 z)) h2,rfl⟩
theorem jrQ(w:World)(x:UInt32):Calls Tryz.prog 185 #[wv x,.int .u64 19] w fun e w'=>e=.returned (wv (rotW x 19))∧w=w':=by
 have HR:=Hd (jcn x 13 19 (by decide) (by decide) (by decide));unfold wv;go_enter Tryz.func185,Tryz.ntmps185;go_wp2;go_ret;have h2:bits .or .u32 ((x.toNat:Int) / (524288:Int)) ((x.toNat:Int) * (8192:Int) % (4294967296:Int))=((rotW x 19).toNat:Int):=HR.o
 exact⟨congrArg (fun z=>Ending.returned (Value.int .u32 z)) h2,rfl⟩
theorem jrR(w:World)(x:UInt32):Calls Tryz.prog 185 #[wv x,.int .u64 22] w fun e w'=>e=.returned (wv (rotW x 22))∧w=w':=by
 have HR:=Hd (jcn x 10 22 (by decide) (by decide) (by decide));unfold wv;go_enter Tryz.func185,Tryz.ntmps185;go_wp2;go_ret;have h2:bits .or .u32 ((x.toNat:Int) / (4194304:Int)) ((x.toNat:Int) * (1024:Int) % (4294967296:Int))=((rotW x 22).toNat:Int):=HR.o
 exact⟨congrArg (fun z=>Ending.returned (Value.int .u32 z)) h2,rfl⟩
theorem jrS(w:World)(x:UInt32):Calls Tryz.prog 185 #[wv x,.int .u64 25] w fun e w'=>e=.returned (wv (rotW x 25))∧w=w':=by
 have HR:=Hd (jcn x 7 25 (by decide) (by decide) (by decide));unfold wv;go_enter Tryz.func185,Tryz.ntmps185;go_wp2;go_ret;have h2:bits .or .u32 ((x.toNat:Int) / (33554432:Int)) ((x.toNat:Int) * (128:Int) % (4294967296:Int))=((rotW x 25).toNat:Int):=HR.o
 exact⟨congrArg (fun z=>Ending.returned (Value.int .u32 z)) h2,rfl⟩
theorem jfF{s:ByteArray}{k:Nat}(h:k < s.size):s.data.toList.getD k 0=s[k]:=by
 rw[List.getD_eq_getElem?_getD,List.getElem?_eq_getElem (show k < s.data.toList.length from h)];rfl
theorem jqB(w:World)(s:ByteArray)(k:Nat)(h:4 * k+3 < s.size)(hs:s.size≤1000000):Calls Tryz.prog 184 #[.string s,.int .i64 k] w fun e w'=>e=.returned (wv (jdD s.data.toList k))∧Ext w w':=by
 have c0:(0:Int)≤4 * (k:Int):=by omega
 have c1:(0:Int)≤4 * (k:Int)+1:=by omega
 have c2:(0:Int)≤4 * (k:Int)+2:=by omega
 have c3:(0:Int)≤4 * (k:Int)+3:=by omega
 have d0:4 * (k:Int) < (s.size:Int):=by omega
 have d1:4 * (k:Int)+1 < (s.size:Int):=by omega
 have d2:4 * (k:Int)+2 < (s.size:Int):=by omega
 have d3:4 * (k:Int)+3 < (s.size:Int):=by omega
 have n0:(4 * (k:Int)).toNat=4 * k:=by omega
 have n1:(4 * (k:Int)+1).toNat=4 * k+1:=by omega
 have n2:(4 * (k:Int)+2).toNat=4 * k+2:=by omega
 have n3:(4 * (k:Int)+3).toNat=4 * k+3:=by omega
 have HW:=Hd (show jdD s.data.toList k=beW (s[4 * k]'(by omega)) (s[4 * k+1]'(by omega)) (s[4 * k+2]'(by omega)) (s[4 * k+3]'(by omega)) by unfold jdD;rw[jfF,jfF,jfF,jfF]);go_enter Tryz.func184,Tryz.ntmps184;go_wp2_with fail
 refine jan [0,1,2,3,4,5,6,7,8,9,10,11,12,13,14,15,16,17,18,19,20,21,22,23,24,25,26,27,28,29] Ext ExtR ExtT (by kernel_rfl) (by kernel_rfl) (by kernel_rfl) ?_;iterate 30 (refine jae _ rfl (by kernel_rfl) rfl rfl (fun K hK=>?_);go_big_quiet_op;refine hK _ ?_;clear hK K)
 refine jaJ (by kernel_rfl) (fun w1 he=>?_);have HX:=Hd ((jas w).trans he);have hbe:=jri (s[4 * k]'(by omega)) (s[4 * k+1]'(by omega)) (s[4 * k+2]'(by omega)) (s[4 * k+3]'(by omega));rw[←HW.o]at hbe;rw[hbe];clear hbe he;go_wp2_with fail
 go_ret
 exact⟨rfl,HX.o⟩
def jg6:W8:=⟨0x6a09e667,0xbb67ae85,0x3c6ef372,0xa54ff53a,0x510e527f,0x9b05688c,0x1f83d9ab,0x5be0cd19⟩
def Tab3(w:World)(e:Ending)(w':World):Prop:=∃ b1 b2,e=.returned (.tuple #[.slice (some ⟨b1,0,none⟩) 8 8,.slice (some ⟨b2,0,none⟩) 64 64])∧w.heap.size≤b1∧w.heap.size≤b2∧b1≠b2∧Ext w w'∧Blk w' b1 (.cells (jg6.words.map wv).toArray 206)∧Blk w' b2 (.cells (jdA.map wv).toArray 206)
theorem jo0(w:World):Calls Tryz.prog 139 #[] w (Tab3 w):=by
 go_enter Tryz.func139,Tryz.ntmps139;go_wp2_with fail
 go_ret2;have hb:∀ {W:World} {b:Nat} {c d:Array Value} {T:TypeId},c=d→Blk W b (.cells c T)→Blk W b (.cells d T):=fun e h=>e ▸ h;have hz:∀ o,(w.alloc o).heap.size=w.heap.size+1:=fun o=>by simp
 refine⟨w.heap.size,w.heap.size+1,rfl,Nat.le_refl _,Nat.le_succ _,by omega,((ExtR w).alloc _).alloc _,hb ?_ (Blk.alloc (Blk.new w _) _),hb ?_ (hz _ ▸ Blk.new (w.alloc _) _)⟩
 ·kernel_rfl
 ·kernel_rfl
end
section
open Go Go.RowKit
theorem jgz{P:Program}(w:World){t ty e:TypeId}{i:TypeInfo}{z:Value}{size bytes:Nat}(ht:P.underlying t=some (.slice e))(hi:P.info? e=some i)(hz:i.zero=some z)
  (hsize:i.size=size) (hby:i.bytes=bytes) (hzs:z.cells.size=size) (hsz:0 < size)
  {v:Value} {n:Nat} {xs:List Value} (hown:w.ownsRow 0 e size v n xs)
  {a:Addr} {m c:Nat} {news:List Value} (hl:news.length=m * size) (hnews:∀ j u,news[j]?=some u→w.cell? (a.add j)=some u) (h1:∀ u∈news,u.oneCell'=true)
  (h63:n+m≤maxLen) (hbytes:(n+m) * bytes≤140737488355328) :
  ∃ v' w',(Builtin.append_ #[t,t] ty #[v,.slice (some a) m c]).run P w=.ok v' w'∧w'.ownsRow 0 e size v' (n+m) (xs++news)∧jag (fun b=>v.ownBlock=some b) w w' ∧
   (v'.ownBlock=v.ownBlock∨∀ b,v'.ownBlock=some b→w.heap.size≤b)∧w'.ownsRow 0 e size v n xs:=by
 have up:∀ {B:Nat} {w':World} {v':Value} {k:Nat} {ys:List Value},w'.ownsRow B e size v' k ys→w'.ownsRow 0 e size v' k ys:=by
  rintro B w' v' k ys ⟨h1,h2 |⟨g,cap,cur,h2,_,h3⟩⟩
  ·exact⟨h1,.inl h2⟩
  ·exact⟨h1,.inr ⟨g,cap,cur,h2,Nat.zero_le _,h3⟩⟩
 have lo:∀ {B:Nat} {w':World} {v':Value} {k:Nat} {ys:List Value},w'.ownsRow B e size v' k ys→∀ b,v'.ownBlock=some b→B≤b:=by
  intro B w' v' k ys h b hb;exact (World.ownsRow.lt h b hb).1
 have hown':=hown
 obtain⟨hxl,⟨rfl,rfl⟩ |⟨g,cap,cur,rfl,_,hg,hnc,hcm,hcs,hct⟩⟩:=hown
 ·obtain⟨v',w',hr,r1,r2,_⟩:=run_append_own (P:=P) w w.heap.size t ty e i z size bytes ht hi hz hsize hby hzs hsz (.slice none 0 0) 0 xs ⟨hxl,.inl ⟨rfl,rfl⟩⟩ a m c news hl hnews h1 h63 hbytes (Nat.le_refl _)
  exact⟨v',w',hr,up r1,jag.of_grown r2 (fun r e _=>e),.inr (lo r1),⟨hxl,.inl ⟨rfl,rfl⟩⟩⟩
 ·by_cases hroom:n+m≤cap
  ·obtain⟨w',hr,r1,r2⟩:=run_append_fits (P:=P) w 0 t ty e i size ht hi hsize g n cap xs hown' a m c news hl hnews h1 hroom
   refine⟨_,w',hr,r1,jag.of_grown r2 (fun r e _=>e),.inl rfl,?_⟩
   obtain⟨k1,⟨k2,_⟩ |⟨g',cap',cur',k2,_,k4,k5,k6,k7,k8⟩⟩:=r1
   ·cases k2
   ·obtain⟨e1,_,e3⟩:=Value.slice.inj k2
    have e1:=congrArg Addr.block (Option.some.inj e1);have e1:g=g':=e1;subst e1 e3
    refine⟨hxl,.inr ⟨g,cap,cur',rfl,Nat.zero_le _,k4,hnc,k6,k7,?_⟩⟩
    have h:=congrArg (List.take (n * size)) k8;rw[List.take_take,Nat.min_eq_left (Nat.mul_le_mul_right _ (by omega)),List.take_left' hxl]at h;exact h
  ·have holds:∀ j u,xs[j]?=some u→w.cell? ((⟨g,0,none⟩:Addr).add j)=some u:=World.ownsRow.cells hown' rfl
   obtain⟨v',w',hr,r1,r2⟩:=run_append_arg_grows (P:=P) w t ty e i z size bytes ht hi hz hsize hby hzs hsz ⟨g,0,none⟩ n cap xs hxl holds a m c news hl hnews (by omega) h63 hbytes
   exact⟨v',w',hr,up r1,jag.of_grown r2 (fun r e _=>by cases e),.inr (lo r1),jbx hown' (jag.of_grown r2 (fun r e _=>by cases e))⟩
theorem jqK{P:Program}{t T:TypeId}{sz by':Nat}(I:jec P t T sz by'){w0 w:World}{v:Value}{n:Nat}{xs:List Value}{o:Oper}{a:Act}{g m c:Nat}{news:List Value}{K:Act→World→Prop}{Q:Exit→Act→World→Prop}(hR:ORow T sz w0 w v n xs)(s x:Operand)(hs:a.eval s=v)(hx:a.eval x=.slice (some ⟨g,0,none⟩) m c)(hB:∀ j u,news[j]?=some u→w.cell? ((⟨g,0,none⟩:Addr).add j)=some u)(h1:∀ u∈news,u.oneCell'=true)(hl:news.length=m * sz)
  (ho:o.op=Op.call { callee:=Callee.builtin Builtin.append,args:=#[s,x],argTypes:=#[t,t] }) (h63:n+m≤maxLen) (hby:(n+m) * by'≤140737488355328)
  (h:∀ v' w',ORow T sz w0 w' v' (n+m) (xs++news)→jag (fun b=>v.ownBlock=some b) w w'→(v'.ownBlock=v.ownBlock∨∀ b,v'.ownBlock=some b→w.heap.size≤b)→ORow T sz w0 w' v n xs→K (a.put o.dst v') w'):o.wp P a w K Q:=by
 obtain⟨i,z,e1,e2,e3,e4,e5⟩:=I.hi
 obtain⟨v',w',hrun,r1,r2,r3,r4⟩:=jgz (P:=P) w (t:=t) (ty:=o.type) I.ht e1 e2 e3 e4 e5 I.hsz hR.own (c:=c) hl hB h1 h63 hby
 unfold Oper.wp;simp[execOp,ho,resolve,invoke,builtin,hs,hx,hrun,Result.andThen];exact h v' w' (hR.step r1 r2 r3) r2 r3 ⟨hR.sl,r4,jfb hR.ext hR.new r2,hR.new⟩
theorem jiL{w:World}{B B':Nat}{T T':TypeId}{sz sz':Nat}{v v':Value}{n n':Nat}{xs xs':List Value}(h:w.ownsRow B T sz v n xs)(k:w.ownsRow B' T' sz' v' n' xs')(hT:T≠T'):∀ b,v.ownBlock=some b→¬ v'.ownBlock=some b:=by
 intro b hb hb'
 obtain⟨_,h2 |⟨g,cap,cur,h2,_,h4,_⟩⟩:=h
 ·rw[h2.1]at hb;cases hb
 obtain⟨_,k2 |⟨g',cap',cur',k2,_,k4,_⟩⟩:=k
 ·rw[k2.1]at hb';cases hb'
 rw[h2]at hb;rw[k2]at hb';have e:some g=some b:=hb;have e':some g'=some b:=hb';obtain rfl:=Option.some.inj e;obtain rfl:=Option.some.inj e'
 have:=Blk.uniq h4 k4
 injection this with _ e _;exact hT e
end
section
open Go Go.RowKit
attribute [local go_sem] Oper.semAt_some
theorem Tryz.sWords:jec Tryz.prog 202 206 1 4:=jec.mk' (by kernel_rfl) (show (Tryz.prog.info? 206).map (fun i=>(i.zero,i.size,i.bytes))=some (some (.int .u32 0),1,4) by kernel_rfl) rfl (by decide)
theorem Tryz.enterRight3(args:Array Value)(w:World):(callFunc 185 args).run Tryz.prog w=.ok (.enter 185 args) w:=by kernel_rfl
def wL(B:List UInt8)(k:Nat):List UInt32:=if k≤16 then jcS B k else jfd B (k - 16)
theorem jr1(B:List UInt8)(k:Nat):(wL B k).length=k:=by
 unfold wL;split
 ·simp[jcS]
 ·rw[jbV];omega
theorem jr2(B:List UInt8){k:Nat}(h:k < 16):wL B (k+1)=wL B k++[jdD B k]:=by
 unfold wL;rw[if_pos (by omega),if_pos (by omega)];simp[jcS,List.range_succ]
theorem jr3(B:List UInt8){k:Nat}(h:¬ k < 16):wL B (k+1)=wL B k++[jgL (wL B k)]:=by
 have e:wL B k=jfd B (k - 16):=by
  unfold wL;split
  ·have:k=16:=by omega
   subst this;rfl
  ·rfl
 rw[e];unfold wL;rw[if_neg (by omega),show k+1 - 16=(k - 16)+1 by omega];rfl
theorem jjg{P:Program}{ops:Array Oper}{rest:List Oper}{a:Act}{w:World}{Q:Exit→Act→World→Prop}{d:Option Tmp}{T:TypeId}{n:Nat}{ps:Array (Nat × Operand)}{ty:TypeId}{pos:String}{af:Array Edge}(v:Value)(w':World)(h0:(execOp a.eval ⟨d,.buildSlice T n ps,ty,pos,af,none⟩).run P w=.ok (.value v) w')(h:wpList P ops Q rest (a.put d v) w'):wpList P ops Q (⟨d,.buildSlice T n ps,ty,pos,af,none⟩ :: rest) a w:=
 wpList_plain rfl fun K hK=>jcp (v:=v) (w':=w') h0 (hK _ _ h)
def Bk1(w:World)(B:List UInt8)(v iv:Value)(wr:World):Prop:=∃ k:Nat,k≤64∧iv=.int .i64 k∧ORow 206 1 w wr v k ((wL B k).map wv)
theorem W8.add_comm(v u:W8):v.add u=u.add v:=by
 unfold W8.add addW;simp[UInt32.add_comm]
theorem jnK(v u:W8){k:Nat}(hk:k < 8):∃ x y,(jdE v.words u.words k)[k]?=some x∧u.words[k]?=some y∧(jdE v.words u.words k).set k (addW x y)=jdE v.words u.words (k+1):=by
 have hl:v.words.length=u.words.length:=rfl;have h1:k < v.words.length:=hk;have h2:k < u.words.length:=hk;have hs:=jie hl h1
 exact⟨_,_,by rw[jic hl h1];exact List.getElem?_eq_getElem h1,List.getElem?_eq_getElem h2,hs⟩
def Bk3(w:World)(g cap:Nat)(R V:W8)(iv:Value)(wr:World):Prop:=∃ k:Nat,k≤8∧iv=.int .i64 k∧ORow 206 1 w wr (.slice (some ⟨g,0,none⟩) 8 cap) 8 ((jdE R.words V.words k).map wv)
def Bk2(w:World)(a1:Option Addr)(c1:Nat)(V:W8)(B:List UInt8)(v iv:Value)(wr:World):Prop:=∃ k:Nat,k≤64∧iv=.int .i64 k∧ORow 206 1 w wr v 8 ((jcO (jaT B) V k).words.map wv)∧ORow 206 1 w wr (.slice a1 64 c1) 64 ((jaT B).map wv)
theorem joI(w:World)(bh bk ch:Nat)(V:W8)(s:ByteArray)(hs:s.size=64)(hV:∀ j u,(V.words.map wv)[j]?=some u→w.cell? ⟨bh,j,none⟩=some u)(hK:Blk w bk (.cells (jdA.map wv).toArray 206)) :
  Calls Tryz.prog 141 #[.slice (some ⟨bh,0,none⟩) 8 ch,.slice (some ⟨bk,0,none⟩) 64 64,.string s] w fun e w'=>∃ g c,e=.returned (.slice (some ⟨g,0,none⟩) 8 c)∧w.heap.size≤g∧(∀ j u,((mixW V s.data.toList).words.map wv)[j]?=some u→w'.cell? ⟨g,j,none⟩=some u)∧Ext w w':=by
 have HV:=Hd hV;have HK:=Hd hK;have HSZ:=Hd hs;have hX:∀ (p q:UInt32) (w:World),(binOp .xor 206 (wv p) (wv q)).run Tryz.prog w=.ok (wv (xorW p q)) w:=fun _ _ _=>jhY;have hA:∀ (p q:UInt32) (w:World),(binOp .add 206 (wv p) (wv q)).run Tryz.prog w=.ok (wv (addW p q)) w:=fun _ _ _=>jhW;have hN:∀ (p q:UInt32) (w:World),(binOp .and 206 (wv p) (wv q)).run Tryz.prog w=.ok (wv (andW p q)) w:=fun _ _ _=>jkD;have hU:∀ (p:UInt32) (w:World),(Op.unary .xor (wv p)).run Tryz.prog w=.ok (wv (notW p)) w:=fun _ _=>jkH;have hS3:∀ (p:UInt32) (w:World),(binOp .shr 206 (wv p) (.int .u64 3)).run Tryz.prog w=.ok (wv (shrW p 3)) w:=fun _ _=>jco 3 (by decide) .u64;have hS10:∀ (p:UInt32) (w:World),(binOp .shr 206 (wv p) (.int .u64 10)).run Tryz.prog w=.ok (wv (shrW p 10)) w:=fun _ _=>jco 10 (by decide) .u64;clear hV hK hs;go_enter Tryz.func141,Tryz.ntmps141;go_wp2_with fail
 go_loopw [7,8] (fun v iv wr=>Bk1 w s.data.toList v iv wr) (fun _ iv _=>64 - (intOf iv).toNat)
 case atStart=>exact⟨0,by omega,rfl,ORow.nil _ _ (ExtR w)⟩
 case round =>
  obtain⟨k,hk,rfl,hR⟩:=hrel
  have HR:=Hd hR
  obtain⟨a1,c1,hsl⟩:=hR.sl
  subst hsl;clear hR
  by_cases hlt:k < 64
  ·have b1:(k:Int) < 64:=by omega
   by_cases h16:k < 16
   ·have b2:(k:Int) < 16:=by omega
    go_wp2_with fail
    refine (jqB wr s k (by have:=HSZ.o;omega) (by have:=HSZ.o;omega)).mono ?_;rintro e w1 ⟨rfl,hE⟩;have HR1:=Hd (HR.o.mono hE);have HW:=Hd (jr2 s.data.toList h16);clear hE HR
    obtain⟨x,hx⟩:∃ x,x=jdD s.data.toList k:=⟨_,rfl⟩
    have HX:=Hd hx;rw[←hx,show wv x=.int .u32 (x.toNat:Int)from rfl];clear hx;have hm1:k+1≤maxLen:=by unfold maxLen;omega
    have hm2:(k+1) * 4≤140737488355328:=by omega
    go_wp2_with (at_builtin;refine jbr Tryz.sWords (HR1.o.mono ((ExtR w1).alloc _)) (.tmp 30) (.tmp 34) rfl rfl rfl (jbg (Blk.new w1 _)) (news:=[wv x]) (by intro u hu;simp at hu;subst hu;rfl) rfl rfl hm1 hm2 ?_;intro v' w' r1 r2 r3)
    have r1':ORow 206 1 w w' v' (k+1) ((wL s.data.toList (k+1)).map wv):=by rw[HW.o,List.map_append, ←HX.o];exact r1
    obtain⟨a8,c8,rfl⟩:=r1'.sl
    have HR5:=Hd r1';clear r1 r2 r3 r1' HR1;go_wp2_with fail
    go_roundw
    case rel=>exact⟨k+1,by omega,by go_num,HR5.o⟩
    case measure=>simp[intOf];omega
   ·have b2:¬(k:Int) < 16:=by omega
    obtain⟨a15,ha15⟩:∃ a,a=k - 15:=⟨_,rfl⟩
    obtain⟨a2,ha2⟩:∃ a,a=k - 2:=⟨_,rfl⟩
    obtain⟨a16,ha16⟩:∃ a,a=k - 16:=⟨_,rfl⟩
    obtain⟨a7,ha7⟩:∃ a,a=k - 7:=⟨_,rfl⟩
    have f15:(k:Int) - 15=(a15:Int):=by omega
    have f2:(k:Int) - 2=(a2:Int):=by omega
    have f16:(k:Int) - 16=(a16:Int):=by omega
    have f7:(k:Int) - 7=(a7:Int):=by omega
    have l15:a15 < k:=by omega
    have l2:a2 < k:=by omega
    have l16:a16 < k:=by omega
    have l7:a7 < k:=by omega
    obtain⟨WL,hWL⟩:∃ WL,WL=wL s.data.toList k:=⟨_,rfl⟩
    have hln:WL.length=k:=by rw[hWL,jr1]
    have HNX:=Hd (show wL s.data.toList (k+1)=WL++[addW (addW (addW (WL.getD a16 0) (sig0 (WL.getD a15 0))) (WL.getD a7 0)) (sig1 (WL.getD a2 0))] by
     rw[jr3 _ h16, ←hWL];unfold jgL;rw[hln, ←ha16, ←ha15, ←ha7, ←ha2])
    rw[←hWL]at HR;have HLN:=Hd hln;clear ha15 ha2 ha16 ha7 hWL hln
    obtain⟨_,⟨h0,_⟩ |⟨g,cap,cur,h0,_⟩⟩:=HR.o.own
    ·obtain⟨_,h0,_⟩:=Value.slice.inj h0
     omega
    obtain⟨rfl,_,rfl⟩:=Value.slice.inj h0
    have hcell:∀ j,j < k→wr.cell? ⟨g,j,none⟩=some (wv (WL.getD j 0)):=fun j hj=>by
     have h:=HR.o.own.cells (g:=g) rfl j (wv (WL.getD j 0)) (by
      rw[List.getElem?_map,List.getElem?_eq_getElem (by rw[HLN.o];exact hj)];simp[show j < WL.length by rw[HLN.o];exact hj])
     rwa [Addr.add_lit,Nat.zero_add]at h
    have Q15:=Hd (hcell a15 l15);have Q2:=Hd (hcell a2 l2);have Q16:=Hd (hcell a16 l16);have Q7:=Hd (hcell a7 l7);have q15:=hcell a15 l15;have q2:=hcell a2 l2
    obtain⟨x15,hx15⟩:∃ x,x=WL.getD a15 0:=⟨_,rfl⟩
    obtain⟨x2,hx2⟩:∃ x,x=WL.getD a2 0:=⟨_,rfl⟩
    obtain⟨x16,hx16⟩:∃ x,x=WL.getD a16 0:=⟨_,rfl⟩
    obtain⟨x7,hx7⟩:∃ x,x=WL.getD a7 0:=⟨_,rfl⟩
    rw[←hx15]at q15 Q15 HNX;rw[←hx2]at q2 Q2 HNX;rw[←hx16]at Q16 HNX;rw[←hx7]at Q7 HNX;have L16:=Hd (show WL[a16]?=some x16 from by rw[hx16,List.getElem?_eq_getElem (by rw[HLN.o];exact l16)];simp[show a16 < WL.length by rw[HLN.o];exact l16]);have L7:=Hd (show WL[a7]?=some x7 from by rw[hx7,List.getElem?_eq_getElem (by rw[HLN.o];exact l7)];simp[show a7 < WL.length by rw[HLN.o];exact l7]);clear hcell hx15 hx2 hx16 hx7 h0;go_wp2_with fail
    refine (jsI wr x15).mono ?_;rintro e w' ⟨rfl,rfl⟩;go_wp2_with fail
    refine (jrP wr x15).mono ?_;rintro e w' ⟨rfl,rfl⟩;go_wp2_with fail
    refine (jrO wr x2).mono ?_;rintro e w' ⟨rfl,rfl⟩;go_wp2_with fail
    refine (jrQ wr x2).mono ?_;rintro e w' ⟨rfl,rfl⟩;go_wp2_with fail
    have hm1:k+1≤maxLen:=by unfold maxLen;omega
    have hm2:(k+1) * 4≤140737488355328:=by omega
    have HM:=Hd (And.intro hm1 hm2);clear hm1 hm2;refine jaL [0,1,2,3,4,5,6,7,8,9,10,11,12,13,14,15,16,17,18] [16,17] Ext (fun x y=>∀ vs,ORow 206 1 w x (.slice (some ⟨g,0,none⟩) k c1) k vs→ORow 206 1 w y (.slice (some ⟨g,0,none⟩) k c1) k vs) ExtR ExtT (fun x y z h1 h2 vs h=>h2 vs (h1 vs h)) (fun x y h vs k=>k.mono h) (by kernel_rfl) (by kernel_rfl) (by kernel_rfl) ?_;have hrd:∀ w1,(∀ vs,ORow 206 1 w wr.drew (.slice (some ⟨g,0,none⟩) k c1) k vs→ORow 206 1 w w1 (.slice (some ⟨g,0,none⟩) k c1) k vs)→∀ j x,WL[j]?=some x→w1.cell? ⟨g,j,none⟩=some (wv x):=fun w1 h j x hj=>by
     have h:=(h _ (HR.o.mono (jas wr))).own.cells (g:=g) rfl j (wv x) (by rw[List.getElem?_map,hj];rfl)
     rwa [Addr.add_lit,Nat.zero_add]at h
    iterate 5 (refine jaq _ rfl (by kernel_rfl) rfl rfl (fun K hK=>?_);go_big_quiet_op;refine hK _ ?_;clear hK K)
    refine jaQ ⟨g,a16,none⟩ _ rfl (by kernel_rfl) rfl rfl (fun w1 h1=>jaa Tryz.uU32 rfl (hrd w1 h1 a16 x16 L16.o)) ?_;simp only[Act.put,sA,sB,sC];iterate 6 (refine jaq _ rfl (by kernel_rfl) rfl rfl (fun K hK=>?_);go_big_quiet_op;refine hK _ ?_;clear hK K)
    refine jaQ ⟨g,a7,none⟩ _ rfl (by kernel_rfl) rfl rfl (fun w1 h1=>jaa Tryz.uU32 rfl (hrd w1 h1 a7 x7 L7.o)) ?_;simp only[Act.put,sA,sB,sC];iterate 3 (refine jaq _ rfl (by kernel_rfl) rfl rfl (fun K hK=>?_);go_big_quiet_op;refine hK _ ?_;clear hK K)
    obtain⟨nx,hnx⟩:∃ x,x=addW (addW (addW x16 (xorW (xorW (rotW x15 7) (rotW x15 18)) (shrW x15 3))) x7) (xorW (xorW (rotW x2 17) (rotW x2 19)) (shrW x2 10)):=⟨_,rfl⟩
    have HNX2:=Hd (show wL s.data.toList (k+1)=WL++[nx] by rw[HNX.o,hnx];rfl);rw[←hnx,show wv nx=.int .u32 (nx.toNat:Int)from rfl];clear hnx hrd;refine jaV _ rfl (by kernel_rfl) rfl (fun w2 he K hK=>?_);have HR2:=Hd (HR.o.mono ((jas wr).trans he));clear he;go_simp;refine hK _ _ (fun vs h=>h.mono ((ExtR w2).alloc _)) ?_;clear hK K;refine jaV _ rfl (by kernel_rfl) rfl (fun w3 he K hK=>?_);have HR3:=Hd (HR2.o.mono (((ExtR w2).alloc _).trans he));have hB:∀ j u,([wv nx]:List Value)[j]?=some u→w3.cell? ((⟨w2.heap.size,0,none⟩:Addr).add j)=some u:=fun j u hj=>jab (jbg (Blk.new w2 (.cells [wv nx].toArray 206)) j u hj) he;refine jqK Tryz.sWords HR3.o (.tmp 62) (.tmp 78) rfl rfl hB (by intro u hu;simp at hu;subst hu;rfl) rfl rfl HM.o.1 HM.o.2 (fun v' w4 r1 r2 r3 r4=>hK _ _ (fun vs h=>by
     have e:vs=WL.map wv:=by
      have h1:=h.own;have h2:=HR3.o.own
      obtain⟨_,⟨e1,_⟩ |⟨g1,c1',cur1,e1,_,e2,_,_,_,e3⟩⟩:=h1
      ·cases e1
      ·obtain⟨_,⟨f1,_⟩ |⟨g2,c2',cur2,f1,_,f2,_,_,_,f3⟩⟩:=h2
       ·cases f1
       ·have q1:=congrArg Addr.block (Option.some.inj (Value.slice.inj e1).1)
        have q2:=congrArg Addr.block (Option.some.inj (Value.slice.inj f1).1);have q1:g=g1:=q1;have q2:g=g2:=q2;subst q1 q2;rw[e2]at f2;have f2:=Option.some.inj f2;injection f2 with f2;rw[←e3,f2,f3]
     rw[e];exact r4) ?_)
    have r1':ORow 206 1 w w4 v' (k+1) ((wL s.data.toList (k+1)).map wv):=by rw[HNX2.o,List.map_append];exact r1
    have HR4:=Hd r1';clear hK K he r1 r2 r3 r4 r1' hB HR2 HR3
    obtain⟨a4,c4,rfl⟩:=HR4.o.sl
    simp only[Act.put,sA,sB,sC]
    (refine jaq _ rfl (by kernel_rfl) rfl rfl (fun K hK=>?_);go_big_quiet_op;refine hK _ ?_;clear hK K)
    refine jbI (by kernel_rfl) (fun w5 he=>?_);have HR5:=Hd (HR4.o.mono he);clear he HR4;go_wp2_with fail
    go_roundw
    case rel=>exact⟨k+1,by omega,by go_num,HR5.o⟩
    case measure=>simp[intOf];omega
  ·have hk64:k=64:=by omega
   subst hk64;have HW:=Hd (show ORow 206 1 w wr (.slice a1 64 c1) 64 ((jaT s.data.toList).map wv)from HR.o);have HC0:=Hd (show ORow 206 1 w (wr.alloc (.cells #[] 206)) (.slice (some ⟨wr.heap.size,0,none⟩) 0 0) 0 []from ORow.lit #[] HR.o.ext (by decide) rfl);have HV1:=Hd (show ∀ j u,(V.words.map wv)[j]?=some u→(wr.alloc (.cells #[] 206)).cell? ((⟨bh,0,none⟩:Addr).add j)=some u from fun j u hj=>by
    rw[Addr.add_lit,Nat.zero_add];exact jab (HV.o _ _ hj) (HR.o.ext.trans ((ExtR wr).alloc _)))
   go_wp2_with (at_builtin;refine jbr Tryz.sWords HC0.o (.tmp 80) (.tmp 81) rfl rfl rfl HV1.o (fun u hu=>by obtain⟨x,_,rfl⟩:=List.mem_map.1 hu;rfl) rfl rfl (by decide) (by decide) ?_;intro v' w' r1 r2 r3)
   have HR2:=Hd (show ORow 206 1 w w' v' 8 ((jcO (jaT s.data.toList) V 0).words.map wv)from r1);have HW2:=Hd ((HW.o.mono ((ExtR wr).alloc _)).keeps r2 (fun b hb e=>by
    have h1:=HW.o.lt b hb;have e:some wr.heap.size=some b:=e
    have:=Option.some.inj e
    omega) (fun b hb e=>by
    have e:some wr.heap.size=some b:=e
    have:=Option.some.inj e
    have:=HW.o.ext.size
    omega))
   obtain⟨a8,c8,hsl⟩:=HR2.o.sl
   subst hsl;clear r1 r2 r3 HR HC0 HV1;go_wp2_with fail
   go_loopw [13,14] (fun v iv wr=>Bk2 w a1 c1 V s.data.toList v iv wr) (fun _ iv _=>64 - (intOf iv).toNat)
   case atStart=>exact⟨0,by omega,rfl,HR2.o,HW2.o⟩
   case round =>
    obtain⟨k,hk,rfl,hR,hW⟩:=hrel
    have HR:=Hd hR;have HW:=Hd hW
    obtain⟨v,hv⟩:∃ v,v=jcO (jaT s.data.toList) V k:=⟨_,rfl⟩
    rw[←hv]at HR;have HVK:=Hd hv
    obtain⟨_,⟨h0,_⟩ |⟨g,cap,cur,h0,_⟩⟩:=hR.own
    ·obtain⟨_,_,e⟩:=hR.sl
     rw[e]at h0;cases (Value.slice.inj h0).2.1
    subst h0;clear hR hW hv
    by_cases hlt:k < 64
    ·have b1:(k:Int) < 64:=by omega
     obtain⟨_,⟨h0,_⟩ |⟨g7,cap7,cur7,h0,_⟩⟩:=HW.o.own
     ·cases (Value.slice.inj h0).2.1
     obtain⟨rfl,_,rfl⟩:=Value.slice.inj h0
     obtain⟨ck,hck⟩:∃ ck,ck=jdA.getD k 0:=⟨_,rfl⟩
     obtain⟨wk,hwk⟩:∃ wk,wk=(jaT s.data.toList).getD k 0:=⟨_,rfl⟩
     have qc:wr.cell? ⟨bk,k,none⟩=some (wv ck):=by
      refine jab (HK.o.cellL ?_) HR.o.ext;rw[List.getElem?_map,List.getElem?_eq_getElem (show k < jdA.length from hlt),hck];simp[show k < jdA.length from hlt]
     have hsl:(jaT s.data.toList).length=64:=by simp[jaT,jbV]
     have qw:wr.cell? ⟨g7,k,none⟩=some (wv wk):=by
      have h:=HW.o.own.cells (g:=g7) rfl k (wv wk) (by
       rw[List.getElem?_map,List.getElem?_eq_getElem (by rw[hsl];exact hlt),hwk];simp[hsl,hlt])
      rwa [Addr.add_lit,Nat.zero_add]at h
     have HNX:=Hd (show jcO (jaT s.data.toList) V (k+1)=ji3 v ck wk by rw[HVK.o,hck,hwk];rfl);clear h0 hck hwk hsl
     obtain⟨x0,x1,x2,x3,x4,x5,x6,x7⟩:=v
     have hcell:∀ j u,([wv x0,wv x1,wv x2,wv x3,wv x4,wv x5,wv x6,wv x7]:List Value)[j]?=some u→wr.cell? ⟨g,j,none⟩=some u:=fun j u hj=>by
      have h:=HR.o.own.cells (g:=g) rfl j u hj
      rwa [Addr.add_lit,Nat.zero_add]at h
     have q0:=hcell 0 _ rfl;have q1:=hcell 1 _ rfl;have q2:=hcell 2 _ rfl;have q3:=hcell 3 _ rfl;have q4:=hcell 4 _ rfl;have q5:=hcell 5 _ rfl;have q6:=hcell 6 _ rfl;have q7:=hcell 7 _ rfl;clear hcell;have QC:=Hd qc;have QW:=Hd qw;have Q0:=Hd q0;have Q1:=Hd q1;have Q2:=Hd q2;have Q3:=Hd q3;have Q4:=Hd q4;have Q5:=Hd q5;have Q6:=Hd q6;have Q7:=Hd q7;clear q0 q1 q2 q3 q4 q5 q6 q7 qc qw;go_wp2_with fail
     refine jan [0,1,2,3,4,5,6,7,8,9,10,11,12,13,14,15,16,17,18,19,20,21,22,23] Ext ExtR ExtT (by kernel_rfl) (by kernel_rfl) (by kernel_rfl) ?_;iterate 2 (refine jae _ rfl (by kernel_rfl) rfl rfl (fun K hK=>?_);go_big_quiet_op;refine hK _ ?_;clear hK K)
     refine jak ⟨g,0,none⟩ _ rfl (by kernel_rfl) rfl rfl (fun w1 h1=>jaa Tryz.uU32 rfl (jab Q0.o ((jas wr).trans h1))) ?_;simp only[Act.put,sA,sB,sC];iterate 2 (refine jae _ rfl (by kernel_rfl) rfl rfl (fun K hK=>?_);go_big_quiet_op;refine hK _ ?_;clear hK K)
     refine jak ⟨g,1,none⟩ _ rfl (by kernel_rfl) rfl rfl (fun w1 h1=>jaa Tryz.uU32 rfl (jab Q1.o ((jas wr).trans h1))) ?_;simp only[Act.put,sA,sB,sC];iterate 2 (refine jae _ rfl (by kernel_rfl) rfl rfl (fun K hK=>?_);go_big_quiet_op;refine hK _ ?_;clear hK K)
     refine jak ⟨g,2,none⟩ _ rfl (by kernel_rfl) rfl rfl (fun w1 h1=>jaa Tryz.uU32 rfl (jab Q2.o ((jas wr).trans h1))) ?_;simp only[Act.put,sA,sB,sC];iterate 2 (refine jae _ rfl (by kernel_rfl) rfl rfl (fun K hK=>?_);go_big_quiet_op;refine hK _ ?_;clear hK K)
     refine jak ⟨g,4,none⟩ _ rfl (by kernel_rfl) rfl rfl (fun w1 h1=>jaa Tryz.uU32 rfl (jab Q4.o ((jas wr).trans h1))) ?_;simp only[Act.put,sA,sB,sC];iterate 2 (refine jae _ rfl (by kernel_rfl) rfl rfl (fun K hK=>?_);go_big_quiet_op;refine hK _ ?_;clear hK K)
     refine jak ⟨g,5,none⟩ _ rfl (by kernel_rfl) rfl rfl (fun w1 h1=>jaa Tryz.uU32 rfl (jab Q5.o ((jas wr).trans h1))) ?_;simp only[Act.put,sA,sB,sC];iterate 2 (refine jae _ rfl (by kernel_rfl) rfl rfl (fun K hK=>?_);go_big_quiet_op;refine hK _ ?_;clear hK K)
     refine jak ⟨g,6,none⟩ _ rfl (by kernel_rfl) rfl rfl (fun w1 h1=>jaa Tryz.uU32 rfl (jab Q6.o ((jas wr).trans h1))) ?_;simp only[Act.put,sA,sB,sC];iterate 6 (refine jae _ rfl (by kernel_rfl) rfl rfl (fun K hK=>?_);go_big_quiet_op;refine hK _ ?_;clear hK K)
     refine jaJ (by kernel_rfl) (fun w3 he=>?_);have X3:=Hd ((jas wr).trans he);clear he;go_wp2_with fail
     refine jan [0,1,2,3,4,5,6,7,8,9,10,11,12,13,14,15,16,17,18,19,20,21,22,23,24,25,26,27,28,29,30,31] Ext ExtR ExtT (by kernel_rfl) (by kernel_rfl) (by kernel_rfl) ?_;iterate 2 (refine jae _ rfl (by kernel_rfl) rfl rfl (fun K hK=>?_);go_big_quiet_op;refine hK _ ?_;clear hK K)
     refine jak ⟨g,7,none⟩ _ rfl (by kernel_rfl) rfl rfl (fun w1 h1=>jaa Tryz.uU32 rfl (jab Q7.o ((X3.o.trans (jas w3)).trans h1))) ?_;simp only[Act.put,sA,sB,sC]
     (refine jae _ rfl (by kernel_rfl) rfl rfl (fun K hK=>?_);go_big_quiet_op;refine hK _ ?_;clear hK K)
     refine jaN _ 185 #[wv x4,.int .u64 6] (wv (rotW x4 6)) rfl (by kernel_rfl) rfl (fun w1=>jau Tryz.enterRight3 (by kernel_rfl)) (fun w1 h1=>(jsH w1 x4).mono (fun e w2 ⟨h1,h2⟩=>⟨h1,h2 ▸ ExtR w1⟩)) ?_;simp only[Act.put,sA,sB,sC]
     (refine jae _ rfl (by kernel_rfl) rfl rfl (fun K hK=>?_);go_big_quiet_op;refine hK _ ?_;clear hK K)
     refine jaN _ 185 #[wv x4,.int .u64 11] (wv (rotW x4 11)) rfl (by kernel_rfl) rfl (fun w1=>jau Tryz.enterRight3 (by kernel_rfl)) (fun w1 h1=>(jrM w1 x4).mono (fun e w2 ⟨h1,h2⟩=>⟨h1,h2 ▸ ExtR w1⟩)) ?_;simp only[Act.put,sA,sB,sC];iterate 2 (refine jae _ rfl (by kernel_rfl) rfl rfl (fun K hK=>?_);go_big_quiet_op;refine hK _ ?_;clear hK K)
     refine jaN _ 185 #[wv x4,.int .u64 25] (wv (rotW x4 25)) rfl (by kernel_rfl) rfl (fun w1=>jau Tryz.enterRight3 (by kernel_rfl)) (fun w1 h1=>(jrS w1 x4).mono (fun e w2 ⟨h1,h2⟩=>⟨h1,h2 ▸ ExtR w1⟩)) ?_;simp only[Act.put,sA,sB,sC];iterate 14 (refine jae _ rfl (by kernel_rfl) rfl rfl (fun K hK=>?_);go_big_quiet_op;refine hK _ ?_;clear hK K)
     refine jak ⟨bk,k,none⟩ _ rfl (by kernel_rfl) rfl rfl (fun w1 h1=>jaa Tryz.uU32 rfl (jab QC.o ((X3.o.trans (jas w3)).trans h1))) ?_;simp only[Act.put,sA,sB,sC];iterate 4 (refine jae _ rfl (by kernel_rfl) rfl rfl (fun K hK=>?_);go_big_quiet_op;refine hK _ ?_;clear hK K)
     refine jak ⟨g7,k,none⟩ _ rfl (by kernel_rfl) rfl rfl (fun w1 h1=>jaa Tryz.uU32 rfl (jab QW.o ((X3.o.trans (jas w3)).trans h1))) ?_;simp only[Act.put,sA,sB,sC];iterate 2 (refine jae _ rfl (by kernel_rfl) rfl rfl (fun K hK=>?_);go_big_quiet_op;refine hK _ ?_;clear hK K)
     refine jaJ (by kernel_rfl) (fun w4 he=>?_);have X4:=Hd (X3.o.trans ((jas w3).trans he));clear he X3
     obtain⟨tv,htv⟩:∃ t,t=tOne ⟨x0,x1,x2,x3,x4,x5,x6,x7⟩ ck wk:=⟨_,rfl⟩
     have htv':=htv;unfold tOne at htv';simp only at htv';rw[←htv'];have HTV:=Hd htv;clear htv htv';go_wp2_with fail
     refine (jsG w4 x0).mono ?_;rintro e w' ⟨rfl,rfl⟩;go_wp2_with fail
     refine (jrN w4 x0).mono ?_;rintro e w' ⟨rfl,rfl⟩;go_wp2_with fail
     refine (jrR w4 x0).mono ?_;rintro e w' ⟨rfl,rfl⟩;have q3:=jab Q3.o X4.o
     obtain⟨sv,hsv⟩:∃ t,t=addW (xorW (xorW (rotW x0 2) (rotW x0 13)) (rotW x0 22)) (xorW (xorW (andW x0 x1) (andW x0 x2)) (andW x1 x2)):=⟨_,rfl⟩
     have HSV:=Hd (show tTwo ⟨x0,x1,x2,x3,x4,x5,x6,x7⟩=sv from hsv.symm);go_wp2_with (refine jjg (.slice (some ⟨w4.heap.size,0,none⟩) 8 8) (w4.alloc (.cells #[wv (addW tv sv),wv x0,wv x1,wv x2,wv (addW x3 tv),wv x4,wv x5,wv x6] 206)) (by rw[hsv];kernel_rfl) ?_;clear hsv q3)
     have HN:=Hd (show ORow 206 1 w (w4.alloc (.cells #[wv (addW tv sv),wv x0,wv x1,wv x2,wv (addW x3 tv),wv x4,wv x5,wv x6] 206)) (.slice (some ⟨w4.heap.size,0,none⟩) 8 8) 8 ((jcO (jaT s.data.toList) V (k+1)).words.map wv)from by
      have h:=ORow.lit (T:=206) (sz:=1) #[wv (addW tv sv),wv x0,wv x1,wv x2,wv (addW x3 tv),wv x4,wv x5,wv x6] (n:=8) (HR.o.ext.trans X4.o) (by decide) rfl;rw[HNX.o];unfold ji3;rw[HSV.o, ←HTV.o];exact h)
     have HW5:=Hd (HW.o.mono (X4.o.trans ((ExtR w4).alloc (.cells #[wv (addW tv sv),wv x0,wv x1,wv x2,wv (addW x3 tv),wv x4,wv x5,wv x6] 206))))
     obtain⟨w5,hw5⟩:∃ w5,w5=w4.alloc (.cells #[wv (addW tv sv),wv x0,wv x1,wv x2,wv (addW x3 tv),wv x4,wv x5,wv x6] 206):=⟨_,rfl⟩
     rw[←hw5]at HN HW5 ⊢;clear hw5;go_wp2_with fail
     go_roundw
     case rel=>exact⟨k+1,by omega,by go_num,HN.o,HW5.o⟩
     case measure=>simp[intOf];omega
    ·have hk64:k=64:=by omega
     subst hk64;have HR0:=Hd (show ORow 206 1 w wr (.slice (some ⟨g,0,none⟩) 8 cap) 8 ((jdE v.words V.words 0).map wv)from HR.o);have HFIN:=Hd (show (jdE v.words V.words 8)=(mixW V s.data.toList).words by
      rw[jib,HVK.o,W8.add_comm];rfl)
     clear HW HR HVK;go_wp2_with fail
     rw[show ((64:Nat):Int)=(64:Int)from rfl];go_loopw [23] (fun iv wr=>Bk3 w g cap v V iv wr) (fun iv _=>8 - (intOf iv).toNat)
     case atStart=>exact⟨0,by omega,rfl,HR0.o⟩
     case round =>
      obtain⟨k,hk,rfl,hR⟩:=hrel
      have HR:=Hd hR;clear hR
      by_cases hlt:k < 8
      ·have b1:(k:Int) < 8:=by omega
       obtain⟨x,y,hx,hy,hset⟩:=jnK v V hlt
       have q1:wr.cell? ⟨g,k,none⟩=some (wv x):=by
        have h:=HR.o.own.cells (g:=g) rfl k (wv x) (by rw[List.getElem?_map,hx];rfl)
        rwa [Addr.add_lit,Nat.zero_add]at h
       have q2:wr.cell? ⟨bh,k,none⟩=some (wv y):=jab (HV.o _ _ (by rw[List.getElem?_map,hy];rfl)) HR.o.ext;have Q1:=Hd q1;have Q2:=Hd q2;have HSET:=Hd hset;clear hx hy hset q1 q2;go_wp2_with fail
       refine jaw [0,1,2,3,4,5,6,7,8,9,10,11,12] [12] Ext ExtR ExtT (by kernel_rfl) (by kernel_rfl) (by kernel_rfl) ?_;iterate 5 (refine jal _ rfl (by kernel_rfl) rfl rfl (fun K hK=>?_);go_big_quiet_op;refine hK _ ?_;clear hK K)
       refine jaI ⟨g,k,none⟩ _ rfl (by kernel_rfl) rfl rfl (fun w1 h1=>jaa Tryz.uU32 rfl (jab Q1.o ((jas wr).trans h1))) ?_;simp only[Act.put,sA,sB,sC];iterate 3 (refine jal _ rfl (by kernel_rfl) rfl rfl (fun K hK=>?_);go_big_quiet_op;refine hK _ ?_;clear hK K)
       refine jaI ⟨bh,k,none⟩ _ rfl (by kernel_rfl) rfl rfl (fun w1 h1=>jaa Tryz.uU32 rfl (jab Q2.o ((jas wr).trans h1))) ?_;simp only[Act.put,sA,sB,sC];iterate 2 (refine jal _ rfl (by kernel_rfl) rfl rfl (fun K hK=>?_);go_big_quiet_op;refine hK _ ?_;clear hK K)
       refine jbl _ rfl (by kernel_rfl) rfl (fun w6 he K hK=>?_);have HR6:=Hd (HR.o.mono ((jas wr).trans he));have qq1:=jab Q1.o ((jas wr).trans he);have qq2:w6.frozen? ⟨g,k,none⟩=false:=HR6.o.own.frozenAt k;have h7:=HR6.o.set k (wv (addW x y));rw[←List.map_set,HSET.o]at h7;have HR7:=Hd h7;clear h7 he HR Q1 Q2;refine jia g k (wv (addW x y)) rfl (by kernel_rfl) (by kernel_rfl) rfl Tryz.iU32 qq1 qq2 (hK _ _ ?_);clear hK K qq1 qq2;refine jbi (by kernel_rfl) (fun w8 he=>?_);have HR8:=Hd (HR7.o.mono he);clear he HR7 HR6;go_wp2_with fail
       go_roundw
       case rel=>exact⟨k+1,by omega,by go_num,HR8.o⟩
       case measure=>simp[intOf];omega
      ·have hk8:k=8:=by omega
       subst hk8;have hfin:=HR.o;rw[HFIN.o]at hfin;have HF:=Hd hfin;clear hfin;go_wp2_with fail
       go_ret
       exact⟨g,cap,rfl,HF.o.new g rfl,fun j u hj=>by
        have h:=HF.o.own.cells (g:=g) rfl j u hj
        rwa [Addr.add_lit,Nat.zero_add]at h,HF.o.ext⟩
theorem jd4{F:BSet}{w2 w3:World}{xs:List UInt8}{n:Nat}{a:Act}{o:Oper}(hn:xs.length=n)(ho:execOp a.eval o=(do pure (.value (←convert 92 9 (.slice (some ⟨w2.heap.size,0,none⟩) n n)))))
  (h:jag F (w2.alloc (.cells (jaz xs).toArray 5)) w3) (hF:¬ F w2.heap.size) (hm:n≤maxLen):(execOp a.eval o).run Tryz.prog w3=.ok (.value (.string ⟨xs.toArray⟩)) w3:=by
 subst hn;have hB:=(Blk.new w2 (.cells (jaz xs).toArray 5)).keeps h hF;have hl:(jaz xs).length=xs.length:=by unfold jaz;rw[List.length_map]
 have hO:w3.ownsRow 0 5 1 (.slice (some ⟨w2.heap.size,0,none⟩) xs.length xs.length) xs.length (jaz xs):=
  ⟨by rw[hl,Nat.mul_one],.inr ⟨_,xs.length,_,rfl,Nat.zero_le _,hB,Nat.le_refl _,hm,by simp[hl],by simp[hl];exact List.take_of_length_le (by rw[hl];exact Nat.le_refl _)⟩⟩
 have hc:=jbz w3 Tryz.uBytes Tryz.uU8 Tryz.uStr hO;rw[ho,Sem.run_bind,hc];rfl
def jsi(w:World)(s:ByteArray)(v i:Value)(wr:World):Prop:=∃ k:Nat,k≤s.size∧i=.int .i64 k∧v=.string ⟨(jce (s.data.toList.take k)).toArray⟩∧Ext w wr
theorem jsF(x:UInt8):(x.toNat:Int) / (16:Int) % (256:Int)=((x >>> 4).toNat:Int):=by
 have:∀ f:Fin 256,(f.1:Int) / (16:Int) % (256:Int)=(((UInt8.ofNat f.1) >>> 4).toNat:Int):=by decide +kernel
 have h:=this ⟨x.toNat,x.toNat_lt⟩;simpa using h
theorem jsL(x:UInt8):(x.toNat:Int) % (16:Int)=((x &&& 15).toNat:Int):=by
 have:∀ f:Fin 256,(f.1:Int) % (16:Int)=(((UInt8.ofNat f.1) &&& 15).toNat:Int):=by decide +kernel
 have h:=this ⟨x.toNat,x.toNat_lt⟩;simpa using h
theorem jfr(a b:List UInt8):(⟨a.toArray⟩:ByteArray)++⟨b.toArray⟩=⟨(a++b).toArray⟩:=by
 apply ByteArray.ext;rw[ByteArray.data_append]
 simp
theorem jhU(w:World)(s:ByteArray)(hs:s.size≤1000000):Calls Tryz.prog 74 #[.string s] w fun e w'=>e=.returned (.string (jbe s))∧Ext w w':=by
 obtain⟨R,hR⟩:∃ R,R=jbe s:=⟨_,rfl⟩
 have HR:=Hd hR;rw[←hR];clear hR;go_enter Tryz.func74,Tryz.ntmps74;go_wp2_with fail
 go_loopw [3,4] (fun v i wr=>jsi w s v i wr) (fun _ i _=>s.size - (intOf i).toNat)
 case atStart=>exact⟨0,Nat.zero_le _,rfl,rfl,ExtR w⟩
 case round =>
  obtain⟨k,hk,rfl,rfl,hE⟩:=hrel
  have HE:=Hd hE;clear hE
  by_cases hlt:k < s.size
  ·have b1:(k:Int) < (s.size:Int):=by omega
   obtain⟨x,hx⟩:∃ x,x=s[k]:=⟨_,rfl⟩
   have HX:=Hd hx
   obtain⟨t,ht⟩:∃ t,t=jce (s.data.toList.take k):=⟨_,rfl⟩
   rw[←ht];have HT:=Hd ht;have htl:t.length≤2000000:=by
    rw[ht]
    have:∀ l:List UInt8,(jce l).length=2 * l.length:=fun l=>by
     induction l with
     | nil=>rfl
     | cons a l ih=>unfold jce at *;rw[List.flatMap_cons,List.length_append,ih];simp;omega
    rw[this,List.length_take];omega
   clear hx ht;go_wp2_with fail
   refine jaL [0,1,2,3,4,5,6,7,8,9,10,11,12] [9] Ext Ext ExtR ExtT (fun x y z h k=>h.trans k) (fun x y h=>h) (by kernel_rfl) (by kernel_rfl) (by kernel_rfl) ?_;iterate 9 (refine jaq _ rfl (by kernel_rfl) rfl rfl (fun K hK=>?_);go_big_quiet_op;refine hK _ ?_;clear hK K)
   refine jaV _ rfl (by kernel_rfl) rfl (fun w2 he K hK=>?_);have HX2:=Hd (show Ext wr w2 from(jas _).trans he);clear he;go_simp;refine hK _ _ ((ExtR w2).alloc _) ?_;clear hK K;rw[jsF,jsL];refine jdt _ (.string ⟨[s[k] >>> 4,s[k] &&& 15].toArray⟩) rfl (by kernel_rfl) rfl (fun w3 h3=>jd4 (n:=2) (xs:=[s[k] >>> 4,s[k] &&& 15]) rfl (by kernel_rfl) h3 (fun f=>f) (by decide)) ?_;simp only[Act.put,sA,sB,sC]
   obtain⟨t2,ht2⟩:∃ t2,t2=[s[k] >>> 4,s[k] &&& 15]:=⟨_,rfl⟩
   rw[←ht2];have h2l:t2.length=2:=by rw[ht2];rfl
   have HT2:=Hd ht2;have b5:¬(9223372036854775807 < (⟨t.toArray⟩:ByteArray).size+(⟨t2.toArray⟩:ByteArray).size):=by show ¬(_ < t.length+t2.length);omega
   clear ht2;iterate 2 (refine jaq _ rfl (by kernel_rfl) rfl rfl (fun K hK=>?_);go_big_quiet_op;refine hK _ ?_;clear hK K)
   refine jbI (by kernel_rfl) (fun w6 he=>?_);have HE6:=Hd (HE.o.trans ((HX2.o.alloc _).trans he));clear he;go_wp2_with fail
   go_roundw
   case rel=>exact⟨k+1,by omega,by go_num,by rw[jfr,jiP s hlt, ←HT.o, ←HT2.o],HE6.o⟩
   case measure=>simp[intOf];omega
  ·have hks:k=s.size:=by omega
   have HF:=Hd (show (⟨(jce (s.data.toList.take k)).toArray⟩:ByteArray)=R by
    rw[HR.o,List.take_of_length_le (by rw[hks];exact Nat.le_refl _)];rfl)
   rw[HF.o];clear hks;go_wp2_with fail
   go_ret
   exact⟨rfl,HE.o⟩
def padZ(l:List UInt8)(j:Nat):List UInt8:=l++128 :: List.replicate j 0
theorem jm5(l:List UInt8)(j:Nat):padZ l (j+1)=padZ l j++[0]:=by unfold padZ;rw[List.replicate_succ'];simp
theorem jhJ(l:List UInt8)(j:Nat):(padZ l j).length=l.length+1+j:=by unfold padZ;simp;omega
def zPad(n:Nat):Nat:=(119 - n % 64) % 64
def jsN(v:Value):Nat:=match v with | .string s=>s.size | _=>0
def jsf(w:World)(l:List UInt8)(sz:UInt64)(v iv:Value)(wr:World):Prop:=∃ j:Nat,j≤8∧iv=.int .i64 (7 - (j:Int))∧v=.string ⟨(padZ l (zPad l.length)++(lenL sz).take j).toArray⟩∧Ext w wr
theorem jjS(n:Nat):zPad n < 64:=Nat.mod_lt _ (by decide)
theorem jkU(n:Nat):(n+1+zPad n) % 64=56:=by unfold zPad;omega
theorem jo9{n j:Nat}(h:j < zPad n):(n+1+j) % 64≠56:=by unfold zPad at h;omega
def jse(w:World)(l:List UInt8)(v:Value)(wr:World):Prop:=∃ j:Nat,j≤zPad l.length∧v=.string ⟨(padZ l j).toArray⟩∧Ext w wr
theorem jpo(w:World)(l:List UInt8)(hs:l.length≤1000000):Calls Tryz.prog 140 #[.string ⟨l.toArray⟩] w fun e w'=>e=.returned (.string ⟨(padZ l (zPad l.length)++lenL (UInt64.ofNat l.length)).toArray⟩)∧Ext w w':=by
 obtain⟨R,hR⟩:∃ R:ByteArray,R=⟨(padZ l (zPad l.length)++lenL (UInt64.ofNat l.length)).toArray⟩:=⟨_,rfl⟩
 have HRR:=Hd hR;rw[←hR];clear hR;have hsz:(⟨l.toArray⟩:ByteArray).size=l.length:=rfl;have hcv:=Tryz.run_lit1 w 128;rw[show (((128:UInt8).toNat:Nat):Int)=128 from rfl]at hcv;have b5:¬(9223372036854775807 < (⟨l.toArray⟩:ByteArray).size+(⟨#[128]⟩:ByteArray).size):=by show ¬(_ < l.length+1);omega
 go_enter Tryz.func140,Tryz.ntmps140;go_wp2_with fail
 rw[show (⟨l.toArray⟩:ByteArray)++⟨#[128]⟩=⟨(padZ l 0).toArray⟩from by rw[show (⟨#[128]⟩:ByteArray)=⟨[128].toArray⟩from rfl,jfr];rfl]
 obtain⟨w0,hw0⟩:∃ w0,w0=w.alloc (.cells #[.int .u8 128] 5):=⟨_,rfl⟩
 have HE0:=Hd (show Ext w w0 by rw[hw0];exact (ExtR w).alloc _);rw[←hw0];clear hcv hw0 b5 hsz;go_loopw [0] (fun v wr=>jse w l v wr) (fun v _=>zPad l.length+l.length+1 - jsN v)
 case atStart=>exact⟨0,Nat.zero_le _,rfl,HE0.o⟩
 case round =>
  obtain⟨j,hj,rfl,hE⟩:=hrel
  have HE:=Hd hE;have hlen:=jhJ l j;have hst:=jm5 l j
  obtain⟨t,ht⟩:∃ t,t=padZ l j:=⟨_,rfl⟩
  rw[←ht]at hlen hst ⊢;have HT:=Hd ht;have HST:=Hd hst
  obtain⟨u,hu⟩:∃ u:ByteArray,u=⟨t.toArray⟩:=⟨_,rfl⟩
  have hus:u.size=l.length+1+j:=by rw[hu];exact hlen
  have HU:=Hd hu;have HUS:=Hd hus;have hz:=jjS l.length;rw[←hu]
  by_cases hlt:j < zPad l.length
  ·have hne:=jo9 hlt
   rw[←hus]at hne;have hmi:((u.size:Int) % 64 == 56)=false:=beq_eq_false_iff_ne.2 (by omega);have hmi2:((u.size:Int) % 64 != 56)=true:=by rw[bne,hmi];rfl
   have hmi3:¬(u.size:Int) % 64=56:=by omega
   have hcv:=Tryz.run_lit1 wr 0;rw[show (((0:UInt8).toNat:Nat):Int)=0 from rfl]at hcv;have b5:¬(9223372036854775807 < u.size+(⟨#[0]⟩:ByteArray).size):=by rw[hus];show ¬(_ < l.length+1+j+1);omega
   clear hE hlen hst ht hu hus hne;go_wp2_with fail
   go_roundw
   case rel=>exact⟨j+1,by omega,by rw[HST.o, ←jfr, ←HU.o],HE.o.alloc _⟩
   case measure =>
    show _ - (u++(⟨#[0]⟩:ByteArray)).size < _ - u.size;rw[ByteArray.size_append,HUS.o];show _ - (l.length+1+j+1) < _;omega
  ·have hje:j=zPad l.length:=by omega
   have he:=jkU l.length;have hmi:((u.size:Int) % 64 == 56)=true:=by rw[hus,hje];exact beq_iff_eq.2 (by omega)
   have hmi3:(u.size:Int) % 64=56:=by rw[hus,hje];omega
   clear hE hlen hst ht hu hus he hz hlt;go_wp2_with fail
   have hte:t=padZ l (zPad l.length):=by rw[HT.o,hje]
   have htl:t.length≤1000100:=by rw[hte,jhJ];have:=jjS l.length;omega
   obtain⟨sz,hszd⟩:∃ sz,sz=UInt64.ofNat l.length:=⟨_,rfl⟩
   have hszn:sz.toNat=l.length:=by rw[hszd,UInt64.toNat_ofNat'];omega
   have HSZ:=Hd hszd;have HSN:=Hd hszn;have HTE:=Hd hte;clear hszd hszn hte hmi hmi3 hje;go_loopw [0,4] (fun v iv wr=>jsf w l sz v iv wr) (fun _ iv _=>(intOf iv+1).toNat)
   case atStart=>exact⟨0,by omega,rfl,by rw[←HTE.o,HU.o];simp,HE.o⟩
   case round =>
    obtain⟨k,hk,rfl,rfl,hE⟩:=hrel
    have HE2:=Hd hE;clear hE
    by_cases hlt:k < 8
    ·have c1:(0:Int)≤7 - (k:Int):=by omega
     have c3:8 * (7 - (k:Int))=56 - 8 * (k:Int):=by omega
     have c4:(0:Int)≤56 - 8 * (k:Int):=by omega
     have c5:(56 - 8 * (k:Int)).toNat=56 - 8 * k:=by omega
     have c6:56 - 8 * (k:Int) < 64:=by omega
     obtain⟨v,hv⟩:∃ v:ByteArray,v=⟨(padZ l (zPad l.length)++(lenL sz).take k).toArray⟩:=⟨_,rfl⟩
     have HV:=Hd hv;have hlb:(l.length:Int) * 8 / 2 ^ (56 - 8 * k) % 256=((jc0 sz k).toNat:Int):=by
      have h:=jpi sz k;rw[HSN.o,show IntKind.u64.wrap ((l.length:Int) * 8)=(l.length:Int) * 8 by rw[IntKind.wrap_u64];omega]at h;exact h
     have hcv:=Tryz.run_lit1 wr (jc0 sz k);rw[←hlb]at hcv;have hvs:v.size≤1000300:=by
      rw[hv];show (padZ l (zPad l.length)++(lenL sz).take k).length≤_;rw[List.length_append,List.length_take,jdr, ←HTE.o];omega
     have b5:¬(9223372036854775807 < v.size+(⟨#[jc0 sz k]⟩:ByteArray).size):=by show ¬(_ < v.size+1);omega
     have htk:(lenL sz).take (k+1)=(lenL sz).take k++[jc0 sz k]:=by
      rw[List.take_add_one,List.getElem?_eq_getElem (by rw[jdr];exact hlt)];simp[lenL]
     have HTK:=Hd htk;rw[←hv];clear hv hlb htk;go_wp2_with fail
     go_roundw
     case rel=>exact⟨k+1,by omega,by simp;omega,by rw[HTK.o, ←List.append_assoc, ←jfr, ←HV.o],HE2.o.alloc _⟩
     case measure=>simp[intOf];omega
    ·have hk8:k=8:=by omega
     subst hk8;have c1:¬(0:Int)≤7 - ((8:Nat):Int):=by omega
     have HF:=Hd (show (⟨(padZ l (zPad l.length)++(lenL sz).take 8).toArray⟩:ByteArray)=R by
      rw[HRR.o, ←HSZ.o,List.take_of_length_le (by rw[jdr];exact Nat.le_refl _)])
     rw[HF.o];clear hlt;go_wp2_with fail
     go_ret
     exact⟨rfl,HE2.o⟩
end
section
open Go Go.RowKit
def hBlk(V:W8)(P:List UInt8):Nat→W8
 | 0=>V
 | j+1=>mixW (hBlk V P j) ((P.drop (64 * j)).take 64)
theorem jqe{B X:List UInt8}(h:B.length=64)(hx:X.length=64):layB B 0 X=X:=by
 unfold layB;rw[List.take_zero,List.nil_append,List.drop_of_length_le (by omega),List.append_nil]
theorem jes(s:HSt)(P:List UInt8)(hs:s.Ok)(h0:s.n=0):∀ j:Nat,64 * j≤P.length→∃ B,jbf s (P.take (64 * j))=⟨hBlk s.V P j,B,0⟩
 | 0,_=>⟨s.B,by
  obtain⟨V,B,n⟩:=s
  have h0:n=0:=h0;subst h0;simp[jbf,hBlk]⟩
 | j+1,h=>by
  obtain⟨B,hB⟩:=jes s P hs h0 j (by omega)
  have hok:(jbf s (P.take (64 * j))).Ok:=hs.all _;rw[hB]at hok;have hx:((P.drop (64 * j)).take 64).length=64:=by rw[List.length_take,List.length_drop];omega
  have e:P.take (64 * (j+1))=P.take (64 * j)++(P.drop (64 * j)).take 64:=by
   rw[show 64 * (j+1)=64 * j+64 by omega,List.take_add]
  refine⟨(P.drop (64 * j)).take 64,?_⟩
  rw[e,jbY,hB,jfu _ _ hok (by rw[hx])];show HSt.mk (mixW (hBlk s.V P j) (layB B 0 _)) (layB B 0 _) 0=_;rw[jqe hok.1 hx];rfl
theorem jrK(l:List UInt8):(jbf jfy l).n=l.length % 64:=by
 obtain⟨B,hB⟩:=jes jfy l jfH rfl (l.length / 64) (by omega)
 have hok:(jbf jfy (l.take (64 * (l.length / 64)))).Ok:=jfH.all _;rw[hB]at hok;have e:l=l.take (64 * (l.length / 64))++l.drop (64 * (l.length / 64)):=(List.take_append_drop _ _).symm;have hl:(l.drop (64 * (l.length / 64))).length=l.length % 64:=by rw[List.length_drop];omega
 conv=>lhs;rw[e]
 rw[jbY,hB,jfv _ _ hok (by rw[hl];show 0+_ < 64;omega)];show 0+_=_;rw[hl];omega
def padL(l:List UInt8):List UInt8:=padZ l (zPad l.length)++lenL (UInt64.ofNat l.length)
theorem jhI(l:List UInt8):(padL l).length=l.length+9+zPad l.length:=by
 unfold padL;rw[List.length_append,jhJ,jdr];omega
theorem jm4(l:List UInt8):(padL l).length % 64=0:=by
 rw[jhI];have:=jkU l.length;omega
theorem jqE(l:List UInt8):shaL l=⟨(outL (hBlk jg6 (padL l) ((padL l).length / 64)).words).toArray⟩:=by
 have hz:jhk (jbf jfy l).n=zPad l.length:=by rw[jrK];unfold jhk zPad;omega
 have e:l++jjb (zPad l.length) (UInt64.ofNat l.length)=padL l:=by unfold padL padZ jjb;simp
 obtain⟨B,hB⟩:=jes jfy (padL l) jfH rfl ((padL l).length / 64) (by omega)
 rw[List.take_of_length_le (by have:=jm4 l;omega)]at hB;unfold shaL sumB;rw[hz, ←jbY,e,hB];rfl
end
section
open Go Go.RowKit
attribute [local go_sem] Oper.semAt_some
def Of3R(w:World)(P:List UInt8)(hv iv:Value)(wr:World):Prop:=∃ (j b c:Nat),64 * j≤P.length∧iv=.int .i64 ((64 * j:Nat):Int)∧hv=.slice (some ⟨b,0,none⟩) 8 c∧(∀ i u,((hBlk jg6 P j).words.map wv)[i]?=some u→wr.cell? ⟨b,i,none⟩=some u)∧Ext w wr
def Of3S(w:World)(V:W8)(ov iv:Value)(wr:World):Prop:=∃ k:Nat,k≤8∧iv=.int .i64 k∧ov=.string ⟨(outL (V.words.take k)).toArray⟩∧Ext w wr
theorem jsM(w:World)(s:ByteArray)(hs:s.size≤1000000):Calls Tryz.prog 92 #[.string s] w fun e w'=>e=.returned (.string (shaB s))∧Ext w w':=by
 have HS:=Hd hs
 obtain⟨P,hP⟩:∃ P,P=padL s.data.toList:=⟨_,rfl⟩
 have hl:s.data.toList.length=s.size:=rfl;have hp1:P.length % 64=0:=by rw[hP];exact jm4 _
 have hp2:P.length≤1000100:=by rw[hP,jhI];have:=jjS s.data.toList.length;omega
 have hp3:0 < P.length:=by rw[hP,jhI];omega
 have HP:=Hd (show shaB s=⟨(outL (hBlk jg6 P (P.length / 64)).words).toArray⟩ by rw[hP];exact jqE _);have HPD:=Hd (And.intro hp1 (And.intro hp2 hp3));have hpad:=jpo w s.data.toList hs;clear hs hl hp1 hp2 hp3;go_enter Tryz.func92,Tryz.ntmps92;go_wp2_with fail
 refine (jo0 w).mono ?_;rintro e w1 ⟨b1,b2,rfl,h1,h2,hne,hE,hB1,hB2⟩;have HE1:=Hd hE;have HB1:=Hd hB1;have HB2:=Hd hB2;clear hE hB1 hB2 hpad;go_wp2_with fail
 refine (jpo w1 s.data.toList HS.o).mono ?_;rintro e w2 ⟨rfl,hE⟩;have HE2:=Hd (HE1.o.trans hE);have HX2:=Hd hE;rw[show padZ s.data.toList (zPad s.data.toList.length)++lenL (UInt64.ofNat s.data.toList.length)=P from hP.symm]
 obtain⟨PB,hPB⟩:∃ PB:ByteArray,PB=⟨P.toArray⟩:=⟨_,rfl⟩
 have HPB:=Hd (And.intro (show PB.size=P.length by rw[hPB];rfl) hPB);rw[←hPB];clear hP hPB hE;go_wp2_with fail
 go_loopw [3,6] (fun hv iv wr=>Of3R w2 P hv iv wr) (fun _ iv _=>P.length+64 - (intOf iv).toNat)
 case atStart=>exact⟨0,b1,8,by omega,rfl,rfl,fun i u hi=>jab (HB1.o.cellL hi) HX2.o,ExtR w2⟩
 case round =>
  obtain⟨j,b,c,hj,rfl,rfl,hcell,hE⟩:=hrel
  have HCELL:=Hd hcell;have HE:=Hd hE;clear hcell hE
  obtain⟨m,hm⟩:∃ m,m=64 * j:=⟨_,rfl⟩
  have HM:=Hd hm;rw[←hm]at hj ⊢;have hsz:=HPB.o.1;have hmod:=HPD.o.1;have hbd:=HPD.o.2.1
  by_cases hlt:m < P.length
  ·have b0:(m:Int) < (PB.size:Int):=by omega
   have hw64:wrap64 ((m:Int)+64)=((m+64:Nat):Int):=by unfold wrap64;omega
   have b5:m+64≤PB.size:=by omega
   have hx:(PB.extract m (m+64)).data.toList=(P.drop (64 * j)).take 64:=by
    rw[HPB.o.2, ←hm,ByteArray.data_extract,Array.toList_extract,List.extract_eq_take_drop]
    congr 1;omega
   have hxs:(PB.extract m (m+64)).size=64:=by rw[ByteArray.size_extract];omega
   have HX:=Hd (And.intro hx hxs);clear hm hsz hmod hbd hx hxs;go_wp2_with fail
   obtain⟨sb,hsb⟩:∃ sb,sb=PB.extract m (m+64):=⟨_,rfl⟩
   rw[←hsb]at HX ⊢;clear hsb;refine (joI wr b b2 c (hBlk jg6 P j) sb HX.o.2 HCELL.o (HB2.o.keeps (HX2.o.trans HE.o) (fun h=>h))).mono ?_;rintro e w5 ⟨g,c',rfl,_,hc5,hE5⟩;rw[HX.o.1]at hc5;have HC5:=Hd hc5;have HE5:=Hd (HE.o.trans hE5);clear hc5 hE5;go_wp2_with fail
   go_roundw
   case rel=>exact⟨j+1,g,c',by have:=HM.o;have:=HPD.o;omega,by have:=HM.o;rw[show 64 * (j+1)=m+64 by omega,hw64],rfl,HC5.o,HE5.o⟩
   case measure =>
    rw[hw64];show P.length+64 - ((m+64:Nat):Int).toNat < P.length+64 - (m:Int).toNat;omega
  ·have hjn:P.length / 64=j:=by have:=HM.o;omega
   have HR:=Hd HP.o;rw[hjn]at HR
   obtain⟨V,hV⟩:∃ V,V=hBlk jg6 P j:=⟨_,rfl⟩
   rw[←hV]at HR HCELL;have HWX:=Hd (HE2.o.trans HE.o);clear hV hjn hm hsz hmod hbd;have b0:¬(m:Int) < (PB.size:Int):=by have:=HPB.o.1;omega
   go_wp2_with fail
   obtain⟨W2,rfl⟩:∃ W2,W2=wr:=⟨_,rfl⟩
   go_loopw [7,8] (fun ov iv wr=>Of3S W2 V ov iv wr) (fun _ iv _=>8 - (intOf iv).toNat)
   case atStart=>exact⟨0,by omega,rfl,rfl,ExtR W2⟩
   case round =>
    obtain⟨k,hk,rfl,rfl,hE⟩:=hrel
    have HE8:=Hd hE;clear hE
    by_cases hlt:k < 8
    ·have b1:(k:Int) < 8:=by omega
     obtain⟨x,hx⟩:∃ x,V.words[k]?=some x:=⟨_,List.getElem?_eq_getElem hlt⟩
     have Q1:=Hd (show wr.cell? ⟨b,k,none⟩=some (wv x)from jab (HCELL.o k (wv x) (by rw[List.getElem?_map,hx];rfl)) HE8.o);have HTK:=Hd (show outL (V.words.take (k+1))=outL (V.words.take k)++jeZ x by
      rw[List.take_add_one,hx];unfold outL;simp)
     have hS24:∀ (p:UInt32) (w:World),(binOp .shr 206 (wv p) (.int .u64 24)).run Tryz.prog w=.ok (wv (shrW p 24)) w:=fun _ _=>jco 24 (by decide) .u64;have hS16:∀ (p:UInt32) (w:World),(binOp .shr 206 (wv p) (.int .u64 16)).run Tryz.prog w=.ok (wv (shrW p 16)) w:=fun _ _=>jco 16 (by decide) .u64;have hS8:∀ (p:UInt32) (w:World),(binOp .shr 206 (wv p) (.int .u64 8)).run Tryz.prog w=.ok (wv (shrW p 8)) w:=fun _ _=>jco 8 (by decide) .u64;have hBW:∀ (p:UInt32) (w:World),(convert 206 5 (wv p)).run Tryz.prog w=.ok (.int .u8 ((jjn p).toNat:Int)) w:=fun p w=>Tryz.run_byteW p w
     obtain⟨T,hT⟩:∃ T,T=outL (V.words.take k):=⟨_,rfl⟩
     have hTl:T.length≤28:=by
      have:∀ W:List UInt32,(outL W).length=4 * W.length:=fun W=>by
       induction W with
       | nil=>rfl
       | cons y r ih=>show (jeZ y++outL r).length=_;rw[List.length_append,ih];show 4+_=4 * (r.length+1);omega
      rw[hT,this,List.length_take];omega
     rw[←hT]at HTK ⊢;clear hx hT;go_wp2_with fail
     refine jaL [0,1,2,3,4,5,6,7,8,9,10,11,12,13,14,15,16,17,18,19,20,21,22,23,24,25,26,27] [24] Ext Ext ExtR ExtT ExtT (fun _ _ h=>h) (by kernel_rfl) (by kernel_rfl) (by kernel_rfl) ?_
     (refine jaq _ rfl (by kernel_rfl) rfl rfl (fun K hK=>?_);go_big_quiet_op;refine hK _ ?_;clear hK K)
     iterate 3 (refine jaq _ rfl (by kernel_rfl) rfl rfl (fun K hK=>?_);go_big_quiet_op;refine hK _ ?_;clear hK K)
     refine jaQ ⟨b,k,none⟩ _ rfl (by kernel_rfl) rfl rfl (fun w1 h1=>jaa Tryz.uU32 rfl (jab Q1.o ((jas wr).trans h1))) ?_;simp only[Act.put,sA,sB,sC];iterate 2 (refine jaq _ rfl (by kernel_rfl) rfl rfl (fun K hK=>?_);go_big_quiet_op;refine hK _ ?_;clear hK K)
     iterate 3 (refine jaq _ rfl (by kernel_rfl) rfl rfl (fun K hK=>?_);go_big_quiet_op;refine hK _ ?_;clear hK K)
     refine jaQ ⟨b,k,none⟩ _ rfl (by kernel_rfl) rfl rfl (fun w1 h1=>jaa Tryz.uU32 rfl (jab Q1.o ((jas wr).trans h1))) ?_;simp only[Act.put,sA,sB,sC];iterate 2 (refine jaq _ rfl (by kernel_rfl) rfl rfl (fun K hK=>?_);go_big_quiet_op;refine hK _ ?_;clear hK K)
     iterate 3 (refine jaq _ rfl (by kernel_rfl) rfl rfl (fun K hK=>?_);go_big_quiet_op;refine hK _ ?_;clear hK K)
     refine jaQ ⟨b,k,none⟩ _ rfl (by kernel_rfl) rfl rfl (fun w1 h1=>jaa Tryz.uU32 rfl (jab Q1.o ((jas wr).trans h1))) ?_;simp only[Act.put,sA,sB,sC];iterate 2 (refine jaq _ rfl (by kernel_rfl) rfl rfl (fun K hK=>?_);go_big_quiet_op;refine hK _ ?_;clear hK K)
     iterate 3 (refine jaq _ rfl (by kernel_rfl) rfl rfl (fun K hK=>?_);go_big_quiet_op;refine hK _ ?_;clear hK K)
     refine jaQ ⟨b,k,none⟩ _ rfl (by kernel_rfl) rfl rfl (fun w1 h1=>jaa Tryz.uU32 rfl (jab Q1.o ((jas wr).trans h1))) ?_;simp only[Act.put,sA,sB,sC]
     (refine jaq _ rfl (by kernel_rfl) rfl rfl (fun K hK=>?_);go_big_quiet_op;refine hK _ ?_;clear hK K)
     refine jaV _ rfl (by kernel_rfl) rfl (fun w2 he K hK=>?_);have HX2:=Hd (show Ext wr w2 from(jas _).trans he);clear he;go_simp;refine hK _ _ ((ExtR w2).alloc _) ?_;clear hK K;refine jdt _ (.string ⟨(jeZ x).toArray⟩) rfl (by kernel_rfl) rfl (fun w3 h3=>jd4 (n:=4) (xs:=jeZ x) rfl (by kernel_rfl) h3 (fun f=>f) (by decide)) ?_;simp only[Act.put,sA,sB,sC]
     obtain⟨t2,ht2⟩:∃ t2,t2=jeZ x:=⟨_,rfl⟩
     have h2l:t2.length=4:=by rw[ht2];rfl
     have HT2:=Hd ht2;rw[←ht2]at HTK ⊢;have b5:¬(9223372036854775807 < (⟨T.toArray⟩:ByteArray).size+(⟨t2.toArray⟩:ByteArray).size):=by show ¬(_ < T.length+t2.length);omega
     clear ht2;iterate 2 (refine jaq _ rfl (by kernel_rfl) rfl rfl (fun K hK=>?_);go_big_quiet_op;refine hK _ ?_;clear hK K)
     refine jbI (by kernel_rfl) (fun w6 he=>?_);have HE6:=Hd (HE8.o.trans ((HX2.o.alloc _).trans he));clear he;go_wp2_with fail
     go_roundw
     case rel=>exact⟨k+1,by omega,by go_num,by rw[jfr,HTK.o],HE6.o⟩
     case measure=>simp[intOf];omega
    ·have hk8:k=8:=by omega
     subst hk8;have HRV:=Hd (show (⟨(outL (V.words.take 8)).toArray⟩:ByteArray)=shaB s from HR.o.symm);rw[HRV.o]
     obtain⟨z,hz⟩:∃ z,z=shaB s:=⟨_,rfl⟩
     rw[←hz];go_wp2_with fail
     go_ret
     exact⟨congrArg (fun q=>Ending.returned (Value.string q)) hz,HWX.o.trans HE8.o⟩
theorem Tryz.enterBytes02:∀ args w,(callFunc 257 args).run Tryz.prog w=.ok (.enter 257 args) w:=fun _ _=>by kernel_rfl
theorem jrD(n:Nat):(n:Int) % (256:Int)=((UInt8.ofNat n).toNat:Int):=by
 rw[UInt8.toNat_ofNat'];omega
def leB(k n:Nat):ByteArray:=⟨(leF k n).reverse.toArray⟩
theorem joJ:∀ (k:Nat) (w:World) (n:Nat),k≤8→n < 256 ^ k→Calls Tryz.prog 257 #[.int .u64 n] w fun e w'=>e=.returned (.string (leB k n))∧Ext w w':=by
 intro k;induction k with
 | zero =>
  intro w n _ hn;have h0:n=0:=by simpa using hn
  subst h0;go_enter Tryz.func257,Tryz.ntmps257;go_wp2_with fail
  go_ret
  exact⟨rfl,ExtR w⟩
 | succ k ih =>
  intro w n hk hn
  by_cases h0:n=0
  ·subst h0
   go_enter Tryz.func257,Tryz.ntmps257;go_wp2_with fail
   go_ret
   exact⟨by unfold leB leF;simp,ExtR w⟩
  have hz:((n:Int) == 0)=false:=by simpa using h0
  have hb:n < 18446744073709551616:=Nat.lt_of_lt_of_le hn (Nat.le_trans (Nat.pow_le_pow_right (by decide) (by omega:k+1≤8)) (by decide));have HIH:=Hd (fun w1=>ih w1 (n / 256) (by omega) (by rw[Nat.pow_succ]at hn;omega));rw[show ((n / 256:Nat):Int)=(n:Int) / (256:Int)from rfl]at HIH
  obtain⟨r,hr⟩:∃ r,r=leB k (n / 256):=⟨_,rfl⟩
  have HR:=Hd (show leB (k+1) n=⟨(r.data.toList++[UInt8.ofNat n]).toArray⟩ by
   rw[hr];unfold leB;rw[leF,if_neg h0];simp)
  rw[←hr]at HIH;rw[HR.o];have hrs:r.size≤8:=by rw[hr];unfold leB;show (leF k (n / 256)).reverse.length≤8;rw[List.length_reverse];have:=jff k (n / 256);omega
  clear ih hr h0 hn;go_enter Tryz.func257,Tryz.ntmps257;go_wp2_with fail
  refine jaL [0,1,2,3,4,5,6,7,8,9] [6] Ext Ext ExtR ExtT (fun x y z h k=>h.trans k) (fun x y h=>h) (by kernel_rfl) (by kernel_rfl) (by kernel_rfl) ?_;iterate 2 (refine jaq _ rfl (by kernel_rfl) rfl rfl (fun K hK=>?_);go_big_quiet_op;refine hK _ ?_;clear hK K)
  refine jeL _ 257 #[.int .u64 ((n:Int) / (256:Int))] (.string r) rfl (by kernel_rfl) rfl (fun w1=>jau Tryz.enterBytes02 (by kernel_rfl)) (fun w1 _=>HIH.o w1) ?_;simp only[Act.put,sA,sB,sC];iterate 3 (refine jaq _ rfl (by kernel_rfl) rfl rfl (fun K hK=>?_);go_big_quiet_op;refine hK _ ?_;clear hK K)
  refine jaV _ rfl (by kernel_rfl) rfl (fun w2 he K hK=>?_);have HX2:=Hd (show Ext w w2 from(jas _).trans he);clear he;go_simp;refine hK _ _ ((ExtR w2).alloc _) ?_;clear hK K;rw[jrD]
  obtain⟨t2,ht2⟩:∃ t2,t2=[UInt8.ofNat n]:=⟨_,rfl⟩
  refine jdt _ (.string ⟨[UInt8.ofNat n].toArray⟩) rfl (by kernel_rfl) rfl (fun w3 h3=>jd4 (n:=1) (xs:=[UInt8.ofNat n]) rfl (by kernel_rfl) h3 (fun f=>f) (by decide)) ?_;simp only[Act.put,sA,sB,sC];rw[←ht2];have h2l:t2.length=1:=by rw[ht2];rfl
  have b5:¬(9223372036854775807 < r.size+(⟨t2.toArray⟩:ByteArray).size):=by show ¬(_ < r.size+t2.length);omega
  have HT2:=Hd ht2;clear ht2;iterate 2 (refine jaq _ rfl (by kernel_rfl) rfl rfl (fun K hK=>?_);go_big_quiet_op;refine hK _ ?_;clear hK K)
  refine jbI (by kernel_rfl) (fun w6 he=>?_);have HE6:=Hd ((HX2.o.alloc _).trans he);clear he;go_wp2_with fail
  go_ret;have hba:r++(⟨t2.toArray⟩:ByteArray)=⟨(r.data.toList++[UInt8.ofNat n]).toArray⟩:=(jfr r.data.toList t2).trans (by rw[HT2.o])
  exact⟨congrArg (fun s=>Ending.returned (Value.string s)) hba,HE6.o⟩
theorem jjN(w:World)(b:ByteArray)(B:Nat)(hB:B=128∨B=192)(hs:b.size≤1000000):Calls Tryz.prog 240 #[.string b,.int .i64 B] w fun e w'=>e=.returned (.string (jbM (UInt8.ofNat B) b.size++b))∧Ext w w':=by
 have hw1 : -9223372036854775808≤(B:Int)+(b.size:Int):=by omega
 have hw2:(B:Int)+(b.size:Int)≤9223372036854775807:=by omega
 by_cases h55:b.size≤55
 ·have c1:(b.size:Int)≤55:=by omega
  obtain⟨fb,hfb⟩:∃ fb:UInt8,fb=UInt8.ofNat B+UInt8.ofNat b.size:=⟨_,rfl⟩
  have hh:jbM (UInt8.ofNat B) b.size=⟨#[fb]⟩:=by unfold jbM;rw[if_pos h55,hfb]
  rw[hh];have hfn:((B:Int)+(b.size:Int))=(fb.toNat:Int):=by
   rw[hfb,UInt8.toNat_add,UInt8.toNat_ofNat',UInt8.toNat_ofNat'];omega
  have hcv:=jbZ w fb;rw[←hfn]at hcv;have b5:¬(9223372036854775807 < (⟨#[fb]⟩:ByteArray).size+b.size):=by show ¬(_ < 1+b.size);omega
  clear h55 hfb hh hfn;go_enter Tryz.func240,Tryz.ntmps240;go_wp2_with fail
  go_ret
  exact⟨rfl,(ExtR w).alloc _⟩
 ·have c1:¬(b.size:Int)≤55:=by omega
  obtain⟨d,hd⟩:∃ d,d=jcb b.size:=⟨_,rfl⟩
  have hdl:d.size≤8:=by rw[hd];show (leF 8 b.size).reverse.length≤8;rw[List.length_reverse];exact jff 8 b.size
  obtain⟨fb,hfb⟩:∃ fb:UInt8,fb=UInt8.ofNat B+55+UInt8.ofNat d.size:=⟨_,rfl⟩
  have hh:jbM (UInt8.ofNat B) b.size=⟨#[fb]⟩++d:=by unfold jbM;rw[if_neg h55,hfb,hd]
  rw[hh];have hfn:((B:Int)+55+(d.size:Int))=(fb.toNat:Int):=by
   rw[hfb,UInt8.toNat_add,UInt8.toNat_add,UInt8.toNat_ofNat',UInt8.toNat_ofNat',show (55:UInt8).toNat=55 from rfl];omega
  have HBY:=Hd (show ∀ w1,Calls Tryz.prog 257 #[.int .u64 (b.size:Int)] w1 fun e w'=>e=.returned (.string d)∧Ext w1 w' from fun w1=>by rw[hd];exact joJ 8 w1 b.size (Nat.le_refl _) (Nat.lt_of_le_of_lt hs (by decide)));have hw3 : -9223372036854775808≤(B:Int)+55:=by omega
  have hw4:(B:Int)+55≤9223372036854775807:=by omega
  have hw5 : -9223372036854775808≤(B:Int)+55+(d.size:Int):=by omega
  have hw6:(B:Int)+55+(d.size:Int)≤9223372036854775807:=by omega
  have b5:¬(9223372036854775807 < (⟨#[fb]⟩:ByteArray).size+d.size):=by show ¬(_ < 1+d.size);omega
  have b6:¬(9223372036854775807 < ((⟨#[fb]⟩:ByteArray)++d).size+b.size):=by rw[ByteArray.size_append];show ¬(_ < 1+d.size+b.size);omega
  have HFN:=Hd hfn;clear h55 hfb hh hd hfn;go_enter Tryz.func240,Tryz.ntmps240;go_wp2_with fail
  refine (HBY.o w).mono ?_;rintro e w1 ⟨rfl,hE⟩;have hcv:=jbZ w1 fb;rw[←HFN.o]at hcv;have HE:=Hd (hE.alloc (.cells #[.int .u8 ((B:Int)+55+(d.size:Int))] 5));clear hE;go_wp2_with fail
  go_ret
  exact⟨rfl,HE.o⟩
theorem jc2(w:World)(b:ByteArray)(hs:b.size≤1000000):Calls Tryz.prog 212 #[.string b] w fun e w'=>e=.returned (.string (jam b))∧Ext w w':=by
 by_cases h1:b.size=1
 ·have l1:0 < b.size:=by omega
  have b1:(0:Int) < (b.size:Int):=by omega
  have c1:((b.size:Int) == 1)=true:=by rw[h1];rfl
  have hd:b.data.toList.headD 255=b[0]:=by
   obtain⟨⟨l⟩⟩:=b
   cases l with
   | nil=>cases l1
   | cons x r=>rfl
  by_cases h2:b[0] < 128
  ·have b2:(b[0].toNat:Int) < 128:=by have:=UInt8.lt_iff_toNat_lt.1 h2;have:(128:UInt8).toNat=128:=rfl;omega
   rw[show jam b=b by unfold jam;rw[if_pos ⟨h1,by rw[hd];exact h2⟩]];clear h1 h2 hd;go_enter Tryz.func212,Tryz.ntmps212;go_wp2_with fail
   go_ret
   exact⟨rfl,ExtR w⟩
  ·have b2:¬(b[0].toNat:Int) < 128:=by have:¬ b[0].toNat < (128:UInt8).toNat:=fun h=>h2 (UInt8.lt_iff_toNat_lt.2 h);have:(128:UInt8).toNat=128:=rfl;omega
   have HW:=Hd (jjN w b 128 (.inl rfl) hs);have HT:=Hd (show jam b=jbM (UInt8.ofNat 128) b.size++b by unfold jam;rw[if_neg (fun h=>h2 (by rw[←hd];exact h.2))];rfl);rw[HT.o];clear h1 h2 hd;go_enter Tryz.func212,Tryz.ntmps212;go_wp2_with fail
   refine HW.o.mono ?_;rintro e w1 ⟨rfl,hE⟩;have HE:=Hd hE;clear hE;go_wp2_with fail
   go_ret
   exact⟨rfl,HE.o⟩
 ·have c1:((b.size:Int) == 1)=false:=beq_eq_false_iff_ne.2 (by omega)
  have HW:=Hd (jjN w b 128 (.inl rfl) hs);have HT:=Hd (show jam b=jbM (UInt8.ofNat 128) b.size++b by unfold jam;rw[if_neg (fun h=>h1 h.1)];rfl);rw[HT.o];clear h1;go_enter Tryz.func212,Tryz.ntmps212;go_wp2_with fail
  refine HW.o.mono ?_;rintro e w1 ⟨rfl,hE⟩;have HE:=Hd hE;clear hE;go_wp2_with fail
  go_ret
  exact⟨rfl,HE.o⟩
theorem jeC(A B:List ByteArray):catB (A++B)=catB A++catB B:=by
 unfold catB;rw[List.map_append,List.flatten_append,jfr]
theorem jeB(x:ByteArray):catB [x]=x:=by
 unfold catB;apply ByteArray.ext
 simp
theorem jk6{xs:List ByteArray}{k:Nat}{x:ByteArray}(hx:xs[k]?=some x):catB (xs.take (k+1))=catB (xs.take k)++x:=by
 rw[List.take_add_one,hx];show catB (xs.take k++[x])=_;rw[jeC,jeB]
theorem jn7(xs:List ByteArray)(k:Nat):(catB (xs.take k)).size≤(catB xs).size:=by
 have:=jeC (xs.take k) (xs.drop k)
 rw[List.take_append_drop]at this;rw[this,ByteArray.size_append];omega
def jsg(w:World)(xs:List ByteArray)(v i:Value)(wr:World):Prop:=∃ k:Nat,k≤xs.length∧i=.int .i64 k∧v=.string (catB (xs.take k))∧Ext w wr
theorem jqy(w:World)(v:Value)(xs:List ByteArray)(hv:RdS w v xs)(hn:xs.length≤1000000)(hl:(catB xs).size≤1000000):Calls Tryz.prog 241 #[v] w fun e w'=>e=.returned (.string (catB xs))∧Ext w w':=by
 have HV:=Hd hv
 obtain⟨a,c,hsl,_⟩:=hv.slice
 subst hsl;clear hv
 obtain⟨R,hR⟩:∃ R,R=catB xs:=⟨_,rfl⟩
 rw[←hR]at hl ⊢;have HR:=Hd hR;clear hR;go_enter Tryz.func241,Tryz.ntmps241;go_wp2_with fail
 go_loopw [3,4] (fun v i wr=>jsg w xs v i wr) (fun _ i _=>xs.length - (intOf i).toNat)
 case atStart=>exact⟨0,Nat.zero_le _,rfl,rfl,ExtR w⟩
 case round =>
  obtain⟨k,hk,rfl,rfl,hE⟩:=hrel
  have HE:=Hd hE;clear hE
  by_cases hlt:k < xs.length
  ·have b1:(k:Int) < (xs.length:Int):=by omega
   obtain⟨x,hx⟩:∃ x,xs[k]?=some x:=⟨_,List.getElem?_eq_getElem hlt⟩
   obtain⟨a7,c7,hhh,hcx⟩:=HV.o.slice
   obtain⟨bx,ox,hax,hcx0⟩:=hcx k x hx
   obtain⟨e1,_,e3⟩:=Value.slice.inj hhh
   rw[hax]at e1;subst e1;have q1:=jab hcx0 HE.o;have hst:=jk6 hx;have hle:=jn7 xs (k+1);rw[hst, ←HR.o,ByteArray.size_append]at hle
   obtain⟨t,ht⟩:∃ t,t=catB (xs.take k):=⟨_,rfl⟩
   rw[←ht]at hst hle ⊢;have HST:=Hd hst;have b5:¬(9223372036854775807 < t.size+x.size):=by omega
   clear hhh hcx hcx0 hax e3 hst ht hx hle;go_wp2_with fail
   go_roundw
   case rel=>exact⟨k+1,by omega,by go_num,by rw[HST.o],HE.o⟩
   case measure=>simp[intOf];omega
  ·have HF:=Hd (show catB (xs.take k)=R by rw[HR.o,List.take_of_length_le (by omega)])
   rw[HF.o];go_wp2_with fail
   go_ret
   exact⟨rfl,HE.o⟩
theorem jhT(w:World)(v:Value)(xs:List ByteArray)(hv:RdS w v xs)(hn:xs.length≤1000000)(hl:(catB xs).size≤1000000):Calls Tryz.prog 213 #[v] w fun e w'=>e=.returned (.string (jaU xs))∧Ext w w':=by
 have HJ:=Hd (jqy w v xs hv hn hl);have HW:=Hd (fun w1=>jjN w1 (catB xs) 192 (.inr rfl) hl);have HB:=Hd (show jaU xs=jbM (UInt8.ofNat 192) (catB xs).size++catB xs from rfl);rw[HB.o]
 obtain⟨a,c,hsl,_⟩:=hv.slice
 subst hsl;clear hv;go_enter Tryz.func213,Tryz.ntmps213;go_wp2_with fail
 refine HJ.o.mono ?_;rintro e w1 ⟨rfl,hE⟩;have HE1:=Hd hE;clear hE;go_wp2_with fail
 refine (HW.o w1).mono ?_;rintro e w2 ⟨rfl,hE⟩;have HE2:=Hd (HE1.o.trans hE);clear hE;go_wp2_with fail
 go_ret
 exact⟨rfl,HE2.o⟩
theorem jjf{P:Program}{w:World}{ops:Array Oper}{rest:List Oper}{o:Oper}{a:Act}{Q:Exit→Act→World→Prop}{b:BinOp}{T T':TypeId}(x y:Operand)(ho:o.op=.binOp b T x y T')(hw:Region.wanted o (yielded ops a.tmps)=true)(vx vy v:Value)(hx:a.eval x=vx)(hy:a.eval y=vy)
  (hg:(eqGuard b T x y vx vy).run P w=.ok () w) (hr:(binOp b T vx vy).run P w=.ok v w) (h:wpList P ops Q rest (a.put o.dst v) w):wpList P ops Q (o :: rest) a w:=by
 unfold wpList;rw[if_pos hw];refine .inl (jcp (v:=v) (w':=w) ?_ h);simp only[execOp,ho,hx,hy,Sem.run_bind,hg,hr,Result.andThen,Sem.run_pure]
end
end Go.Proofs.YtcpnjmcipainpaaGreatDoor
