/- Parts of the proof, one behind the other: CurG, CurH, IterP, CurI, CurJ, CurK. Each is under no condition but those that it states. -/
import Derived.Test.YtpaacnhboilkkaaGreatDoorPh40
import Derived.Test.YtpaacnhboilkkaaGreatDoorPh29
import Derived.Test.YtpaacnhboilkkaaGreatDoorPh17
namespace Go.Proofs.YtpaacnhboilkkaaGreatDoor
set_option linter.unusedSimpArgs false
set_option linter.unusedVariables false
set_option maxRecDepth 100000
set_option maxHeartbeats 16000000
section
open Go Go.RowKit
attribute [local go_sem] Oper.semAt_some
def jgE(fr:ByteArray)(l:List Pair):List Pair:=l.filter fun p => !jbs p.1 fr
theorem jhQ:∀ l:List UInt8,jcX (jc1 l)=l
 | []=>rfl
 | b :: l=>by
  have h:(b >>> 4) <<< 4 |||(b &&& 15)=b:=by
   have h:∀ b:Fin 256,((UInt8.ofNat b.1) >>> 4) <<< 4 |||((UInt8.ofNat b.1) &&& 15)=UInt8.ofNat b.1:=by decide +kernel
   have:=h ⟨b.toNat,b.toNat_lt⟩
   simpa only[UInt8.ofNat_toNat]using this
  show ((b >>> 4) <<< 4 |||(b &&& 15)) :: jcX (jc1 l)=_;rw[h,jhQ l]
theorem jeb(k:ByteArray):jbq (jbc k)=k:=by
 unfold jbq jbc;show (⟨(jcX (jc1 k.data.toList)).toArray⟩:ByteArray)=k;rw[jhQ]
theorem jjh:∀ a b:List UInt8,Lt a b∨a=b∨Lt b a
 | [],[]=>.inr (.inl rfl)
 | [],y :: b=>.inl jiA
 | x :: a,[]=>.inr (.inr jiA)
 | x :: a,y :: b=>by
  rcases Nat.lt_trichotomy x.toNat y.toNat with h | h | h
  ·exact .inl (jbg.2 (.inl (UInt8.lt_iff_toNat_lt.2 h)))
  ·have e:=UInt8.toNat_inj.1 h
   subst e;rcases jjh a b with h | h | h
   ·exact .inl (jbg.2 (.inr ⟨rfl,h⟩))
   ·exact .inr (.inl (by rw[h]))
   ·exact .inr (.inr (jbg.2 (.inr ⟨rfl,h⟩)))
  ·exact .inr (.inr (jbg.2 (.inl (UInt8.lt_iff_toNat_lt.2 h))))
theorem jhS(k:ByteArray):(jbc k).data.toList=jc1 k.data.toList:=rfl
theorem jqi(a b:ByteArray):jbs (jbc a) (jbc b)=jbs a b:=by
 cases h:jbs a b with
 | true =>
  rw[jbE]at h ⊢;exact jjg _ _ h
 | false =>
  rw[Bool.eq_false_iff]at h ⊢;intro h2;rw[jbE,jhS,jhS]at h2;rcases jjh a.data.toList b.data.toList with h3 | h3 | h3
  ·exact h ((jbE _ _).2 h3)
  ·rw[h3]at h2;exact lt_irrefl _ h2
  ·exact lt_irrefl _ (jdl _ _ _ h2 (jjg _ _ h3))
theorem jeh(fr:ByteArray)(l:List Pair):jqY fr l=jaP (jgE fr l):=by
 unfold jqY absF jaP jgE;induction l with
 | nil=>rfl
 | cons p l ih =>
  simp only[List.map_cons,List.filter_cons,jqz]at ih ⊢;rw[jqi];cases jbs p.1 fr with
  | true=>simpa using ih
  | false=>simpa using ih
def jjk:List Pair→Value
 | []=>.tuple #[.agg #[.string ⟨#[]⟩,.string ⟨#[]⟩],.bool false]
 | q :: _=>.tuple #[.agg #[.string q.1,.string q.2],.bool true]
def ju2:List Pair→Value
 | []=>.tuple #[.string ⟨#[]⟩,.bool false]
 | q :: _=>.tuple #[.string q.1,.bool true]
theorem jdE(E:List Pair):jia (jaP E)=jjk E:=by
 cases E with
 | nil=>rfl
 | cons q E=>show Value.tuple #[.agg #[.string (jbq (jbc q.1)),.string q.2],.bool true]=_;rw[jeb];rfl
theorem jiE(E:List Pair):jsX (jaP E)=ju2 E:=by
 cases E with
 | nil=>rfl
 | cons q E=>show Value.tuple #[.string (jbq (jbc q.1)),.bool true]=_;rw[jeb];rfl
theorem jfq(E:List Pair):(jaP E).tail=jaP E.tail:=by cases E <;> rfl
structure NRow(W w:World)(v:Value)(xs:List Pair):Prop where
 own:w.ownsRow 0 72 2 v xs.length (jdJ xs)
 new:∀ b,v.ownBlock=some b→W.heap.size≤b
theorem NRow.keeps{W w w':World}{v:Value}{xs:List Pair}{F:BSet}(h:NRow W w v xs)(k:jac F w w')(hF:∀ b,v.ownBlock=some b→¬ F b):NRow W w' v xs:=⟨jaG h.own k hF,h.new⟩
theorem NRow.ext{W w w':World}{v:Value}{xs:List Pair}(h:NRow W w v xs)(k:Ext w w'):NRow W w' v xs:=h.keeps k (fun _ _ h=>h)
def jxn(S:List Nd5)(c s:Nat)(fr:ByteArray)(W:World)(v:Value)(E:List Pair)(lim:Nat)(lv:Value)(wr:World):Prop:=
 ∃ n v',n≤lim∧n≤E.length∧NRow W wr lv (E.take n)∧(∀ b,lv.ownBlock=some b→v'.ownBlock≠some b)∧jdw S c s fr W v wr v' (jaP (E.drop n))
theorem jdw.trans{S:List Nd5}{c s:Nat}{fr:ByteArray}{W W' W'':World}{v v' v'':Value}{R R':List Pair}(h:jdw S c s fr W v W' v' R)(k:jdw S c s fr W' v' W'' v'' R'):jdw S c s fr W v W'' v'' R':=by
 obtain⟨_,_,_,h1,_⟩:=h
 obtain⟨ts,N,n,k1,k2⟩:=k
 exact⟨ts,N,n,h1.trans k1,k2⟩
theorem jdw.refl{S:List Nd5}{c s:Nat}{fr:ByteArray}{W:World}{v:Value}{R:List Pair}(h:jc3 S c s fr R W v):jdw S c s fr W v W v R:=by
 obtain⟨ts,N,n,h⟩:=h
 exact⟨ts,N,n,jbe.refl h.left,h⟩
def jxo(S:List Nd5)(c s:Nat)(fr:ByteArray)(W:World)(v:Value)(E:List Pair)(lim:Nat)(e:Ending)(w':World):Prop:=∃ lv v',e=.returned lv∧NRow W w' lv (E.take lim)∧(∀ b,lv.ownBlock=some b→v'.ownBlock≠some b)∧jdw S c s fr W v w' v' (jaP (E.drop lim))
theorem jw2(W:World)(c s bm:Nat)(room:Int)(S:List Nd5)(fr:ByteArray)(E:List Pair)(v:Value)(lim:Nat)(hl:lim≤1000)(hf:fr.size≤1000000)(hC:jc3 S c s fr (jaP E) W v)(hs:jas W s bm room S) :
  Calls Tryz.prog 99 #[.func (.func 46) #[.pointer (some ⟨c,0,none⟩)] #[],.int .i64 lim] W (jxo S c s fr W v E lim):=by
 have HC:=Hd hC;have HS:=Hd hs;have HLT:=Hd hC.lt;clear hC hs;go_enter Tryz.func99,Tryz.ntmps99;go_wp2_with fail
 go_loopw [5] (fun lv wr=>jxn S c s fr W v E lim lv wr) (fun lv _=>lim - slN lv)
 case atStart=>exact⟨0,v,by omega,by omega,⟨World.ownsRow_nil _ _ _ _,fun b hb=>by cases hb⟩,(fun b hb=>by cases hb),jdw.refl HC.o⟩
 case round =>
  obtain⟨n,v',hn1,hn2,hR,hne,hT⟩:=hrel
  have htl:(E.take n).length=n:=by rw[List.length_take];omega
  obtain⟨ad,cp,hsl⟩:=jay hR.own
  rw[htl]at hsl;subst hsl;have HR:=Hd hR;have HNE:=Hd hne;have HT:=Hd hT;have HTL:=Hd htl;have HS2:=Hd (HC.o.store HS.o hT.kp.1);clear hR hne hT htl
  by_cases hlt:n < lim
  ·have b1:(n:Int) < (lim:Int):=by omega
   go_wp2_with fail
   obtain⟨D,hD⟩:∃ D,D=E.drop n:=⟨_,rfl⟩
   have HD:=Hd hD;have hat:=HT.o.at';rw[←hD]at hat;refine (jgu wr c s bm room S fr (jaP D) v' hf hat HS2.o).mono ?_;rintro e w2 ⟨rfl,v2,hT2⟩;rw[jdE,jfq]at *;have hlt2:=hat.lt;have hrk:=HR.o.own;have hcW:c < W.heap.size:=HLT.o.1;have hkp:=hT2.kp;have hR2:=HR.o.keeps hkp.1 (fun b hb e=>by
    rcases e with e | e
    ·have:=HR.o.new b hb;omega
    ·exact HNE.o b hb e)
   have hN2:∀ b,(Value.slice ad n cp).ownBlock=some b→v2.ownBlock≠some b:=fun b hb e=>by
    rcases hkp.2 with h1 | h1
    ·exact HNE.o b hb (h1 ▸ e)
    ·have:=h1 b e
     have:=jfy hrk hb;omega
   have HR2:=Hd hR2;have HN2:=Hd hN2;have HT2:=Hd (HT.o.trans hT2);clear hat hT2 hlt2 hrk hkp hR2 hN2 hD;cases D with
   | nil =>
    have hdn:E.length≤n:=by
     have:=congrArg List.length HD.o
     rw[List.length_drop]at this;simp at this;omega
    unfold jjk;go_wp2_with fail
    go_ret;have hX:=(ExtR w2).alloc (.cells #[.string ⟨#[]⟩,.string ⟨#[]⟩] 72)
    refine⟨.slice ad n cp,v2,rfl,?_,HN2.o,?_⟩
    ·rw[List.take_of_length_le (by omega)]
     have:=HR2.o.ext hX
     rwa [List.take_of_length_le hdn]at this
    ·rw[List.drop_of_length_le (by omega)]
     exact HT2.o.other hX (fun x h=>h.elim)
   | cons q D =>
    obtain⟨x,y⟩:=q
    unfold jjk;have hm1:n+1≤maxLen:=by unfold maxLen;omega
    have hm2:(n+1) * 32≤140737488355328:=by omega
    have hown:=HR2.o.own;rw[HTL.o]at hown;have HOWN:=Hd hown;clear hown;have hnb:Blk ((w2.alloc (.cells #[.string x,.string y] 72)).alloc (.cells #[.string x,.string y] 72)) (w2.heap.size+1) (.cells [Value.string x,.string y].toArray 72):=by
     have:=Blk.new (w2.alloc (.cells #[.string x,.string y] 72)) (.cells #[.string x,.string y] 72)
     rwa [World.size_alloc]at this
    have hxx:Ext w2 ((w2.alloc (.cells #[.string x,.string y] 72)).alloc (.cells #[.string x,.string y] 72)):=((ExtR w2).alloc _).alloc _;go_wp2_with (at_builtin;(refine jbv Tryz.sEnts (ORow.any (jbd HOWN.o hxx)) (.tmp 19) (.tmp 21) rfl rfl rfl (ja9 hnb) (news:=[.string x,.string y]) (jgQ _ _) rfl rfl hm1 hm2 ?_;intro lv' w' r1 r2 r3))
    have HXX:=Hd hxx;have HR9:=Hd (And.intro r1 (And.intro r2 r3))
    obtain⟨ad',cp',rfl⟩:=r1.sl
    clear r1 r2 r3 hnb hxx;go_wp2_with fail
    go_roundw
    case rel =>
     obtain⟨r1,r2,r3⟩:=HR9.o
     have htk:E.take (n+1)=E.take n++[(x,y)]:=by
      have:E[n]?=some (x,y):=by
       have:=congrArg (·[0]?) HD.o
       simpa using this.symm
      rw[List.take_add_one,this];rfl
     have hdr:E.drop (n+1)=D:=by
      have:=congrArg List.tail HD.o
      simpa using this.symm
     have hel:n+1≤E.length:=by
      have:=congrArg List.length HD.o
      rw[List.length_drop]at this;simp at this;omega
     have hw2:=HT2.o.kp.1.size;have hv2:=HT2.o.at'.lt
     refine⟨n+1,v2,by omega,hel,⟨?_,fun b hb=>?_⟩,fun b hb e=>?_,?_⟩
     ·have hlen:(E.take (n+1)).length=n+1:=by rw[List.length_take];omega
      rw[hlen,htk,jbN];exact r1.own
     ·rcases r3 with r3 | r3
      ·exact HR2.o.new b (r3 ▸ hb)
      ·have:=r3 b hb;have:=HXX.o.size;omega
     ·rcases r3 with r3 | r3
      ·exact HN2.o b (r3 ▸ hb) e
      ·have:=r3 b hb;have:=HXX.o.size;have:=hv2.2 b e;omega
     ·rw[hdr]
      exact (HT2.o.other HXX.o (fun x h=>h.elim)).other r2 (fun x e=>⟨HR2.o.new x e,fun e2=>by have:=HR2.o.new x e;have:=HLT.o.1;omega,HN2.o x e⟩)
    case measure=>simp[slN];omega
  ·have b1:¬(n:Int) < (lim:Int):=by omega
   have hnl:n=lim:=by omega
   have HNL:=Hd hnl;clear hlt hnl;go_wp2_with fail
   go_ret;rw[←HNL.o]
   exact⟨_,v',rfl,HR.o,HNE.o,HT.o⟩
def jwz:List Pair→ByteArray
 | []=>⟨#[]⟩
 | q :: _=>q.1
theorem jsW(E:List Pair):ju2 E=.tuple #[.string (jwz E),.bool (!E.isEmpty)]:=by cases E <;> rfl
def jxj(E:List Pair)(limit:Int)(W:World)(e:Ending)(w':World):Prop:=
 Ext W w'∧if 1≤limit∧limit≤8 then ∃ lv,e=.returned (.tuple #[lv,.string (jwz (E.drop limit.toNat)),.int .i64 0])∧NRow W w' lv (E.take limit.toNat)
  else e=.returned (.tuple #[.slice none 0 0,.string ⟨#[]⟩,.int .i64 1])
theorem jt4.ext{S:List Nd5}{c s:Nat}{fr:ByteArray}{W w1 w2:World}{v v2:Value}{R:List Pair}(h1:W.heap.size≤c)(h2:∀ b,v.ownBlock=some b→W.heap.size≤b)(h3:Ext W w1)(h4:jdw S c s fr w1 v w2 v2 R):Ext W w2:=by
 refine h3.trans' h4.kp.1 (fun x hx e=>?_);rcases e with e | e
 ·omega
 ·have:=h2 x e;omega
theorem jwQ(W:World)(s bm:Nat)(room:Int)(S:List Nd5)(fr:ByteArray)(l:List Pair)(limit:Int)(hf:fr.size≤100000)(hM:HasM S l)(hs:jas W s bm room S) :
  Calls Tryz.prog 47 #[.pointer (some ⟨s,0,none⟩),.string (shaB (jaT l).text),.string fr,.int .i64 limit] W (jxj (jgE fr l) limit W):=by
 have HSK:=Hd (jh1 W s bm room S fr l hf hM hs);have HS:=Hd hs
 obtain⟨k,hk⟩:∃ k,k=shaB (jaT l).text:=⟨_,rfl⟩
 rw[←hk]at HSK ⊢
 obtain⟨E,hE⟩:∃ E,E=jgE fr l:=⟨_,rfl⟩
 have HE:=Hd hE;rw[←hE];have hps:=jb9 fr;clear hM hs hk hE;go_enter Tryz.func47,Tryz.ntmps47;go_wp2_with fail
 refine HSK.o.mono ?_;rintro e w1 ⟨c,v,rfl,hc,hv,hX,hC⟩;rw[jeh, ←HE.o]at hC;have HCC:=Hd (And.intro hc hv);have HX:=Hd hX;have HC:=Hd hC;clear hc hv hX hC
 by_cases h1:limit < 1
 ·go_wp2_with fail
  go_ret3
  refine⟨HX.o,?_⟩
  rw[if_neg (by omega)];rfl
 ·by_cases h2:8 < limit
  ·go_wp2_with fail
   go_ret3
   refine⟨HX.o,?_⟩
   rw[if_neg (by omega)];rfl
  ·obtain⟨n,rfl⟩:∃ n:Nat,limit=(n:Int):=⟨limit.toNat,by omega⟩
   have HN:=Hd (show 1≤n∧n≤8 by omega);go_wp2_with fail
   refine (jw2 w1 c s bm room S (jbc fr) E v n (by have:=HN.o;omega) (by omega) HC.o (HS.o.ext HX.o)).mono ?_;rintro e w2 ⟨lv,v2,rfl,hR,hne,hT⟩;have HR:=Hd hR;have HNE:=Hd hne;have HT:=Hd hT;clear hR hne hT;go_wp2_with fail
   refine (jpm w2 c s bm room S (jbc fr) (jaP (E.drop n)) v2 (by omega) HT.o.at' (HC.o.store (HS.o.ext HX.o) HT.o.kp.1)).mono ?_;rintro e w3 ⟨rfl,v3,hT3⟩;rw[jiE,jsW];have hcl:=HC.o.lt;have hrl:∀ b,lv.ownBlock=some b→b < w2.heap.size:=fun b hb=>jfy HR.o.own hb;have hR3:=HR.o.keeps hT3.kp.1 (fun b hb e=>by
    rcases e with e | e
    ·have:=HR.o.new b hb;have:=hcl.1;omega
    ·exact HNE.o b hb e)
   have HF:=Hd (And.intro hR3 (HT.o.trans hT3));clear hT3 hcl hrl hR3;go_wp2_with fail
   go_ret3
   obtain⟨hR3,hT3⟩:=HF.o
   refine⟨jt4.ext HCC.o.1 HCC.o.2 HX.o hT3,?_⟩
   rw[if_pos (by have:=HN.o;omega)]
   exact⟨lv,rfl,hR3.own,fun b hb=>Nat.le_trans HX.o.size (hR3.new b hb)⟩
end
section
open Go Go.RowKit
def jts(P:Program)(gf:FuncId)(pre lb:Array Value)(N:Nat)(vals:Nat→Array Value)(M:BSet)(S:BSet→World→Prop)(SE:Nat→BSet→World→Prop):Prop:=
 ∀ (l:Nat) (C:Nat→BSet→World→Prop) (Cx:Nat→BSet→World→Prop),(∀ k,Supp (C k))→(∀ k,Supp (Cx k)) →
  ∀ D O W,(∀ k D' W',k < N→C k D' W'→jac (fun b=>D b∨M b) W W'→joM P l (vals k) D' W' (C (k+1)) (Cx (k+1))) →
   C 0 D W→S O W→(∀ b,D b→¬ O b) →
   CallsIn Fence.wide 0 P gf ((pre++#[.func (.yield l) #[] #[]])++lb) W (jiU W M D O N C Cx SE)
theorem jlh{P:Program}{g:Operand}{ps:Array Tmp}{assign body:Code}{Q:Exit→Act→World→Prop}{a:Act}{w:World}
  {gf:Nat} {pre lb:Array Value} (hg:a.eval g=.func (.func gf) pre lb) (eg:∀ args w,(callFunc gf args).run P w=.ok (.enter gf args) w)
  {N:Nat} {vals:Nat→Array Value} {M:BSet} {S:BSet→World→Prop} {SE:Nat→BSet→World→Prop} (IS:jts P gf pre lb N vals M S SE)
  (hS:Supp S) (hps:∀ k,(vals k).size=ps.size)
  (C:Nat→BSet→World→Prop) (Cj:Code→Nat→BSet→World→Prop) (hC:∀ k,Supp (C k)) (hCj:∀ c k,Supp (Cj c k))
  (D₀ O₀:BSet) (h0:C 0 D₀ w) (hS0:S O₀ w) (hdis:∀ b,D₀ b→¬ O₀ b) (a₁:Nat→Act)
  (hassign:∀ (l k:Nat) (W:World) (K:Act→World→Prop),K (a₁ k) W →
   assign.wpIn (Fence.wide.inRound l) 0 P (Exit.then K (fun _ _ _=>False)) { tmps:=(ps.zip (vals k)).foldl (fun t (p,v)=>t.setIfInBounds p v) a.tmps,defers:=[] } W)
  (hbody:∀ (l k:Nat) (D:BSet) (W:World),k < N→C k D W→jac (fun b=>D₀ b∨M b) w W→body.wpIn (Fence.wide.inRound l) 0 P (jv0 D W (C (k+1)) (fun c=>Cj c (k+1))) (a₁ k) W)
  (hdone:∀ (D O:BSet) (W:World),jac (fun b=>D₀ b∨M b) w W→C N D W→SE N O W→(∀ b,D b→¬ O b)→(∀ b,D b→D₀ b∨w.heap.size≤b)→(∀ b,O b→O₀ b∨w.heap.size≤b) →
   Blk W w.heap.size (.deferred (some []))→¬ D w.heap.size→¬ O w.heap.size →
   Q .normal { a with defers:={ target:=.collected w.heap.size,args:=#[] } :: a.defers } W)
  (hstop:∀ (c:Code) (k:Nat) (D O:BSet) (W:World),k≤N→0 < k→jac (fun b=>D₀ b∨M b) w W→Cj c k D W→SE k O W→(∀ b,D b→¬ O b)→(∀ b,D b→D₀ b∨w.heap.size≤b)→(∀ b,O b→O₀ b∨w.heap.size≤b) →
   Blk W w.heap.size (.deferred (some []))→¬ D w.heap.size→¬ O w.heap.size →
   c.wpIn Fence.wide 0 P Q { a with defers:={ target:=.collected w.heap.size,args:=#[] } :: a.defers } W)
  (hSE:∀ k,Supp (SE k)) :
  (Code.rangeFunc g ps assign body).wpIn Fence.wide 0 P Q a w:=by
 refine wpIn_rangeFunc ?_;intro fn _;show ∃ l mark w₁ d w₁' f args w₂,(Instr.enterLoop fn a.tmps ps assign body none).run P w=_∧_
 obtain⟨rec,hrec⟩:∃ rec:LoopState→Option Code→Loop,rec=fun st pe=>{ state:=st,pending:=pe,fn,tmps:=a.tmps,params:=ps,assign,body,defers:=w.heap.size }:=⟨_,rfl⟩
 obtain⟨W1,hW1⟩:∃ W1,(w.alloc (.deferred (some []))).alloc (.loop (rec .ready none))=W1:=⟨_,rfl⟩
 have hL1:Blk W1 (w.heap.size+1) (.loop (rec .ready none)):=by
  rw[←hW1];have:=Blk.new (w.alloc (.deferred (some []))) (.loop (rec .ready none));rwa [World.size_alloc]at this
 have hK1:Blk W1 w.heap.size (.deferred (some [])):=by
  rw[←hW1];exact (Blk.new w _).alloc _
 have hX1:Ext w W1:=by rw[←hW1];exact ((jac.refl _ w).alloc _).alloc _
 have hs1:W1.heap.size=w.heap.size+2:=by rw[←hW1];simp
 have hD0:∀ b,D₀ b→b < w.heap.size:=(hC 0).lt _ _ h0;have hO0:∀ b,O₀ b→b < w.heap.size:=hS.lt _ _ hS0
 refine⟨w.heap.size+1,[{ target:=.collected w.heap.size,args:=#[] }],W1,{ target:=.fn (.func gf) lb,args:=pre++#[.func (.yield (w.heap.size+1)) #[] #[]] },W1,gf,
  (pre++#[.func (.yield (w.heap.size+1)) #[] #[]])++lb,W1,?_,?_,?_,?_,fun h=>by simp[Fence.wide]at h,?_⟩
 ·rw[←hW1,hrec];exact run_enterLoop_outer _ _ _ _ _
 ·simp only[resolve,hg]
  simp[go_sem]
 ·intro f' _;trivial
 ·simp[invoke,go_sem,eg]
 ·-- the consumer's invariant with the two blocks of book-keeping
  let CC:Nat→BSet→World→Prop:=fun k D W=>∃ D':BSet,C k D' W∧(∀ b,D b↔D' b∨b=w.heap.size+1∨b=w.heap.size)∧¬ D' (w.heap.size+1)∧¬ D' w.heap.size ∧
   Blk W (w.heap.size+1) (.loop (rec .ready none))∧Blk W w.heap.size (.deferred (some []))
  let CX:Nat→BSet→World→Prop:=fun k D W=>∃ (c:Code) (D':BSet),Cj c k D' W∧(∀ b,D b↔D' b∨b=w.heap.size+1∨b=w.heap.size)∧¬ D' (w.heap.size+1)∧¬ D' w.heap.size ∧
   Blk W (w.heap.size+1) (.loop (rec .done (some c)))∧Blk W w.heap.size (.deferred (some []))
  have sCC:∀ k,Supp (CC k):=fun k=>⟨fun D W ⟨D',h1,h2,_,_,h3,h4⟩ b hb=>by
    rcases (h2 b).1 hb with h | rfl | rfl
    ·exact (hC k).lt _ _ h1 b h
    ·exact h3.lt
    ·exact h4.lt,
   fun D W W' ⟨D',h1,h2,h5,h6,h3,h4⟩ hs hb=>⟨D',(hC k).st _ _ _ h1 hs (fun b h=>hb b ((h2 b).2 (.inl h))),h2,h5,h6,
    (hb _ ((h2 _).2 (.inr (.inl rfl)))).trans h3,(hb _ ((h2 _).2 (.inr (.inr rfl)))).trans h4⟩⟩
  have sCX:∀ k,Supp (CX k):=fun k=>⟨fun D W ⟨c,D',h1,h2,_,_,h3,h4⟩ b hb=>by
    rcases (h2 b).1 hb with h | rfl | rfl
    ·exact (hCj c k).lt _ _ h1 b h
    ·exact h3.lt
    ·exact h4.lt,
   fun D W W' ⟨c,D',h1,h2,h5,h6,h3,h4⟩ hs hb=>⟨c,D',(hCj c k).st _ _ _ h1 hs (fun b h=>hb b ((h2 b).2 (.inl h))),h2,h5,h6,
    (hb _ ((h2 _).2 (.inr (.inl rfl)))).trans h3,(hb _ ((h2 _).2 (.inr (.inr rfl)))).trans h4⟩⟩
  have key:=IS (w.heap.size+1) CC CX sCC sCX (fun b=>D₀ b∨b=w.heap.size+1∨b=w.heap.size) O₀ W1 ?_
   ⟨D₀,(hC 0).keeps h0 hX1 (fun _ _ h=>h),fun _=>Iff.rfl,fun h=>by have:=hD0 _ h;omega,fun h=>by have:=hD0 _ h;omega,hL1,hK1⟩
   (hS.keeps hS0 hX1 (fun _ _ h=>h)) (fun b hb ho=>by
    have:=hO0 b ho
    rcases hb with h | rfl | rfl
    ·exact hdis b h ho
    ·omega
    ·omega)
  ·refine CallsIn.mono key ?_
   rintro e W' ⟨⟨v,rfl⟩,D',O',hk,hD',hO',hdis',hcase⟩;have hkw:jac (fun b=>D₀ b∨M b) w W':=(hX1.mono (fun _ _ h=>h.elim)).trans' hk (fun x hx h=>by
     rcases h with (h | rfl | rfl) | h
     ·exact .inl h
     ·omega
     ·omega
     ·exact .inr h)
   have hOo:∀ b,O' b→O₀ b∨w.heap.size≤b:=fun b hb=>(hO' b hb).imp id (fun h=>by omega);rcases hcase with⟨⟨D'',h1,h2,h5,h6,h3,h4⟩,hse⟩ |⟨k,hk1,hk2,⟨c,D'',h1,h2,h5,h6,h3,h4⟩,hse⟩
   ·have hO1:¬ O' (w.heap.size+1):=hdis' _ ((h2 _).2 (.inr (.inl rfl)))
    have hO2:¬ O' w.heap.size:=hdis' _ ((h2 _).2 (.inr (.inr rfl)))
    obtain⟨ox,he⟩:∃ ox,(Instr.endLoop (w.heap.size+1)).run P W'=.ok none (W'.putObj (w.heap.size+1) ox):=⟨_,(run_endLoop (r:=rec .ready none) h3 (by rw[hrec];simp)).trans (by rw[hrec])⟩
    have hkl:=jac.onePut W' (w.heap.size+1) ox
    refine⟨none,_,he,?_⟩
    refine hdone D'' O' _ (hkw.trans' hkl (fun x hx e=>by omega)) ((hC N).keeps h1 hkl (fun b hb e=>h5 (e ▸ hb))) ((hSE N).keeps hse hkl (fun b hb e=>hO1 (e ▸ hb)))
     (fun b hb ho=>hdis' b ((h2 b).2 (.inl hb)) ho) (fun b hb=>?_) hOo (h4.put_other (by omega) _) h6 hO2
    rcases hD' b ((h2 b).2 (.inl hb))with (h | rfl | rfl) | h
    ·exact .inl h
    ·exact absurd hb h5
    ·exact absurd hb h6
    ·exact .inr (by omega)
   ·have hO1:¬ O' (w.heap.size+1):=hdis' _ ((h2 _).2 (.inr (.inl rfl)))
    have hO2:¬ O' w.heap.size:=hdis' _ ((h2 _).2 (.inr (.inr rfl)))
    obtain⟨ox,he⟩:∃ ox,(Instr.endLoop (w.heap.size+1)).run P W'=.ok (some c) (W'.putObj (w.heap.size+1) ox):=⟨_,(run_endLoop (r:=rec .done (some c)) h3 (by rw[hrec];simp)).trans (by rw[hrec])⟩
    have hkl:=jac.onePut W' (w.heap.size+1) ox
    refine⟨some c,_,he,?_⟩
    refine hstop c k D'' O' _ hk1 hk2 (hkw.trans' hkl (fun x hx e=>by omega)) ((hCj c k).keeps h1 hkl (fun b hb e=>h5 (e ▸ hb))) ((hSE k).keeps hse hkl (fun b hb e=>hO1 (e ▸ hb)))
     (fun b hb ho=>hdis' b ((h2 b).2 (.inl hb)) ho) (fun b hb=>?_) hOo (h4.put_other (by omega) _) h6 hO2
    rcases hD' b ((h2 b).2 (.inl hb))with (h | rfl | rfl) | h
    ·exact .inl h
    ·exact absurd hb h5
    ·exact absurd hb h6
    ·exact .inr (by omega)
  ·rintro k D W hk ⟨D',h1,h2,h5,h6,h3,h4⟩ hkk
   have hkw:jac (fun b=>D₀ b∨M b) w W:=(hX1.mono (fun _ _ h=>h.elim)).trans' hkk (fun x hx h=>by
     rcases h with (h | rfl | rfl) | h
     ·exact .inl h
     ·omega
     ·omega
     ·exact .inr h)
   have hD1:D (w.heap.size+1):=(h2 _).2 (.inr (.inl rfl))
   refine⟨_,_,_,_,run_yield h3 (by rw[hrec];exact hps k),?_⟩
   refine roundIn_of_wpIn trivial ?_;rw[show (rec .ready none).tmps=a.tmps from by rw[hrec],show (rec .ready none).params=ps from by rw[hrec],show (rec .ready none).assign=assign from by rw[hrec],show (rec .ready none).body=body from by rw[hrec]];refine hassign _ k W _ ?_
   refine⟨_,run_beginRound h3 (by rw[hrec]),?_⟩
   have hkb:jac (fun b=>b=w.heap.size+1) W (W.putObj (w.heap.size+1) (.loop { rec .ready none with state:=.busy })):=jac.onePut _ _ _;have hsz:w.heap.size≤W.heap.size:=by have:=h4.lt;omega
   refine Code.wpIn_mono ?_ (hbody (w.heap.size+1) k D' _ hk ((hC k).keeps h1 hkb (fun b hb e=>h5 (e ▸ hb))) (hkw.trans' hkb (fun x hx e=>by omega)));have fin:∀ (j:Option Code) (D'':BSet) (W':World),jac D' (W.putObj (w.heap.size+1) (.loop { rec .ready none with state:=.busy })) W' →
     (∀ b,D'' b→D' b∨(W.putObj (w.heap.size+1) (.loop { rec .ready none with state:=.busy })).heap.size≤b) →
     (Instr.endRound (w.heap.size+1) j).run P W'=.ok (.bool j.isNone) (W'.putObj (w.heap.size+1) (.loop (rec (if j.isNone then .ready else .done) j))) ∧
     jac D W (W'.putObj (w.heap.size+1) (.loop (rec (if j.isNone then .ready else .done) j))) ∧
     jac (fun b=>b=w.heap.size+1) W' (W'.putObj (w.heap.size+1) (.loop (rec (if j.isNone then .ready else .done) j))) ∧
     (∀ b,(D'' b∨b=w.heap.size+1∨b=w.heap.size)→D b∨W.heap.size≤b)∧¬ D'' (w.heap.size+1)∧¬ D'' w.heap.size ∧
     Blk (W'.putObj (w.heap.size+1) (.loop (rec (if j.isNone then .ready else .done) j))) (w.heap.size+1) (.loop (rec (if j.isNone then .ready else .done) j)) ∧
     Blk (W'.putObj (w.heap.size+1) (.loop (rec (if j.isNone then .ready else .done) j))) w.heap.size (.deferred (some [])):=by
    intro j D'' W' hK hD'';have hl:Blk W' (w.heap.size+1) (.loop { rec .ready none with state:=.busy }):=(h3.put_same _).keeps hK h5;have hd:Blk W' w.heap.size (.deferred (some [])):=(h4.put_other (by omega) _).keeps hK h6;have hke:jac (fun b=>b=w.heap.size+1) W' (W'.putObj (w.heap.size+1) (.loop (rec (if j.isNone then .ready else .done) j))):=jac.onePut _ _ _;rw[World.putObj_size]at hD'';have hlt3:=h3.lt;have hlt4:=h4.lt
    refine⟨?_,?_,hke,?_,?_,?_,?_,?_⟩
    ·rw[run_endRound j hl,hrec]
    ·exact ((hkb.mono (fun x _ e=>e ▸ hD1)).trans' hK (fun x hx h=>(h2 x).2 (.inl h))).trans' hke (fun x hx e=>e ▸ hD1)
    ·rintro b (h | rfl | rfl)
     ·exact (hD'' b h).imp (fun h=>(h2 b).2 (.inl h)) id
     ·exact .inl hD1
     ·exact .inl ((h2 _).2 (.inr (.inr rfl)))
    ·intro h;rcases hD'' _ h with h | h
     ·exact h5 h
     ·omega
    ·intro h;rcases hD'' _ h with h | h
     ·exact h6 h
     ·omega
    ·exact hl.put_same _
    ·exact hd.put_other (by omega) _
   intro e a' W' hq;cases e with
   | normal =>
    obtain⟨D'',hK,hD'',hc⟩:=hq
    obtain⟨f1,f2,f3,f4,f5,f6,f7,f8⟩:=fin none D'' W' hK hD''
    exact⟨_,_,f1,fun b=>D'' b∨b=w.heap.size+1∨b=w.heap.size,f2,f4,.inl ⟨rfl,D'',(hC _).keeps hc f3 (fun b hb e=>f5 (e ▸ hb)),fun _=>Iff.rfl,f5,f6,f7,f8⟩⟩
   | ret =>
    obtain⟨D'',hK,hD'',hc⟩:=hq
    obtain⟨f1,f2,f3,f4,f5,f6,f7,f8⟩:=fin (some .ret) D'' W' hK hD''
    exact⟨_,_,f1,fun b=>D'' b∨b=w.heap.size+1∨b=w.heap.size,f2,f4,.inr ⟨rfl,.ret,D'',(hCj _ _).keeps hc f3 (fun b hb e=>f5 (e ▸ hb)),fun _=>Iff.rfl,f5,f6,f7,f8⟩⟩
   | exit i =>
    obtain⟨D'',hK,hD'',hc⟩:=hq
    obtain⟨f1,f2,f3,f4,f5,f6,f7,f8⟩:=fin (some (.exit i)) D'' W' hK hD''
    exact⟨_,_,f1,fun b=>D'' b∨b=w.heap.size+1∨b=w.heap.size,f2,f4,.inr ⟨rfl,.exit i,D'',(hCj _ _).keeps hc f3 (fun b hb e=>f5 (e ▸ hb)),fun _=>Iff.rfl,f5,f6,f7,f8⟩⟩
   | goto t=>exact hq.elim
   | panic ch=>exact hq.elim
   | outgrown=>exact hq.elim
end
section
open Go Go.RowKit
attribute [local go_sem] Oper.semAt_some
theorem jas.heap{W0 W:World}{s bm:Nat}{room:Int}{S:List Nd5}(h:jas W0 s bm room S)(hz:W0.heap.size≤W.heap.size)(hb:∀ b,b < W0.heap.size→W.heap[b]?=W0.heap[b]?):jas W s bm room S:=by
 have h1:jas { W with heap:=W0.heap } s bm room S:=⟨h.st,⟨h.mp.mp,h.mp.blks,fun x hx=>⟨(h.mp.items x hx).cells⟩⟩⟩;exact h1.ext ⟨rfl,rfl,rfl,hz,fun b hl _=>hb b hl⟩
theorem jbp.heap{W W':World}{c s:Nat}{fr:ByteArray}{v:Value}{ps:List Pl5}{lk:Int}(h:jbp W c s fr v ps lk)(hz:W.heap.size≤W'.heap.size)(hb:∀ b,b=c∨v.ownBlock=some b→W'.heap[b]?=W.heap[b]?):jbp W' c s fr v ps lk:=by
 have h1:jbp { W' with heap:=W.heap } c s fr v ps lk:=⟨h.cur,h.row,h.ne⟩;exact h1.keeps (F:=fun b=>¬(b=c∨v.ownBlock=some b)) ⟨rfl,rfl,rfl,hz,fun b _ hn=>hb b (Classical.not_not.1 hn)⟩ (fun e=>e (.inl rfl)) (fun b hb e=>e (.inr hb))
theorem jc3.heap{S:List Nd5}{W W':World}{c s:Nat}{fr:ByteArray}{v:Value}{R:List Pair}(h:jc3 S c s fr R W v)(hz:W.heap.size≤W'.heap.size)(hb:∀ b,b=c∨v.ownBlock=some b→W'.heap[b]?=W.heap[b]?):jc3 S c s fr R W' v:=by
 obtain⟨ts,N,n,h⟩:=h
 exact⟨ts,N,n,⟨h.left.heap hz hb,h.stk,h.look,h.len⟩⟩
structure EaS(W0:World)(S:List Nd5)(c s:Nat)(fr:ByteArray)(E:List Pair)(v:Value)(O:BSet)(W:World):Prop where
 is:∀ b,O b↔b < W0.heap.size∨b=c∨v.ownBlock=some b
 size:W0.heap.size≤W.heap.size
 old:∀ b,b < W0.heap.size→W.heap[b]?=W0.heap[b]?
 cur:jc3 S c s fr (jaP E) W v
theorem EaS.supp(W0:World)(S:List Nd5)(c s:Nat)(fr:ByteArray)(E:List Pair)(v:Value):Supp (EaS W0 S c s fr E v):=by
 refine⟨fun D W h b hb=>?_,fun D W W' h hz hb=>⟨h.is,Nat.le_trans h.size hz,fun b hl=>(hb b ((h.is b).2 (.inl hl))).trans (h.old b hl),h.cur.heap hz fun b hc=>hb b ((h.is b).2 (.inr hc))⟩⟩
 rcases (h.is b).1 hb with h1 | rfl | h1
 ·exact Nat.lt_of_lt_of_le h1 h.size
 ·exact h.cur.lt.1
 ·exact h.cur.lt.2 b h1
def EaE(_:Nat)(O:BSet)(W:World):Prop:=∀ b,O b→b < W.heap.size
theorem EaE.supp(k:Nat):Supp (EaE k):=⟨fun D W h b hb=>h b hb,fun D W W' h hz _ b hb=>Nat.lt_of_lt_of_le (h b hb) hz⟩
def atE(E:List Pair)(k:Nat):Pair:=E.getD k pd
def isE(E:List Pair)(k:Nat):Bool:=decide (k < E.length)
def eaV(E:List Pair)(k:Nat):Array Value:=#[.string (atE E k).1,.string (atE E k).2]
structure jxb(W:World)(S:List Nd5)(c s:Nat)(fr:ByteArray)(E:List Pair)(v:Value)(C:Nat→BSet→World→Prop)(D:BSet)(k g:Nat)(Dk:BSet)(v':Value)(wr:World):Prop where
 le:k≤E.length
 at':C k Dk wr
 sub:∀ b,Dk b→D b∨W.heap.size≤b
 kp:jac (fun b=>D b∨b=c∨v.ownBlock=some b) W wr
 cur:jc3 S c s fr (jaP (E.drop (k+1))) wr v'
 row:v'.ownBlock=v.ownBlock∨∀ b,v'.ownBlock=some b→W.heap.size≤b
 var:Blk wr g (.cells #[.string (atE E k).1,.string (atE E k).2] 72)
 vnew:W.heap.size≤g
 n1:¬ Dk g
 n2:¬ Dk c
 n3:∀ b,v'.ownBlock=some b→¬ Dk b
 n4:v'.ownBlock≠some g
def EaI(W:World)(S:List Nd5)(c s:Nat)(fr:ByteArray)(E:List Pair)(v:Value)(C:Nat→BSet→World→Prop)(D:BSet)(gv bv:Value)(wr:World)(m:Nat):Prop:=
 ∃ k g Dk v',k+m=E.length∧gv=.pointer (some ⟨g,0,none⟩)∧bv=.bool (isE E k)∧jxb W S c s fr E v C D k g Dk v' wr
def jvI(W:World)(S:List Nd5)(c s:Nat)(fr:ByteArray)(E:List Pair)(v:Value)(C:Nat→BSet→World→Prop)(D:BSet)(gv bv:Value)(wr:World):Prop:=∃ m,EaI W S c s fr E v C D gv bv wr m
theorem jgU{p:Nat→Prop}(h:∃ m,p m):∃ m,p m∧∀ k,p k→m≤k:=by
 obtain⟨m,hm⟩:=h
 induction m using Nat.strongRecOn with
 | ind m ih =>
  by_cases hx:∃ k,k < m∧p k
  ·obtain⟨k,hk,hp⟩:=hx
   exact ih k hk hp
  ·exact⟨m,hm,fun k hk=>Nat.le_of_not_lt fun hl=>hx ⟨k,hl,hk⟩⟩
open Classical in
noncomputable def least(p:Nat→Prop):Nat:=if h:∃ m,p m then (jgU h).choose else 0
theorem jix{p:Nat→Prop}(h:∃ m,p m):p (least p)∧∀ k,p k→least p≤k:=by
 unfold least;rw[dif_pos h];exact (jgU h).choose_spec
theorem jm0(E:List Pair)(k:Nat):jjk (E.drop k)=.tuple #[.agg #[.string (atE E k).1,.string (atE E k).2],.bool (isE E k)]:=by
 unfold atE isE
 by_cases h:k < E.length
 ·have e:E.drop k=E[k] :: E.drop (k+1):=List.drop_eq_getElem_cons h
  rw[e,decide_eq_true h,List.getD_eq_getElem?_getD,List.getElem?_eq_getElem h];rfl
 ·rw[List.drop_of_length_le (by omega),decide_eq_false h,List.getD_eq_getElem?_getD,List.getElem?_eq_none (by omega)];rfl
theorem jmm(W0:World)(c s bm:Nat)(room:Int)(S:List Nd5)(hs0:jas W0 s bm room S)(fr:ByteArray)(E:List Pair)(v:Value)(hf:fr.size≤1000000)(hE:E.length≤1000)(hc:W0.heap.size≤c)(hv:∀ b,v.ownBlock=some b→W0.heap.size≤b) :
  jts Tryz.prog 100 #[.pointer (some ⟨c,0,none⟩)] #[] E.length (eaV E) (fun b=>b=c∨v.ownBlock=some b) (EaS W0 S c s fr E v) EaE:=by
 intro y C Cx hC hCx D O W hY h0 hS hdis;have HST:=Hd (show ∀ w,jac (fun b=>D b∨b=c∨v.ownBlock=some b) W w→jas w s bm room S from fun w k=>hs0.heap (Nat.le_trans hS.size k.size) fun b hb=>(k.block b (Nat.lt_of_lt_of_le hb hS.size) (fun e=>by
  rcases e with e | e | e
  ·exact hdis b e ((hS.is b).2 (.inl hb))
  ·omega
  ·have:=hv b e;omega)).trans (hS.old b hb))
 have HY:=Hd hY;have HC:=Hd hC;have HCX:=Hd hCx;have H0:=Hd h0;have HS:=Hd hS;have HD:=Hd hdis;have hnx:=jgu W c s bm room S fr (jaP E) v hf hS.cur (HST.o W (jac.refl _ W));rw[jdE,jfq,show jjk E=_ from jm0 E 0]at hnx;have HNX:=Hd hnx;clear hY hC hCx h0 hS hdis hnx;refine callsIn_of_wp Tryz.func100 rfl trivial ?_ rfl;simp only[Tryz.ntmps100,List.size_toArray,List.length_cons,List.length_nil,Nat.reduceAdd,Nat.reduceSub,Array.replicate_succ,Array.replicate_zero,List.push_toArray,List.append_toArray,List.nil_append,List.cons_append];gi_wp2_with fail
 refine⟨trivial,rfl,CallsIn.mono (callsIn_wide.2 HNX.o) ?_⟩
 rintro e w1 ⟨rfl,v1,hT1⟩;have HT1:=Hd hT1;clear hT1;gi_wp2_with fail
 have hX:Ext w1 (w1.alloc (.cells #[.string (atE E 0).1,.string (atE E 0).2] 72)):=(ExtR w1).alloc _;have hB:Blk (w1.alloc (.cells #[.string (atE E 0).1,.string (atE E 0).2] 72)) w1.heap.size (.cells #[.string (atE E 0).1,.string (atE E 0).2] 72):=Blk.new w1 _
 obtain⟨w2,hw2⟩:∃ w2,w2=w1.alloc (.cells #[.string (atE E 0).1,.string (atE E 0).2] 72):=⟨_,rfl⟩
 rw[←hw2]at hX hB ⊢;have HX:=Hd hX;have HB:=Hd hB;clear hX hB hw2;gi_loopw [4,5] (fun gv bv wr=>jvI W S c s fr E v C D gv bv wr) (fun gv bv wr=>least (EaI W S c s fr E v C D gv bv wr))
 case atStart =>
  have hT:=HT1.o;have hkp:=hT.kp;have hDlt:=(HC.o 0).lt _ _ H0.o;have hDO:∀ b,D b→¬(b=c∨v.ownBlock=some b):=fun b hb e=>HD.o b hb ((HS.o.is b).2 (.inr e));have hsz:=hkp.1.size
  refine⟨E.length,0,w1.heap.size,D,v1,by omega,rfl,rfl,⟨by omega,(HC.o 0).keeps ((HC.o 0).keeps H0.o hkp.1 hDO) HX.o (fun _ _ h=>h),fun b hb=>.inl hb,(hkp.1.mono (fun b _ h=>.inr h)).trans' HX.o (fun _ _ h=>h.elim),?_,hkp.2,HB.o,hsz,fun h=>by have:=hDlt _ h;omega,fun h=>hDO c h (.inl rfl),fun b hb h=>?_,fun e=>?_⟩⟩
  ·have:E.tail=E.drop (0+1):=by cases E <;> rfl
   rw[←this];exact hT.at'.ext HX.o
  ·rcases hkp.2 with h1 | h1
   ·exact hDO b h (.inr (h1 ▸ hb))
   ·have:=h1 b hb;have:=hDlt b h;omega
  ·have:=hT.at'.lt.2 _ e;omega
 case round =>
  obtain⟨hI,hmin⟩:=jix hrel
  obtain⟨m,hm⟩:∃ m,m=least (EaI W S c s fr E v C D u4 u5 wr):=⟨_,rfl⟩
  rw[←hm]at hI hmin
  obtain⟨k,g,Dk,v',hkm,rfl,rfl,hR⟩:=hI
  have HR:=Hd hR;have HM:=Hd (And.intro hm (And.intro hmin hkm));clear hm hmin hkm hrel;cases hb:isE E k with
  | false =>
   have hke:k=E.length:=by
    have h1:=hR.le
    have:¬ k < E.length:=fun h=>by unfold isE at hb;rw[decide_eq_true h]at hb;cases hb
    omega
   have HF:Hid (jiU W (fun b=>b=c∨v.ownBlock=some b) D O E.length C Cx EaE (.returned (.tuple #[])) wr):=Hd ⟨⟨_,rfl⟩,Dk,fun _=>False,hR.kp,hR.sub,fun b h=>h.elim,fun b _ h=>h,.inl ⟨hke ▸ hR.at',fun b h=>h.elim⟩⟩;clear hR hb hke;gi_wp2;refine bodyPost_end (results_none rfl _ _ _) rfl ?_;exact HF.o
  | true =>
   have hlt:k < E.length:=by unfold isE at hb;exact of_decide_eq_true hb
   have HLT:=Hd hlt;have HBK:=Hd hb;have q0:=hR.var.cell (i:=0) (v:=.string (atE E k).1) (by rfl);have q1:=hR.var.cell (i:=1) (v:=.string (atE E k).2) (by rfl)
   obtain⟨x,hx⟩:∃ x,x=(atE E k).1:=⟨_,rfl⟩
   obtain⟨z,hz⟩:∃ z,z=(atE E k).2:=⟨_,rfl⟩
   obtain⟨fn,tm,asg,bd,hyr,hrd⟩:=HY.o k Dk wr hlt hR.at' hR.kp
   unfold eaV at hyr;have HV:=Hd (show Blk wr g (.cells #[.string x,.string z] 72) by rw[hx,hz];exact hR.var);rw[←hx]at q0 hyr;rw[←hz]at q1 hyr;have HRD:=Hd hrd;clear hR hb hrd hlt hx hz;gi_wp2_with fail
   refine⟨rfl,HRD.o.mono ?_⟩
   rintro e w5 ⟨D5,k5,s5,hcase⟩;have HK5:=Hd (And.intro k5 s5);have hv5:=HV.o.keeps k5 HR.o.n1;have HV5:=Hd hv5;rcases hcase with⟨rfl,C5⟩ |⟨rfl,C5⟩
   ·have q0:=hv5.cell (i:=0) (v:=.string x) (by rfl)
    have q1:=hv5.cell (i:=1) (v:=.string z) (by rfl);have HC5:=Hd C5;clear C5 k5 s5 hv5;gi_wp2_with fail
    have hgl:=HR.o.var.lt;have hcl:=HR.o.cur.lt;have hz5:=HK5.o.1.size;have hx6:Ext w5 (w5.alloc (.cells #[.string x,.string z] 72)):=(ExtR w5).alloc _;have hcur:=((HR.o.cur.keeps HK5.o.1 HR.o.n2 HR.o.n3).ext hx6);have hkp6:jac (fun b=>D b∨b=c∨v.ownBlock=some b) W (w5.alloc (.cells #[.string x,.string z] 72)):=(HR.o.kp.trans' HK5.o.1 (fun b hb h=>by
     rcases HR.o.sub b h with h | h
     ·exact .inl h
     ·omega)).trans' hx6 (fun _ _ h=>h.elim)
    have hb6:Blk (w5.alloc (.cells #[.string x,.string z] 72)) w5.heap.size (.cells #[.string x,.string z] 72):=Blk.new w5 _
    refine⟨trivial,rfl,CallsIn.mono (callsIn_wide.2 (jgu _ c s bm room S fr (jaP (E.drop (k+1))) v' hf hcur (HST.o _ hkp6))) ?_⟩
    rintro e w7 ⟨rfl,v7,hT7⟩;rw[jdE,jm0];rw[jfq,List.tail_drop]at hT7;have hkp7:=hT7.kp;have hb7:=hb6.keeps hkp7.1 (fun e=>by
     rcases e with e | e
     ·omega
     ·have:=hcl.2 _ e;omega)
    have p0:=hb7.cell (i:=0) (v:=.string x) (by rfl);have p1:=hb7.cell (i:=1) (v:=.string z) (by rfl);have f0:w7.frozen? ⟨w5.heap.size,0,none⟩=false:=hb7.frozen;have f1:w7.frozen? ⟨w5.heap.size,1,none⟩=false:=hb7.frozen;have HT7:=Hd hT7;have HB7:=Hd hb7;have HKP6:=Hd hkp6;clear hgl hcl hz5 hcur hkp6 hb6 hkp7 hb7 hT7 hx6 q0 q1;gi_wp2_with fail
    have hnew:EaI W S c s fr E v C D (.pointer (some ⟨w5.heap.size,0,none⟩)) (.bool (isE E (k+1))) ((w7.setCell ⟨w5.heap.size,0,none⟩ (.string (atE E (k+1)).1)).setCell ⟨w5.heap.size,1,none⟩ (.string (atE E (k+1)).2)) (m - 1):=by
     obtain⟨k5,s5⟩:=HK5.o
     have hkm:=HM.o.2.2;have hlt:=HLT.o;have hT7:=HT7.o;have hkp7:=hT7.kp;have hcl:=HR.o.cur.lt;have hz5:=k5.size;have hz6:(w5.alloc (.cells #[.string x,.string z] 72)).heap.size=w5.heap.size+1:=by simp
     have hD5:=(HC.o (k+1)).lt _ _ HC5.o;have hwr:=HR.o.kp.size;have hrow5:∀ b,v'.ownBlock=some b→¬ D5 b:=fun b hb h=>by
      rcases s5 b h with h1 | h1
      ·exact HR.o.n3 b hb h1
      ·have:=hcl.2 b hb;omega
     have hc5:¬ D5 c:=fun h=>by
      rcases s5 c h with h1 | h1
      ·exact HR.o.n2 h1
      ·have:=hcl.1;omega
     have ks1:=jac.oneSet w7 ⟨w5.heap.size,0,none⟩ (.string (atE E (k+1)).1);have ks2:=jac.oneSet (w7.setCell ⟨w5.heap.size,0,none⟩ (.string (atE E (k+1)).1)) ⟨w5.heap.size,1,none⟩ (.string (atE E (k+1)).2);have ks:jac (fun b=>b=w5.heap.size) w7 ((w7.setCell ⟨w5.heap.size,0,none⟩ (.string (atE E (k+1)).1)).setCell ⟨w5.heap.size,1,none⟩ (.string (atE E (k+1)).2)):=ks1.trans ks2;have hC7:=(HC.o (k+1)).keeps ((HC.o (k+1)).keeps HC5.o ((ExtR w5).alloc (.cells #[.string x,.string z] 72)) (fun _ _ h=>h)) hkp7.1 (fun b hb e=>by
      rcases e with e | e
      ·subst e;exact hc5 hb
      ·exact hrow5 b e hb)
     have hC9:=(HC.o (k+1)).keeps hC7 ks (fun b hb e=>by have:=hD5 b hb;omega);have hn7:∀ b,v7.ownBlock=some b→¬ D5 b∧b≠w5.heap.size:=fun b hb=>by
      rcases hkp7.2 with h1 | h1
      ·have hb':v'.ownBlock=some b:=h1 ▸ hb
       have:=hcl.2 b hb'
       exact⟨hrow5 b hb',by omega⟩
      ·have:=h1 b hb
       exact⟨fun h=>by have:=hD5 b h;omega,by omega⟩
     have hcw:c < W.heap.size:=HS.o.cur.lt.1
     refine⟨k+1,w5.heap.size,D5,v7,by omega,rfl,rfl,⟨by omega,hC9,fun b hb=>?_,?_,?_,?_,?_,by omega,fun h=>by have:=hD5 _ h;omega,hc5,fun b hb=>(hn7 b hb).1,fun e=>(hn7 _ e).2 rfl⟩⟩
     ·rcases s5 b hb with h | h
      ·exact HR.o.sub b h
      ·exact .inr (by omega)
     ·refine (HKP6.o.trans' hkp7.1 (fun b hb e=>?_)).trans' ks (fun b hb e=>by omega)
      rcases e with e | e
      ·exact .inr (.inl e)
      ·rcases HR.o.row with h1 | h1
       ·exact .inr (.inr (h1 ▸ e))
       ·have:=h1 b e;omega
     ·exact (hT7.at').keeps ks (fun e=>by omega) (fun b hb e=>(hn7 b hb).2 e)
     ·rcases hkp7.2 with h1 | h1
      ·rcases HR.o.row with h2 | h2
       ·exact .inl (h1.trans h2)
       ·exact .inr fun b hb=>h2 b (h1 ▸ hb)
      ·exact .inr fun b hb=>by have:=h1 b hb;omega
     ·exact (HB7.o.set_same (i:=0) (.string (atE E (k+1)).1)).set_same (i:=1) (.string (atE E (k+1)).2)
    refine⟨⟨m - 1,hnew⟩,?_⟩
    have h1:=(jix ⟨_,hnew⟩).2 _ hnew;have h2:=HM.o.1;rw[HBK.o]at h2;rw[←h2]
    have:=HM.o.2.2
    have:=HLT.o
    omega
   ·have HF:Hid (jiU W (fun b=>b=c∨v.ownBlock=some b) D O E.length C Cx EaE (.returned (.tuple #[])) w5):=Hd ⟨⟨_,rfl⟩,D5,fun _=>False,HR.o.kp.trans' k5 (fun b hb h=>by
      rcases HR.o.sub b h with h | h
      ·exact .inl h
      ·omega),fun b hb=>by
      rcases s5 b hb with h | h
      ·exact HR.o.sub b h
      ·have:=HR.o.kp.size;exact .inr (by omega),fun b h=>h.elim,fun b _ h=>h,.inr ⟨k+1,by have:=HLT.o;omega,by omega,C5,fun b h=>h.elim⟩⟩
    clear k5 s5 hv5 C5;gi_wp2;refine bodyPost_ret (results_none rfl _ _ _) rfl ?_;exact HF.o
end
section
open Go Go.RowKit
attribute [local go_sem] Oper.semAt_some
theorem Tryz.enterEachCur:∀ args w,(callFunc 100 args).run Tryz.prog w=.ok (.enter 100 args) w:=fun _ _=>by kernel_rfl
theorem jpS(l:List Pair):jgE ⟨#[]⟩ l=l:=by
 unfold jgE;rw[List.filter_eq_self];intro p _;cases h:jbs p.1 ⟨#[]⟩with
 | false=>rfl
 | true=>exact absurd ((jbE _ _).1 h) (not_lt_nil _)
def CtC(t:Nat)(k:Nat)(D:BSet)(W:World):Prop:=(∀ b,D b↔b=t)∧Blk W t (.cells #[.int .i64 (k:Int)] 3)
theorem CtC.supp(t k:Nat):Supp (CtC t k):=⟨fun D W h b hb=>by rw[(h.1 b).1 hb];exact h.2.lt,fun D W W' h hz hb=>⟨h.1,(hb t ((h.1 t).2 rfl)).trans h.2⟩⟩
theorem juW:Supp (fun _ _=>False):=⟨fun _ _ h=>h.elim,fun _ _ _ h=>h.elim⟩
theorem juq(W:World)(s bm:Nat)(room:Int)(S:List Nd5)(l:List Pair)(hM:HasM S l)(hs:jas W s bm room S) :
  Calls Tryz.prog 49 #[.pointer (some ⟨s,0,none⟩),.string (shaB (jaT l).text)] W fun e w'=>e=.returned (.tuple #[.int .i64 l.length,.int .i64 0])∧Ext W w':=by
 have HSK:=Hd (jh1 W s bm room S ⟨#[]⟩ l (by simp[ByteArray.size]) hM hs);have HS:=Hd hs;have hl40:=(jaM hM.ok).len;have HM:=Hd hM
 obtain⟨k,hk⟩:∃ k,k=shaB (jaT l).text:=⟨_,rfl⟩
 rw[←hk]at HSK ⊢;clear hM hs hk;rw[←callsIn_wide (n:=0)];refine callsIn_of_wp_marks Tryz.func49 rfl trivial ?_ rfl;simp only[Tryz.ntmps49,List.size_toArray,List.length_cons,List.length_nil,Nat.reduceAdd,Nat.reduceSub,Array.replicate_succ,Array.replicate_zero,List.push_toArray,List.append_toArray,List.nil_append,List.cons_append];gi_wp2_with fail
 refine⟨trivial,rfl,CallsIn.mono (callsIn_wide.2 HSK.o) ?_⟩
 rintro e w1 ⟨c,v,rfl,hc,hv,hX,hC⟩;rw[jeh,jpS]at hC;have HCC:=Hd (And.intro hc hv);have HX:=Hd hX;have HC:=Hd hC;clear hc hv hX hC;gi_wp2_with fail
 obtain⟨w2,hw2⟩:∃ w2,w2=w1.alloc (.cells #[.int .i64 0] 3):=⟨_,rfl⟩
 have hX2:Ext w1 w2:=by rw[hw2];exact (ExtR w1).alloc _
 have hB2:Blk w2 w1.heap.size (.cells #[.int .i64 ((0:Nat):Int)] 3):=by rw[hw2];exact Blk.new w1 _
 have hz2:w2.heap.size=w1.heap.size+1:=by rw[hw2];simp
 rw[←hw2];have hcl:=HC.o.lt;have hS0:EaS W S c s (jbc ⟨#[]⟩) l v (fun b=>b < W.heap.size∨b=c∨v.ownBlock=some b) w2:=
  ⟨fun b=>Iff.rfl,by have:=HX.o.size;omega,fun b hb=>(hX2.block b (by have:=HX.o.size;omega) (fun h=>h)).trans (HX.o.block b hb (fun h=>h)),HC.o.ext hX2⟩
 have HX2:=Hd (HX.o.trans hX2);have HZ:=Hd (And.intro hz2 HX.o.size);clear hw2 hX2 hz2;refine jlh (N:=l.length) (gf:=100) (pre:=#[.pointer (some ⟨c,0,none⟩)]) (lb:=#[]) rfl Tryz.enterEachCur
  (jmm W c s bm room S HS.o (jbc ⟨#[]⟩) l v (by have:=jb9 ⟨#[]⟩;rw[this];decide) (by omega) HCC.o.1 HCC.o.2)
  (EaS.supp W S c s (jbc ⟨#[]⟩) l v) (fun k=>rfl) (CtC w1.heap.size) (fun _ _ _ _=>False) (CtC.supp w1.heap.size) (fun _ _=>juW)
  (fun b=>b=w1.heap.size) (fun b=>b < W.heap.size∨b=c∨v.ownBlock=some b) ⟨fun b=>Iff.rfl,hB2⟩ hS0
  (fun b hb ho=>by
   have hb:b=w1.heap.size:=hb;subst hb;rcases ho with h | h | h
   ·have:=HZ.o.2;omega
   ·omega
   ·have:=hcl.2 _ h;omega)
  (fun j=>{ tmps:=#[.pointer (some ⟨s,0,none⟩),.string k,undef,undef,.int .i64 0,.int .i64 0,.pointer (some ⟨c,0,none⟩),.int .i64 0,.pointer (some ⟨w1.heap.size,0,none⟩),
     .tuple #[.pointer (some ⟨c,0,none⟩),.int .i64 0],.pointer (some ⟨s,0,none⟩),.string k,.tuple #[.pointer (some ⟨c,0,none⟩),.int .i64 0],
     .pointer (some ⟨c,0,none⟩),.int .i64 0,.int .i64 0,.bool false,undef,.pointer (some ⟨c,0,none⟩),
     .func (.func 100) #[.pointer (some ⟨c,0,none⟩)] #[],.string (atE l j).1,.string (atE l j).2,undef,undef,undef],defers:=[] }) ?hassign ?hbody ?hdone ?hstop EaE.supp
 case hassign =>
  intro y j W9 K hK;unfold eaV;rw[jlD];gi_wp2;exact hK
 case hbody =>
  intro y j D W9 hj hc hkp
  obtain⟨hD,hN⟩:=hc
  have n0:=hN.cell (i:=0) (v:=.int .i64 (j:Int)) (by rfl);have nf:W9.frozen? ⟨w1.heap.size,0,none⟩=false:=hN.frozen;have HN:=Hd hN;have HD:=Hd hD;have hj2:(j:Int)≤100:=by omega
  have hj3:(j:Int)+1=((j+1:Nat):Int):=by omega
  have HJ:=Hd hj3;clear hN hD hkp hj3;gi_wp2_with fail
  refine⟨D,(jac.oneSet W9 ⟨w1.heap.size,0,none⟩ (.int .i64 ((j:Int)+1))).mono (fun b _ e=>(HD.o b).2 e),fun b hb=>.inl hb,HD.o,?_⟩
  have:=HN.o.set_same (i:=0) (.int .i64 ((j:Int)+1))
  rw[←HJ.o];exact this
 case hdone =>
  intro D O W9 hkp hc hse hdis hDn hOn hbd h1 h2
  obtain⟨hD,hN⟩:=hc
  have n0:=hN.cell (i:=0) (v:=.int .i64 (l.length:Int)) (by rfl);have HBD:=Hd hbd;have HF:=Hd (show Ext W W9 from HX2.o.trans' hkp (fun b hb e=>by
   rcases e with e | e | e
   ·have e:b=w1.heap.size:=e;have:=HZ.o.2;omega
   ·have:=HCC.o.1;omega
   ·have:=HCC.o.2 b e;omega))
  clear hD hN hkp hse hdis hDn hOn hbd h1 h2 hS0 hB2;gi_wp2
  refine⟨by simp,.inl ⟨_,_,rfl,run_takeDeferred HBD.o,?_⟩⟩
  exact⟨_,results_tmp2 rfl _ _ _,rfl,HF.o.trans' (jac.onePut W9 w2.heap.size _) (fun b hb e=>by have:=HX2.o.size;have e:b=w2.heap.size:=e;omega)⟩
 case hstop=>exact fun _ _ _ _ _ _ _ _ h=>h.elim
def jg0(to:ByteArray)(l:List Pair):List Pair:=l.filter fun p => !jbs to p.1
theorem jiQ{to:ByteArray}:∀ {E:List Pair} {k:Nat},E.Pairwise (fun p q=>Lt p.l q.l)→(∀ q∈E.take k,jbs to q.1=false)→(∀ q,E[k]?=some q→jbs to q.1=true)→jg0 to E=E.take k:=by
 intro E k hr h1 h2;unfold jg0;have e:E=E.take k++E.drop k:=(List.take_append_drop k E).symm
 conv=>lhs;rw[e]
 rw[List.filter_append];have ha:(E.take k).filter (fun p => !jbs to p.1)=E.take k:=by
  rw[List.filter_eq_self];intro q hq;simp[h1 q hq]
 have hb:(E.drop k).filter (fun p => !jbs to p.1)=[]:=by
  rw[List.filter_eq_nil_iff];intro q hq
  obtain⟨i,hi⟩:=List.getElem?_of_mem hq
  rw[List.getElem?_drop]at hi;have hk:k < E.length:=by have:=(List.getElem?_eq_some_iff.1 hi).1;omega
  have h3:=h2 _ (List.getElem?_eq_getElem hk)
  by_cases h0:i=0
  ·subst h0
   rw[Nat.add_zero]at hi;rw[h2 q hi];simp
  ·have hlt:=jct hr (show k < k+i by omega) (List.getElem?_eq_getElem hk) hi
   have:jbs to q.1=true:=(jbE _ _).2 (jdl _ _ _ ((jbE _ _).1 h3) hlt)
   simp[this]
 rw[ha,hb,List.append_nil]
theorem joA{to:ByteArray}{E:List Pair}{k:Nat}{q:Pair}(h1:∀ q∈E.take k,jbs to q.1=false)(hq:E[k]?=some q)(h2:jbs to q.1=false):(jg0 to E).take k=E.take k∧k < (jg0 to E).length:=by
 unfold jg0;have hk:=(List.getElem?_eq_some_iff.1 hq).1;have e:E=E.take k++(q :: E.drop (k+1)):=by
  obtain⟨h,rfl⟩:=List.getElem?_eq_some_iff.1 hq
  rw[←List.drop_eq_getElem_cons h,List.take_append_drop]
 have ha:(E.take k).filter (fun p => !jbs to p.1)=E.take k:=by
  rw[List.filter_eq_self];intro q hq;simp[h1 q hq]
 have hl:(E.take k).length=k:=by rw[List.length_take];omega
 have ef:E.filter (fun p => !jbs to p.1)=E.take k++(q ::(E.drop (k+1)).filter (fun p => !jbs to p.1)):=by
  conv=>lhs;rw[e]
  rw[List.filter_append,ha,List.filter_cons,h2];rfl
 rw[ef]
 refine⟨?_,?_⟩
 ·conv=>lhs;arg 1;rw[←hl]
  exact List.take_left
 ·rw[List.length_append,hl,List.length_cons];omega
theorem cmp3(a b:ByteArray):(jbs b a=true→Op.bytesLess a.toList b.toList=false∧(a.toList == b.toList)=false)∧(jbs b a=false→∃ b1 b2,Op.bytesLess a.toList b.toList=b1∧(a.toList == b.toList)=b2∧(!b1 && !b2)=false):=by
 rw[ByteArray.toList_eq,ByteArray.toList_eq];constructor
 ·intro h
  rw[jbE]at h
  refine⟨?_,?_⟩
  ·rw[Bool.eq_false_iff];exact fun h2=>lt_irrefl _ (jdl _ _ _ h h2)
  ·rw[beq_eq_false_iff_ne];intro e;rw[e]at h;exact lt_irrefl _ h
 ·intro h
  refine⟨_,_,rfl,rfl,?_⟩
  rcases jjh a.data.toList b.data.toList with h3 | h3 | h3
  ·rw[show Op.bytesLess a.data.toList b.data.toList=true from h3];rfl
  ·rw[h3];simp
  ·rw[(jbE _ _).2 h3]at h;cases h
structure RgA(t:Nat)(to:ByteArray)(limit:Int)(W:World):Prop where
 b0:Blk W t (.cells #[.string to] 9)
 b1:Blk W (t+1) (.cells #[.int .i64 limit] 3)
 b2:Blk W (t+2) (.cells #[.slice none 0 0] 22)
 b3:Blk W (t+3) (.cells #[.bool false] 4)
 b4:Blk W (t+4) (.cells #[.int .i64 0] 27)
theorem RgA.keeps{t:Nat}{to:ByteArray}{limit:Int}{W W':World}{F:BSet}(h:RgA t to limit W)(k:jac F W W')(hF:∀ b,t≤b→b≤t+4→¬ F b):RgA t to limit W':=
 ⟨h.b0.keeps k (hF _ (by omega) (by omega)),h.b1.keeps k (hF _ (by omega) (by omega)),h.b2.keeps k (hF _ (by omega) (by omega)),h.b3.keeps k (hF _ (by omega) (by omega)),h.b4.keeps k (hF _ (by omega) (by omega))⟩
theorem RgA.new(W:World)(to:ByteArray)(limit:Int):RgA W.heap.size to limit (((((W.alloc (.cells #[.string to] 9)).alloc (.cells #[.int .i64 limit] 3)).alloc (.cells #[.slice none 0 0] 22)).alloc (.cells #[.bool false] 4)).alloc (.cells #[.int .i64 0] 27)):=by
 refine⟨?_,?_,?_,?_,?_⟩
 ·exact ((((Blk.new W _).alloc _).alloc _).alloc _).alloc _
 ·have:=(((Blk.new (W.alloc (.cells #[.string to] 9)) (.cells #[.int .i64 limit] 3)).alloc (.cells #[.slice none 0 0] 22)).alloc (.cells #[.bool false] 4)).alloc (.cells #[.int .i64 0] 27)
  rwa [World.size_alloc]at this
 ·have:=((Blk.new ((W.alloc (.cells #[.string to] 9)).alloc (.cells #[.int .i64 limit] 3)) (.cells #[.slice none 0 0] 22)).alloc (.cells #[.bool false] 4)).alloc (.cells #[.int .i64 0] 27)
  rwa [World.size_alloc,World.size_alloc]at this
 ·have:=(Blk.new (((W.alloc (.cells #[.string to] 9)).alloc (.cells #[.int .i64 limit] 3)).alloc (.cells #[.slice none 0 0] 22)) (.cells #[.bool false] 4)).alloc (.cells #[.int .i64 0] 27)
  rwa [World.size_alloc,World.size_alloc,World.size_alloc]at this
 ·have:=Blk.new ((((W.alloc (.cells #[.string to] 9)).alloc (.cells #[.int .i64 limit] 3)).alloc (.cells #[.slice none 0 0] 22)).alloc (.cells #[.bool false] 4)) (.cells #[.int .i64 0] 27)
  rwa [World.size_alloc,World.size_alloc,World.size_alloc,World.size_alloc]at this
def jtt(E:List Pair)(to:ByteArray)(limit:Int)(W:World)(e:Ending)(w':World):Prop:=
 Ext W w'∧if 1≤limit∧limit≤8 then ∃ lv,e=.returned (.tuple #[lv,.bool (decide (limit.toNat < (jg0 to E).length)),.int .i64 0])∧NRow W w' lv ((jg0 to E).take limit.toNat)
  else e=.returned (.tuple #[.slice none 0 0,.bool false,.int .i64 1])
theorem jsR{W W':World}{B:Nat}{T:TypeId}{sz:Nat}{v:Value}{n:Nat}{xs:List Value}(h:W.ownsRow B T sz v n xs)(hb:∀ b,v.ownBlock=some b→W'.heap[b]?=W.heap[b]?):W'.ownsRow B T sz v n xs:=by
 obtain⟨h1,h2 |⟨g,cap,cur,h2,h3,h4,h5⟩⟩:=h
 ·exact⟨h1,.inl h2⟩
 ·exact⟨h1,.inr ⟨g,cap,cur,h2,h3,(hb g (by rw[h2];rfl)).trans h4,h5⟩⟩
structure RgG(t5:Nat)(t:Nat)(to:ByteArray)(n:Nat)(E:List Pair)(k:Nat)(r2:Value)(r3:Bool)(lv:Value)(D:BSet)(W:World):Prop where
 is:∀ b,D b↔(t≤b∧b≤t+4)∨b=t5∨lv.ownBlock=some b
 b0:Blk W t (.cells #[.string to] 9)
 b1:Blk W (t+1) (.cells #[.int .i64 (n:Int)] 3)
 b2:Blk W (t+2) (.cells #[r2] 22)
 b3:Blk W (t+3) (.cells #[.bool r3] 4)
 b4:Blk W (t+4) (.cells #[.int .i64 0] 27)
 b5:Blk W t5 (.cells #[lv] 22)
 row:W.ownsRow 0 72 2 lv k (jdJ (E.take k))
 far:∀ b,lv.ownBlock=some b→t5 < b
 le:k≤n
 low:∀ q∈E.take k,jbs to q.1=false
theorem RgG.supp(t5 t:Nat)(to:ByteArray)(n:Nat)(E:List Pair)(k:Nat)(r2:Value)(r3:Bool)(lv:Value):Supp (RgG t5 t to n E k r2 r3 lv):=by
 refine⟨fun D W h b hb=>?_,fun D W W' h hz hb=>?_⟩
 ·rcases (h.is b).1 hb with e | e | e
  ·have:=h.b4.lt;omega
  ·have:=h.b5.lt;omega
  ·exact jfy h.row e
 ·have hD:∀ b,t≤b→b≤t+4→W'.heap[b]?=W.heap[b]?:=fun b h1 h2=>hb b ((h.is b).2 (.inl ⟨h1,h2⟩))
  exact⟨h.is,(hD _ (by omega) (by omega)).trans h.b0,(hD _ (by omega) (by omega)).trans h.b1,(hD _ (by omega) (by omega)).trans h.b2,(hD _ (by omega) (by omega)).trans h.b3,(hD _ (by omega) (by omega)).trans h.b4,
   (hb t5 ((h.is t5).2 (.inr (.inl rfl)))).trans h.b5,jsR h.row fun b e=>hb b ((h.is b).2 (.inr (.inr e))),h.far,h.le,h.low⟩
def RgC(t5 t:Nat)(to:ByteArray)(n:Nat)(E:List Pair)(k:Nat)(D:BSet)(W:World):Prop:=∃ lv,RgG t5 t to n E k (.slice none 0 0) false lv D W
theorem RgC.supp(t5 t:Nat)(to:ByteArray)(n:Nat)(E:List Pair)(k:Nat):Supp (RgC t5 t to n E k):=
 ⟨fun D W ⟨lv,h⟩ b hb=>(RgG.supp t5 t to n E k _ _ lv).lt D W h b hb,fun D W W' ⟨lv,h⟩ hz hb=>⟨lv,(RgG.supp t5 t to n E k _ _ lv).st D W W' h hz hb⟩⟩
def RgJ(t5 t:Nat)(to:ByteArray)(n:Nat)(E:List Pair)(c:Code)(k1:Nat)(D:BSet)(W:World):Prop:=
 (c=.exit 0∧∃ k lv,RgG t5 t to n E k (.slice none 0 0) false lv D W∧k < E.length∧∀ q,E[k]?=some q→jbs to q.1=true) ∨
 (c=.ret∧∃ lv q,RgG t5 t to n E n lv true lv D W∧E[n]?=some q∧jbs to q.1=false)
theorem RgJ.supp(t5 t:Nat)(to:ByteArray)(n:Nat)(E:List Pair)(c:Code)(k1:Nat):Supp (RgJ t5 t to n E c k1):=by
 refine⟨fun D W h b hb=>?_,fun D W W' h hz hb=>?_⟩
 ·rcases h with⟨_,k,lv,h,_⟩ |⟨_,lv,q,h,_⟩
  ·exact (RgG.supp t5 t to n E k _ _ lv).lt D W h b hb
  ·exact (RgG.supp t5 t to n E n _ _ lv).lt D W h b hb
 ·rcases h with⟨h1,k,lv,h,h2⟩ |⟨h1,lv,q,h,h2⟩
  ·exact .inl ⟨h1,k,lv,(RgG.supp t5 t to n E k _ _ lv).st D W W' h hz hb,h2⟩
  ·exact .inr ⟨h1,lv,q,(RgG.supp t5 t to n E n _ _ lv).st D W W' h hz hb,h2⟩
theorem jjz{P:Program}{fn:Func}{t u x:Tmp}{ty ty2 ty3:TypeId}(h:fn.results=#[.cell t ty,.cell u ty2,.cell x ty3]){tmps:Array Value}{a b c:Addr}(ha:tmps.getD t undef=.pointer (some a))(hb:tmps.getD u undef=.pointer (some b))(hc:tmps.getD x undef=.pointer (some c)){w:World}{v1 v2 v3:Value}
  (l1:(loadVar ty a).run P w=.ok v1 w) (l2:(loadVar ty2 b).run P w=.ok v2 w) (l3:(loadVar ty3 c).run P w=.ok v3 w):(results fn tmps).run P w=.ok (.tuple #[v1,v2,v3]) w:=by
 have ha':tmps[t]?.getD undef=.pointer (some a):=by simpa using ha
 have hb':tmps[u]?.getD undef=.pointer (some b):=by simpa using hb
 have hc':tmps[x]?.getD undef=.pointer (some c):=by simpa using hc
 simp[results,h,ha',hb',hc',asAddr,Sem.run_bind,Result.andThen,l1,l2,l3]
theorem jfN{P:Program}{W:World}{p:Addr}{v:Value}{t:TypeId}{d:TypeDesc}(hu:P.underlying t=some d)(hd:(match d with | .struct _ | .array _ _=>true | _=>false)=false)(h:W.cell? p=some v):(loadVar t p).run P W=.ok v W:=by
 have:=jab hu hd h
 simpa [Instr.loadAt,Instr.sureAddr,Sem.run_bind,Result.andThen]using this
theorem jnc{t:Nat}{w1:World}{x2 x3 x4:Value}(y2 y3 y4:Value)(h2:Blk w1 (t+2) (.cells #[x2] 22))(h3:Blk w1 (t+3) (.cells #[x3] 4))(h4:Blk w1 (t+4) (.cells #[x4] 27)) :
  Blk (((w1.setCell ⟨t+1+1,0,none⟩ y2).setCell ⟨t+1+1+1,0,none⟩ y3).setCell ⟨t+1+1+1+1,0,none⟩ y4) (t+2) (.cells #[y2] 22) ∧
  Blk (((w1.setCell ⟨t+1+1,0,none⟩ y2).setCell ⟨t+1+1+1,0,none⟩ y3).setCell ⟨t+1+1+1+1,0,none⟩ y4) (t+3) (.cells #[y3] 4) ∧
  Blk (((w1.setCell ⟨t+1+1,0,none⟩ y2).setCell ⟨t+1+1+1,0,none⟩ y3).setCell ⟨t+1+1+1+1,0,none⟩ y4) (t+4) (.cells #[y4] 27) ∧
  jac (fun b=>b=t+2∨b=t+3∨b=t+4) w1 (((w1.setCell ⟨t+1+1,0,none⟩ y2).setCell ⟨t+1+1+1,0,none⟩ y3).setCell ⟨t+1+1+1+1,0,none⟩ y4):=by
 have k2:=jac.oneSet w1 ⟨t+1+1,0,none⟩ y2;have k3:=jac.oneSet (w1.setCell ⟨t+1+1,0,none⟩ y2) ⟨t+1+1+1,0,none⟩ y3;have k4:=jac.oneSet ((w1.setCell ⟨t+1+1,0,none⟩ y2).setCell ⟨t+1+1+1,0,none⟩ y3) ⟨t+1+1+1+1,0,none⟩ y4
 refine⟨?_,?_,?_,((k2.mono (fun b _ e=>.inl e)).trans' k3 (fun b _ e=>.inr (.inl e))).trans' k4 (fun b _ e=>.inr (.inr e))⟩
 ·exact ((h2.set_same (i:=0) y2).set_other (p:=⟨t+1+1+1,0,none⟩) (by show t+2≠t+3;omega) _).set_other (p:=⟨t+1+1+1+1,0,none⟩) (by show t+2≠t+4;omega) _
 ·exact ((h3.set_other (p:=⟨t+1+1,0,none⟩) (by show t+3≠t+2;omega) _).set_same (i:=0) y3).set_other (p:=⟨t+1+1+1+1,0,none⟩) (by show t+3≠t+4;omega) _
 ·exact ((h4.set_other (p:=⟨t+1+1,0,none⟩) (by show t+4≠t+2;omega) _).set_other (p:=⟨t+1+1+1,0,none⟩) (by show t+4≠t+3;omega) _).set_same (i:=0) y4
theorem jl1{t:Nat}{W:World}{y2 y3 y4:Value}(h2:Blk W (t+2) (.cells #[y2] 22))(h3:Blk W (t+3) (.cells #[y3] 4))(h4:Blk W (t+4) (.cells #[y4] 27)){tmps:Array Value}
  (ha:tmps.getD 10 undef=.pointer (some ⟨t+2,0,none⟩)) (hb:tmps.getD 11 undef=.pointer (some ⟨t+3,0,none⟩)) (hc:tmps.getD 12 undef=.pointer (some ⟨t+4,0,none⟩)):(results Tryz.f48 tmps).run Tryz.prog W=.ok (.tuple #[y2,y3,y4]) W:=
 jjz rfl ha hb hc (jfN Tryz.uEnts rfl (h2.cell (i:=0) (by rfl))) (jfN Tryz.underlying4 rfl (h3.cell (i:=0) (by rfl))) (jfN Tryz.underlying27 rfl (h4.cell (i:=0) (by rfl)))
theorem jq3{W W9 X:World}{d n k:Nat}{to:ByteArray}{E:List Pair}{lv:Value}{more:Bool}{tmps:Array Value}(hd:Blk W9 d (.deferred (some [])))(hdz:W.heap.size+5≤d)(h1n:1≤n)(hn8:n≤8)(hX:Ext W W9)(hK:jac (fun b=>b=W.heap.size+2∨b=W.heap.size+3∨b=W.heap.size+4) W9 X)
  (g2:Blk X (W.heap.size+2) (.cells #[lv] 22)) (g3:Blk X (W.heap.size+3) (.cells #[.bool more] 4)) (g4:Blk X (W.heap.size+4) (.cells #[.int .i64 0] 27))
  (hr:W9.ownsRow 0 72 2 lv k (jdJ (E.take k))) (hf:∀ b,lv.ownBlock=some b→W.heap.size+5≤b∧b≠d) (hk:k≤E.length) (hu:(jg0 to E).take n=E.take k) (hm:more=decide (n < (jg0 to E).length))
  (ha:tmps.getD 10 undef=.pointer (some ⟨W.heap.size+2,0,none⟩)) (hb:tmps.getD 11 undef=.pointer (some ⟨W.heap.size+3,0,none⟩)) (hc:tmps.getD 12 undef=.pointer (some ⟨W.heap.size+4,0,none⟩)) :
  bodyPostM Fence.wide 0 Tryz.prog Tryz.f48 (jtt E to (n:Int) W) Exit.ret { tmps:=tmps,defers:=[{ target:=Target.collected d,args:=#[] }] } X:=by
 have hd2:Blk X d (.deferred (some [])):=hd.keeps hK (by omega)
 refine⟨by simp,.inl ⟨_,_,rfl,run_takeDeferred hd2,?_⟩⟩
 have kp:=jac.onePut X d (.deferred none);have kx:jac (fun b=>b=W.heap.size+2∨b=W.heap.size+3∨b=W.heap.size+4∨b=d) W9 (X.putObj d (.deferred none)):=(hK.mono (fun b _ e=>by rcases e with e | e | e;exact .inl e;exact .inr (.inl e);exact .inr (.inr (.inl e)))).trans' kp (fun b _ e=>.inr (.inr (.inr e)))
 refine⟨_,jl1 (g2.put_other (by omega) _) (g3.put_other (by omega) _) (g4.put_other (by omega) _) ha hb hc,hX.trans' kx (fun b hb e=>by omega),?_⟩
 rw[if_pos (by omega),Int.toNat_natCast]
 refine⟨lv,by rw[hm],?_⟩
 rw[hu];have hl:(E.take k).length=k:=by rw[List.length_take];omega
 exact⟨by rw[hl];exact jaG hr kx (fun b hb e=>by have:=hf b hb;omega),fun b hb=>by have:=hf b hb;omega⟩
theorem ju4(W:World)(s bm:Nat)(room:Int)(S:List Nd5)(fr to:ByteArray)(l:List Pair)(limit:Int)(hf:fr.size≤100000)(hM:HasM S l)(hs:jas W s bm room S) :
  Calls Tryz.prog 48 #[.pointer (some ⟨s,0,none⟩),.string (shaB (jaT l).text),.string fr,.string to,.int .i64 limit] W (jtt (jgE fr l) to limit W):=by
 have HSK:=Hd (fun w (e:Ext W w)=>jh1 w s bm room S fr l hf hM (hs.ext e));have HS:=Hd hs;have hl40:=(jaM hM.ok).len
 obtain⟨k,hk⟩:∃ k,k=shaB (jaT l).text:=⟨_,rfl⟩
 rw[←hk]at HSK ⊢
 obtain⟨E,hE⟩:∃ E,E=jgE fr l:=⟨_,rfl⟩
 have HE:=Hd hE;have hEl:E.length≤40:=by
  rw[hE];unfold jgE;exact Nat.le_trans (List.length_filter_le _ _) hl40
 have HRS:=Hd (show E.Pairwise (fun p q=>Lt p.l q.l) by rw[hE];exact (jaM hM.ok).rise.filter _);rw[←hE];have hps:=jb9 fr;clear hM hs hk hE hl40;rw[←callsIn_wide (n:=0)];refine callsIn_of_wp_marks Tryz.func48 rfl trivial ?_ rfl;simp only[Tryz.ntmps48,List.size_toArray,List.length_cons,List.length_nil,Nat.reduceAdd,Nat.reduceSub,Array.replicate_succ,Array.replicate_zero,List.push_toArray,List.append_toArray,List.nil_append,List.cons_append];gi_wp2_with fail
 have hA:=RgA.new W to limit;have hX0:Ext W (((((W.alloc (.cells #[.string to] 9)).alloc (.cells #[.int .i64 limit] 3)).alloc (.cells #[.slice none 0 0] 22)).alloc (.cells #[.bool false] 4)).alloc (.cells #[.int .i64 0] 27)):=((((((ExtR W).alloc _).alloc _).alloc _).alloc _)).alloc _
 refine⟨trivial,rfl,CallsIn.mono (callsIn_wide.2 (HSK.o _ hX0)) ?_⟩
 rintro e w1 ⟨c,v,rfl,hc,hv,hX,hC⟩;rw[jeh, ←HE.o]at hC;have hsz0:W.heap.size+5≤c:=by simpa using hc
 have hv0:∀ b,v.ownBlock=some b→W.heap.size+5≤b:=fun b hb=>by simpa using hv b hb
 have HCC:=Hd (And.intro hsz0 hv0);have HX:=Hd (hX0.trans hX);have HC:=Hd hC;have HA:=Hd (hA.keeps hX (fun _ _ _ h=>h));have p1:w1.cell? ⟨W.heap.size+1,0,none⟩=some (.int .i64 limit):=HA.o.b1.cell (i:=0) (by rfl);have p2:w1.cell? ⟨W.heap.size+1+1,0,none⟩=some (.slice none 0 0):=HA.o.b2.cell (i:=0) (by rfl);have p3:w1.cell? ⟨W.heap.size+1+1+1,0,none⟩=some (.bool false):=HA.o.b3.cell (i:=0) (by rfl);have p4:w1.cell? ⟨W.heap.size+1+1+1+1,0,none⟩=some (.int .i64 0):=HA.o.b4.cell (i:=0) (by rfl);have f2:w1.frozen? ⟨W.heap.size+1+1,0,none⟩=false:=HA.o.b2.frozen;have f3:w1.frozen? ⟨W.heap.size+1+1+1,0,none⟩=false:=HA.o.b3.frozen;have f4:w1.frozen? ⟨W.heap.size+1+1+1+1,0,none⟩=false:=HA.o.b4.frozen;clear hA hX0 hc hv hX hC hsz0 hv0
 by_cases h1:limit < 1
 ·gi_wp2_with fail
  obtain⟨g2,g3,g4,gk⟩:=jnc (.slice none 0 0) (.bool false) (.int .i64 1) HA.o.b2 HA.o.b3 HA.o.b4
  refine⟨_,jl1 g2 g3 g4 rfl rfl rfl,HX.o.trans' gk (fun b hb e=>by omega),?_⟩
  rw[if_neg (by omega)]
 ·by_cases h2:8 < limit
  ·gi_wp2_with fail
   obtain⟨g2,g3,g4,gk⟩:=jnc (.slice none 0 0) (.bool false) (.int .i64 1) HA.o.b2 HA.o.b3 HA.o.b4
   refine⟨_,jl1 g2 g3 g4 rfl rfl rfl,HX.o.trans' gk (fun b hb e=>by omega),?_⟩
   rw[if_neg (by omega)]
  ·obtain⟨n,rfl⟩:∃ n:Nat,limit=(n:Int):=⟨limit.toNat,by omega⟩
   have HN:=Hd (show 1≤n∧n≤8 by omega);gi_wp2_with fail
   clear p1 p2 p3 p4 f2 f3 f4
   obtain⟨w2,hw2⟩:∃ w2,w2=w1.alloc (.cells #[.slice none 0 0] 22):=⟨_,rfl⟩
   have hX2:Ext w1 w2:=by rw[hw2];exact (ExtR w1).alloc _
   have hB2:Blk w2 w1.heap.size (.cells #[.slice none 0 0] 22):=by rw[hw2];exact Blk.new w1 _
   have hz2:w2.heap.size=w1.heap.size+1:=by rw[hw2];simp
   rw[←hw2];have hcl:=HC.o.lt;have hz1:W.heap.size+5≤w1.heap.size:=by have:=HA.o.b4.lt;omega
   have hS0:EaS W S c s (jbc fr) E v (fun b=>b < W.heap.size∨b=c∨v.ownBlock=some b) w2:=
    ⟨fun b=>Iff.rfl,by omega,fun b hb=>(hX2.block b (by omega) (fun h=>h)).trans (HX.o.block b hb (fun h=>h)),HC.o.ext hX2⟩
   have hA2:=HA.o.keeps hX2 (fun _ _ _ h=>h);have hC0:RgC w1.heap.size W.heap.size to n E 0 (fun b=>(W.heap.size≤b∧b≤W.heap.size+4)∨b=w1.heap.size) w2:=
    ⟨.slice none 0 0,⟨fun b=>⟨fun h=>h.elim .inl (fun h=>.inr (.inl h)),fun h=>by
     rcases h with h | h | h
     ·exact .inl h
     ·exact .inr h
     ·cases h⟩,hA2.b0,hA2.b1,hA2.b2,hA2.b3,hA2.b4,hB2,World.ownsRow_nil _ _ _ _,fun b hb=>(by cases hb),Nat.zero_le _,fun q hq=>(by simp at hq)⟩⟩
   have HX2:=Hd (HX.o.trans hX2);have HZ:=Hd (And.intro hz2 hz1);clear hw2 hX2 hz2 hB2 hA2 hz1;refine jlh (N:=E.length) (gf:=100) (pre:=#[.pointer (some ⟨c,0,none⟩)]) (lb:=#[]) rfl Tryz.enterEachCur
    (jmm W c s bm room S HS.o (jbc fr) E v (by omega) (by omega) (by have:=HCC.o.1;omega) (fun b hb=>by have:=HCC.o.2 b hb;omega))
    (EaS.supp W S c s (jbc fr) E v) (fun k=>rfl) (RgC w1.heap.size W.heap.size to n E) (RgJ w1.heap.size W.heap.size to n E) (RgC.supp w1.heap.size W.heap.size to n E) (RgJ.supp w1.heap.size W.heap.size to n E)
    (fun b=>(W.heap.size≤b∧b≤W.heap.size+4)∨b=w1.heap.size) (fun b=>b < W.heap.size∨b=c∨v.ownBlock=some b) hC0 hS0
    (fun b hb ho=>by
     have hc1:=HCC.o.1;have hc2:=HCC.o.2;rcases ho with h | h | h
     ·rcases hb with hb | hb
      ·omega
      ·have:=HZ.o.2;omega
     ·rcases hb with hb | hb <;> omega
     ·have h9:=hc2 _ h
      have:=hcl.2 _ h
      rcases hb with hb | hb <;> omega)
    (fun j=>{ tmps:=#[.pointer (some ⟨s,0,none⟩),.string k,.string fr,.string to,.int .i64 (n:Int),undef,undef,undef,.pointer (some ⟨W.heap.size,0,none⟩),
     .pointer (some ⟨W.heap.size+1,0,none⟩),.pointer (some ⟨W.heap.size+1+1,0,none⟩),.pointer (some ⟨W.heap.size+1+1+1,0,none⟩),.pointer (some ⟨W.heap.size+1+1+1+1,0,none⟩),
     .pointer (some ⟨c,0,none⟩),.int .i64 0,.pointer (some ⟨w1.heap.size,0,none⟩),.string (atE E j).1,.string (atE E j).2,
     .tuple #[.pointer (some ⟨c,0,none⟩),.int .i64 0],.pointer (some ⟨s,0,none⟩),.string k,.string fr,.tuple #[.pointer (some ⟨c,0,none⟩),.int .i64 0],
     .pointer (some ⟨c,0,none⟩),.int .i64 0,.int .i64 0,.bool false,undef,.int .i64 (n:Int),.bool (decide ((n:Int) < 1)),.bool (decide ((n:Int) < 1)),.int .i64 (n:Int),.bool (decide (8 < (n:Int))),
     .bool (decide ((n:Int) < 1) || decide (8 < (n:Int))),.pointer (some ⟨c,0,none⟩),.func (.func 100) #[.pointer (some ⟨c,0,none⟩)] #[],.string (atE E j).1,.string (atE E j).2,
     undef,undef,undef,undef,undef,undef,undef,undef,undef,undef,undef,undef,undef,undef,undef],defers:=[] }) ?hassign ?hbody ?hdone ?hstop EaE.supp
   case hassign =>
    intro y j W9 K hK;unfold eaV;rw[jlD];gi_wp2;exact hK
   case hbody =>
    intro y j D W9 hj hc hkp
    obtain⟨lv,hG⟩:=hc
    obtain⟨q,hq⟩:∃ q,E[j]?=some q:=⟨_,List.getElem?_eq_getElem hj⟩
    have hat:atE E j=q:=by unfold atE;rw[List.getD_eq_getElem?_getD,hq];rfl
    rw[hat]
    obtain⟨kx,vx⟩:=q
    obtain⟨ad,cp,hsl⟩:=jay hG.row
    subst hsl;have HG:=Hd hG;have HQ:=Hd hq;have p0:=hG.b0.cell (i:=0) (v:=.string to) (by rfl);have p5:=hG.b5.cell (i:=0) (v:=.slice ad j cp) (by rfl);have p1:W9.cell? ⟨W.heap.size+1,0,none⟩=some (.int .i64 (n:Int)):=hG.b1.cell (i:=0) (by rfl);have p2:W9.cell? ⟨W.heap.size+1+1,0,none⟩=some (.slice none 0 0):=hG.b2.cell (i:=0) (by rfl);have p3:W9.cell? ⟨W.heap.size+1+1+1,0,none⟩=some (.bool false):=hG.b3.cell (i:=0) (by rfl);have p4:W9.cell? ⟨W.heap.size+1+1+1+1,0,none⟩=some (.int .i64 0):=hG.b4.cell (i:=0) (by rfl);have f2:W9.frozen? ⟨W.heap.size+1+1,0,none⟩=false:=hG.b2.frozen;have f3:W9.frozen? ⟨W.heap.size+1+1+1,0,none⟩=false:=hG.b3.frozen;have f4:W9.frozen? ⟨W.heap.size+1+1+1+1,0,none⟩=false:=hG.b4.frozen;clear hG hq hat hkp hC0 hS0;have hcmp:=cmp3 kx to
    by_cases hgt:jbs to kx=true
    ·have HGT:=Hd hgt
     obtain⟨e1,e2⟩:=hcmp.1 hgt
     clear hcmp hgt;gi_wp2_with fail
     refine⟨D,jac.refl _ _,fun b hb=>.inl hb,.inl ⟨rfl,j,_,HG.o,hj,fun q hq=>?_⟩⟩
     rw[HQ.o]at hq;obtain rfl:=Option.some.inj hq;exact HGT.o
    ·have HGT:=Hd (show jbs to kx=false by rw[Bool.eq_false_iff];exact hgt)
     obtain⟨b1,b2,e1,e2,e3⟩:=hcmp.2 HGT.o
     clear hcmp hgt
     by_cases hjn:j=n
     ·have hjn2:((j:Int) ==(n:Int))=true:=by simp;omega
      have HJN:=Hd hjn;clear hjn;gi_wp2_with fail
      have k2:=jac.oneSet W9 ⟨W.heap.size+1+1,0,none⟩ (.slice ad j cp);have k3:=jac.oneSet (W9.setCell ⟨W.heap.size+1+1,0,none⟩ (.slice ad j cp)) ⟨W.heap.size+1+1+1,0,none⟩ (.bool true);have k4:=jac.oneSet ((W9.setCell ⟨W.heap.size+1+1,0,none⟩ (.slice ad j cp)).setCell ⟨W.heap.size+1+1+1,0,none⟩ (.bool true)) ⟨W.heap.size+1+1+1+1,0,none⟩ (.int .i64 0);have kall:jac (fun b=>b=W.heap.size+2∨b=W.heap.size+3∨b=W.heap.size+4) W9 _:=((k2.mono (fun b _ e=>.inl e)).trans' k3 (fun b _ e=>.inr (.inl e))).trans' k4 (fun b _ e=>.inr (.inr e));have hz:=HZ.o.2;have hfar:=HG.o.far
      refine⟨D,kall.mono (fun b _ e=>(HG.o.is b).2 (.inl (by omega))),fun b hb=>.inl hb,.inr ⟨rfl,.slice ad j cp,(kx,vx),⟨HG.o.is,HG.o.b0.keeps kall (by omega),HG.o.b1.keeps kall (by omega),?_,?_,?_,HG.o.b5.keeps kall (by omega),jaG ?_ kall (fun b hb e=>by have:=hfar b hb;omega),hfar,Nat.le_refl _,?_⟩,by rw[←HJN.o];exact HQ.o,HGT.o⟩⟩
      ·exact ((HG.o.b2.set_same (i:=0) (.slice ad j cp)).set_other (p:=⟨W.heap.size+1+1+1,0,none⟩) (by show W.heap.size+2≠W.heap.size+3;omega) _).set_other (p:=⟨W.heap.size+1+1+1+1,0,none⟩) (by show W.heap.size+2≠W.heap.size+4;omega) _
      ·exact ((HG.o.b3.set_other (p:=⟨W.heap.size+1+1,0,none⟩) (by show W.heap.size+3≠W.heap.size+2;omega) _).set_same (i:=0) (.bool true)).set_other (p:=⟨W.heap.size+1+1+1+1,0,none⟩) (by show W.heap.size+3≠W.heap.size+4;omega) _
      ·exact ((HG.o.b4.set_other (p:=⟨W.heap.size+1+1,0,none⟩) (by show W.heap.size+4≠W.heap.size+2;omega) _).set_other (p:=⟨W.heap.size+1+1+1,0,none⟩) (by show W.heap.size+4≠W.heap.size+3;omega) _).set_same (i:=0) (.int .i64 0)
      ·rw[←HJN.o];exact HG.o.row
      ·rw[←HJN.o];exact HG.o.low
     ·have hjn2:((j:Int) ==(n:Int))=false:=by simp;omega
      have hm1:j+1≤maxLen:=by unfold maxLen;omega
      have hm2:(j+1) * 32≤140737488355328:=by omega
      have HJN:=Hd hjn;clear hjn p2 p3 p4 f2 f3 f4;gi_wp2_with (gi_at_builtin;refine jlf Tryz.sEnts (ORow.any (jbd HG.o.row ((ExtR W9).alloc _))) (.tmp 46) (.tmp 50) rfl rfl rfl (ja9 (Blk.new W9 _)) (news:=[.string kx,.string vx]) (jgQ _ _) rfl rfl hm1 hm2 ?_;intro lv' w' r1 r2 r3;have hb5:=(HG.o.b5.keeps ((ExtR W9).alloc (.cells #[.string kx,.string vx] 72)) (fun h=>h)).keeps r2 (fun e=>by have:=HG.o.far _ e;omega);have p5:=hb5.cell (i:=0) (v:=.slice ad j cp) (by rfl);have f5:w'.frozen? ⟨w1.heap.size,0,none⟩=false:=hb5.frozen;have HRR:=Hd (And.intro r1 (And.intro r2 (And.intro r3 hb5)));obtain⟨ad',cp',hv'⟩:=r1.sl;subst hv';clear r1 r2 r3 hb5)
      obtain⟨r1,r2,r3,hb5⟩:=HRR.o
      have hx9:Ext W9 (W9.alloc (.cells #[.string kx,.string vx] 72)):=(ExtR W9).alloc _;have k5:=jac.oneSet w' ⟨w1.heap.size,0,none⟩ (.slice ad' (j+1) cp');have kall:jac (fun b=>b=w1.heap.size∨(Value.slice ad j cp).ownBlock=some b) W9 (w'.setCell ⟨w1.heap.size,0,none⟩ (.slice ad' (j+1) cp')):=((hx9.mono (fun b _ e=>e.elim)).trans' r2 (fun b _ e=>.inr e)).trans' k5 (fun b _ e=>.inl e);have hz:=HZ.o.2;have hfar:=HG.o.far;have hkk:∀ i,i≤4→¬(W.heap.size+i=w1.heap.size∨(Value.slice ad j cp).ownBlock=some (W.heap.size+i)):=fun i hi e=>by
       rcases e with e | e
       ·omega
       ·have:=hfar _ e;omega
      have h9:=HG.o.b5.lt;have hfar2:∀ b,(Value.slice ad' (j+1) cp').ownBlock=some b→w1.heap.size < b:=fun b hb=>by
       rcases r3 with h | h
       ·exact hfar b (h ▸ hb)
       ·have:=h b hb;have:=hx9.size;omega
      refine⟨fun b=>(W.heap.size≤b∧b≤W.heap.size+4)∨b=w1.heap.size∨(Value.slice ad' (j+1) cp').ownBlock=some b,kall.mono (fun b _ e=>(HG.o.is b).2 (.inr e)),fun b hb=>?_,.slice ad' (j+1) cp',⟨fun b=>Iff.rfl,HG.o.b0.keeps kall (hkk 0 (by omega)),HG.o.b1.keeps kall (hkk 1 (by omega)),HG.o.b2.keeps kall (hkk 2 (by omega)),HG.o.b3.keeps kall (hkk 3 (by omega)),HG.o.b4.keeps kall (hkk 4 (by omega)),hb5.set_same (i:=0) _,jaG ?_ k5 (fun b hb e=>by have:=hfar2 b hb;have e:b=w1.heap.size:=e;omega),hfar2,?_,?_⟩⟩
      ·rcases hb with hb | hb | hb
       ·exact .inl ((HG.o.is b).2 (.inl hb))
       ·exact .inl ((HG.o.is b).2 (.inr (.inl hb)))
       ·rcases r3 with h | h
        ·exact .inl ((HG.o.is b).2 (.inr (.inr (h ▸ hb))))
        ·have:=h b hb;have:=hx9.size;exact .inr (by omega)
      ·have htk:E.take (j+1)=E.take j++[(kx,vx)]:=by rw[List.take_add_one,HQ.o];rfl
       rw[htk,jbN];exact r1.own
      ·have:=HG.o.le;have:=HJN.o;omega
      ·have htk:E.take (j+1)=E.take j++[(kx,vx)]:=by rw[List.take_add_one,HQ.o];rfl
       rw[htk];intro q hq;rcases List.mem_append.1 hq with hq | hq
       ·exact HG.o.low q hq
       ·rw[List.mem_singleton]at hq;subst hq;exact HGT.o
   case hdone =>
    intro D O W9 hkp hc hse hdis hDn hOn hbd h1 h2
    obtain⟨lv,hG⟩:=hc
    have HG:=Hd hG;have HBD:=Hd hbd;have hKX:Ext W W9:=HX2.o.trans' hkp (fun b hb e=>by
     have:=HZ.o.2
     have hc1:=HCC.o.1;rcases e with (e | e) | e | e
     ·omega
     ·omega
     ·omega
     ·have:=HCC.o.2 b e;omega)
    have HKX:=Hd hKX;have HDN:=Hd h1
    obtain⟨ad,cp,hsl⟩:=jay hG.row
    subst hsl;have p5:=hG.b5.cell (i:=0) (v:=.slice ad E.length cp) (by rfl);have p2:W9.cell? ⟨W.heap.size+1+1,0,none⟩=some (.slice none 0 0):=hG.b2.cell (i:=0) (by rfl);have p3:W9.cell? ⟨W.heap.size+1+1+1,0,none⟩=some (.bool false):=hG.b3.cell (i:=0) (by rfl);have p4:W9.cell? ⟨W.heap.size+1+1+1+1,0,none⟩=some (.int .i64 0):=hG.b4.cell (i:=0) (by rfl);have f2:W9.frozen? ⟨W.heap.size+1+1,0,none⟩=false:=hG.b2.frozen;have f3:W9.frozen? ⟨W.heap.size+1+1+1,0,none⟩=false:=hG.b3.frozen;have f4:W9.frozen? ⟨W.heap.size+1+1+1+1,0,none⟩=false:=hG.b4.frozen;clear hG hkp hse hdis hDn hOn hbd h1 h2 hC0 hS0 hKX;gi_wp2_with fail
    obtain⟨g2,g3,g4,gk⟩:=jnc (.slice ad E.length cp) (.bool false) (.int .i64 0) HG.o.b2 HG.o.b3 HG.o.b4
    have hup:jg0 to E=E.take E.length:=jiQ HRS.o HG.o.low (fun q hq=>by rw[List.getElem?_eq_none (Nat.le_refl _)]at hq;cases hq);have hle:=HG.o.le;have hz:=HZ.o;refine jq3 HBD.o (by omega) HN.o.1 HN.o.2 HKX.o gk g2 g3 g4 HG.o.row (fun b hb=>⟨by have:=HG.o.far b hb;omega,fun e=>HDN.o ((HG.o.is _).2 (.inr (.inr (by rw[←e];exact hb))))⟩) (Nat.le_refl _) ?_ ?_ rfl rfl rfl
    ·rw[hup,List.take_take,Nat.min_eq_right hle]
    ·rw[hup,List.length_take,Nat.min_self];simp;omega
   case hstop =>
    intro cd k9 D O W9 hk1 hk2 hkp hj hse hdis hDn hOn hbd h1 h2;have HBD:=Hd hbd;have hKX:Ext W W9:=HX2.o.trans' hkp (fun b hb e=>by
     have:=HZ.o.2
     have hc1:=HCC.o.1;rcases e with (e | e) | e | e
     ·omega
     ·omega
     ·omega
     ·have:=HCC.o.2 b e;omega)
    have HKX:=Hd hKX;have HDN:=Hd h1;clear hkp hse hdis hDn hOn hbd hC0 hS0 hKX;rcases hj with⟨rfl,k,lv,hG,hke,hstop⟩ |⟨rfl,lv,q,hG,hq,hlow⟩
    ·have HG:=Hd hG
     have HSTP:=Hd (And.intro hke hstop)
     obtain⟨ad,cp,hsl⟩:=jay hG.row
     subst hsl;have p5:=hG.b5.cell (i:=0) (v:=.slice ad k cp) (by rfl);have p2:W9.cell? ⟨W.heap.size+1+1,0,none⟩=some (.slice none 0 0):=hG.b2.cell (i:=0) (by rfl);have p3:W9.cell? ⟨W.heap.size+1+1+1,0,none⟩=some (.bool false):=hG.b3.cell (i:=0) (by rfl);have p4:W9.cell? ⟨W.heap.size+1+1+1+1,0,none⟩=some (.int .i64 0):=hG.b4.cell (i:=0) (by rfl);have f2:W9.frozen? ⟨W.heap.size+1+1,0,none⟩=false:=hG.b2.frozen;have f3:W9.frozen? ⟨W.heap.size+1+1+1,0,none⟩=false:=hG.b3.frozen;have f4:W9.frozen? ⟨W.heap.size+1+1+1+1,0,none⟩=false:=hG.b4.frozen;clear hG hke hstop h1 h2;gi_wp2_with fail
     obtain⟨g2,g3,g4,gk⟩:=jnc (.slice ad k cp) (.bool false) (.int .i64 0) HG.o.b2 HG.o.b3 HG.o.b4
     have hup:jg0 to E=E.take k:=jiQ HRS.o HG.o.low HSTP.o.2;have hle:=HG.o.le;have hz:=HZ.o;have hkl:=HSTP.o.1;refine jq3 HBD.o (by omega) HN.o.1 HN.o.2 HKX.o gk g2 g3 g4 HG.o.row (fun b hb=>⟨by have:=HG.o.far b hb;omega,fun e=>HDN.o ((HG.o.is _).2 (.inr (.inr (by rw[←e];exact hb))))⟩) (by omega) ?_ ?_ rfl rfl rfl
     ·rw[hup,List.take_take,Nat.min_eq_right hle]
     ·rw[hup,List.length_take];simp;omega
    ·gi_wp2
     obtain⟨u1,u2⟩:=joA hG.low hq hlow
     have hz:=HZ.o;have hnl:=(List.getElem?_eq_some_iff.1 hq).1;exact jq3 HBD.o (by omega) HN.o.1 HN.o.2 HKX.o (jac.refl _ _) hG.b2 hG.b3 hG.b4 hG.row (fun b hb=>⟨by have:=hG.far b hb;omega,fun e=>HDN.o ((hG.is _).2 (.inr (.inr (by rw[←e];exact hb))))⟩) (by omega) u1 (by rw[decide_eq_true u2]) rfl rfl rfl
end
end Go.Proofs.YtpaacnhboilkkaaGreatDoor
