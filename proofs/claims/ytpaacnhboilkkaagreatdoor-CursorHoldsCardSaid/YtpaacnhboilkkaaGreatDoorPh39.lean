/- Parts of the proof, one behind the other: CurD, CurE. Each is under no condition but those that it states. -/
import Derived.Test.YtpaacnhboilkkaaGreatDoorPh38
import Derived.Test.YtpaacnhboilkkaaGreatDoorPh23
namespace Go.Proofs.YtpaacnhboilkkaaGreatDoor
set_option linter.unusedSimpArgs false
set_option linter.unusedVariables false
set_option maxRecDepth 100000
set_option maxHeartbeats 16000000
section
open Go Go.RowKit
attribute [local go_sem] Oper.semAt_some
theorem jrZ(W:World)(c s:Nat)(fr:ByteArray)(v:Value)(ps:List Pl5)(t:Pl5)(lk:Int)(h:jbp W c s fr v (ps++[t]) lk)(hps:ps.length≤100000) :
  Calls Tryz.prog 98 #[.pointer (some ⟨c,0,none⟩)] W (jdx c s fr W v ps lk):=by
 obtain⟨g,cap,hv,hcap,_⟩:=h.last
 obtain⟨m,hm⟩:∃ m,m=ps.length:=⟨_,rfl⟩
 rw[←hm]at hv hcap hps;subst hv;have q2:=h.cur.cell (i:=2) (v:=.slice (some ⟨g,0,none⟩) (m+1) cap) (by rfl);have H:=Hd h;have HM:=Hd hm;have Q2:=Hd q2;have i1:((m+1:Nat):Int) - 1=(m:Int):=by omega
 have i3:(m:Int)≤((m+1:Nat):Int):=by omega
 have i4:(m:Int).toNat=m:=by omega
 have i5:(m:Int)≤(cap:Int):=by omega
 have i6:(m:Int)≤100000:=by omega
 have i7:(0:Int)≤(m:Int):=by omega
 have i8:wrap64 ((m:Int))=(m:Int):=by unfold wrap64;omega
 clear h hm;go_enter Tryz.func98,Tryz.ntmps98;go_wp2_with fail
 refine jar [0,1,2,3,4,5,6,7,8,9,10,11,12,13,14] [14] Ext ExtR ExtT (by kernel_rfl) (by kernel_rfl) (by kernel_rfl) ?_;iterate 2 (refine jah _ rfl (by kernel_rfl) rfl rfl (fun K hK=>?_);go_big_quiet_op;refine hK _ ?_;clear hK K)
 refine jbw _ (.pointer (some ⟨c,0,none⟩)) rfl (by kernel_rfl) rfl (fun w1=>by kernel_rfl) ?_;simp only[Act.put,sA,sB,sC]
 (refine jah _ rfl (by kernel_rfl) rfl rfl (fun K hK=>?_);go_big_quiet_op;refine hK _ ?_;clear hK K)
 refine jaB ⟨c,2,none⟩ _ rfl (by kernel_rfl) rfl rfl (fun w1 h1=>jab Tryz.uPls rfl (jaa Q2.o ((jak _).trans h1))) ?_;simp only[Act.put,sA,sB,sC]
 (refine jah _ rfl (by kernel_rfl) rfl rfl (fun K hK=>?_);go_big_quiet_op;refine hK _ ?_;clear hK K)
 refine jbw _ (.pointer (some ⟨c,0,none⟩)) rfl (by kernel_rfl) rfl (fun w1=>by kernel_rfl) ?_;simp only[Act.put,sA,sB,sC]
 (refine jah _ rfl (by kernel_rfl) rfl rfl (fun K hK=>?_);go_big_quiet_op;refine hK _ ?_;clear hK K)
 refine jaB ⟨c,2,none⟩ _ rfl (by kernel_rfl) rfl rfl (fun w1 h1=>jab Tryz.uPls rfl (jaa Q2.o ((jak _).trans h1))) ?_;simp only[Act.put,sA,sB,sC];iterate 3 (refine jah _ rfl (by kernel_rfl) rfl rfl (fun K hK=>?_);go_big_quiet_op;refine hK _ ?_;clear hK K)
 refine jbw _ (.pointer (some ⟨c,0,none⟩)) rfl (by kernel_rfl) rfl (fun w1=>by kernel_rfl) ?_;simp only[Act.put,sA,sB,sC]
 (refine jah _ rfl (by kernel_rfl) rfl rfl (fun K hK=>?_);go_big_quiet_op;refine hK _ ?_;clear hK K)
 refine jba _ rfl (by kernel_rfl) rfl (fun w4 he K hK=>?_);have h4:=H.o.ext ((jak _).trans he);have q1:w4.cell? ⟨c,2,none⟩=some (.slice (some ⟨g,0,none⟩) (m+1) cap):=h4.cur.cell (i:=2) (by rfl);have f1:w4.frozen? ⟨c,2,none⟩=false:=h4.cur.frozen;have HX4:=Hd (show Ext W w4 from(jak _).trans he);rw[HM.o]at h4;have hcut:=h4.cut;rw[←HM.o]at hcut;have HCUT:=Hd (jbe.ahead HX4.o hcut);clear he h4 hcut;go_simp;refine hK _ _ ?_;clear hK K q1 f1;refine jbh (by kernel_rfl) (fun w5 he=>?_);have HF:=Hd (HCUT.o.ext he);clear he;refine bodyPost_end (results_none rfl _ _ _) rfl ?_
 exact⟨rfl,_,HF.o⟩
theorem jbp.keeps{W W':World}{c s:Nat}{fr:ByteArray}{v:Value}{ps:List Pl5}{lk:Int}{F:BSet}(h:jbp W c s fr v ps lk)(k:jac F W W')(h1:¬ F c)(h2:∀ b,v.ownBlock=some b→¬ F b):jbp W' c s fr v ps lk:=⟨h.cur.keeps k h1,jaG h.row k h2,h.ne⟩
theorem jbe.other{c s:Nat}{fr:ByteArray}{W W' W'':World}{v v':Value}{ps:List Pl5}{lk:Int}{F:BSet}(h:jbe c s fr W v W' v' ps lk)(k:jac F W' W'')(hF:∀ x,F x→W.heap.size≤x∧x≠c∧v'.ownBlock≠some x):jbe c s fr W v W'' v' ps lk:=
 ⟨h.at'.keeps k (fun e=>(hF c e).2.1 rfl) (fun b hb e=>(hF b e).2.2 hb),h.kp.trans' k (fun x hx e=>by have:=(hF x e).1;omega),h.new⟩
theorem jc0{w:World}{b:Nat}{x y:ByteArray}(hB:Blk w b (.cells #[.string x,.string y] 72)):(loadVar 72 ⟨b,0,none⟩).run Tryz.prog w=.ok (.agg #[.string x,.string y]) w:=by
 have:=jcB (b:=b) (o:=0) (hB.cell (i:=0) (by rfl)) (hB.cell (i:=1) (by rfl))
 simpa [Instr.loadAt,Instr.sureAddr,Sem.run_bind,Result.andThen]using this
def jia:List Pair→Value
 | []=>.tuple #[.agg #[.string ⟨#[]⟩,.string ⟨#[]⟩],.bool false]
 | q :: _=>.tuple #[.agg #[.string (jbq q.1),.string q.2],.bool true]
def jxh(Hs:ByteArray→Prop)(c s:Nat)(fr:ByteArray)(R:List Pair)(W:World)(v:Value)(e:Ending)(w':World):Prop:=
 ∃ (v':Value) (ts:List Pl5) (N k:Nat),jbe c s fr W v w' v' ts.reverse (k:Int)∧CurI Hs c s fr R w' v' ts N k∧e=.returned (jia R) ∧
  ((R=[]∧ts=[])∨(∃ t r R',ts=t :: r∧R=(t.path,t.value) :: R'∧jcV t.path=true∧jci Hs fr r R' N))
theorem Tryz.isPl:jf9 (Tryz.prog.underlying 206)=true:=by kernel_rfl
theorem Tryz.szPl:(Tryz.prog.info? 206).map (·.size)=some 3:=by kernel_rfl
theorem Tryz.allocPl:∀ w,(Instr.alloc 206 true (.tuple #[])).run Tryz.prog w=.ok (.pointer (some ⟨w.heap.size,0,none⟩)) (w.alloc (.cells [Value.string ⟨#[]⟩,.string ⟨#[]⟩,.string ⟨#[]⟩].toArray 206)):=fun w=>by kernel_rfl
theorem juS{w:World}{b o:Nat}{x y z:ByteArray}(h1:w.cell? ⟨b,o,none⟩=some (.string x))(h2:w.cell? ⟨b,o+1,none⟩=some (.string y))(h3:w.cell? ⟨b,o+2,none⟩=some (.string z)):(Instr.loadAt 206 (.pointer (some ⟨b,o,none⟩))).run Tryz.prog w=.ok (.agg #[.string x,.string y,.string z]) w:=by
 obtain⟨fs,hu⟩:=jfs Tryz.isPl
 refine jdW (xs:=[.string x,.string y,.string z]) hu Tryz.szPl (fun j v hv=>?_);rw[Addr.add_lit]
 match j,hv with
 | 0,hv=>simp at hv;subst hv;exact h1
 | 1,hv=>simp at hv;subst hv;exact h2
 | 2,hv=>simp at hv;subst hv;exact h3
 | j+3,hv=>simp at hv
theorem jtJ(W:World)(c s bm:Nat)(room:Int)(S:List Nd5)(fr:ByteArray)(R:List Pair)(v:Value)(ts:List Pl5)(N k:Nat)(hf:fr.size≤1000000)(hI:CurI (HasS S) c s fr R W v ts N k)(hs:jas W s bm room S) :
  Calls Tryz.prog 97 #[.pointer (some ⟨c,0,none⟩)] W (jxh (HasS S) c s fr R W v):=by
 have HNE:=Hd (show W.heap.size≠c∧v.ownBlock≠some W.heap.size from⟨by have:=hI.left.cur.lt;omega,fun e=>by have:=jfy hI.left.row e;omega⟩);have HS:=Hd (fun w (e:Ext W w)=>jtd w c s bm room S fr R v ts N k hf ⟨hI.left.ext e,hI.stk,hI.look,hI.len⟩ (hs.ext e));clear hI hs;go_enter Tryz.func97,Tryz.ntmps97;go_wp2_with fail
 have hX0:Ext W (W.alloc (.cells #[.string ⟨#[]⟩,.string ⟨#[]⟩] 72)):=(ExtR W).alloc _;refine (HS.o _ hX0).mono ?_;rintro e w1 ⟨v1,ts1,N1,k1,hT,hI,hcase⟩;have hB0:Blk (W.alloc (.cells #[.string ⟨#[]⟩,.string ⟨#[]⟩] 72)) W.heap.size (.cells #[.string ⟨#[]⟩,.string ⟨#[]⟩] 72):=Blk.new W _;have hB1:=hT.blk hB0 HNE.o.1 HNE.o.2;have HB1:=Hd hB1;have HN1:=Hd (show v1.ownBlock≠some W.heap.size from fun e=>by
  rcases hT.new with h1 | h1
  ·exact HNE.o.2 (h1 ▸ e)
  ·have:=h1 _ e;simp at this;omega)
 have HT:=Hd (jbe.ahead hX0 hT);have HI:=Hd hI;clear hX0 hB0 hB1 hT hI;rcases hcase with⟨hR,hts,rfl⟩ |⟨t,r,R',hts,hR,h1,h2,h3,h4,rfl⟩
 ·subst hts
  have hnv:jia R=.tuple #[.agg #[.string ⟨#[]⟩,.string ⟨#[]⟩],.bool false]:=by rw[hR];rfl
  have HNV:=Hd hnv;have HR:=Hd hR;clear hnv hR;go_wp2_with (refine jaj (old:=[.string ⟨#[]⟩,.string ⟨#[]⟩]) (vs:=[.string ⟨#[]⟩,.string ⟨#[]⟩]) rfl rfl rfl rfl HB1.o rfl Tryz.szEntry (by intro u hu;simp at hu;rcases hu with rfl | rfl <;> rfl) ?_;intro W8 hB8 hE8)
  refine bodyPost_ret (jaF rfl rfl rfl (jc0 hB8)) rfl ?_;have hF:∀ x,x=W.heap.size→W.heap.size≤x∧x≠c∧v1.ownBlock≠some x:=fun x e=>by subst e;exact⟨Nat.le_refl _,HNE.o.1,HN1.o⟩
  have hT8:=HT.o.other hE8 hF
  exact⟨v1,[],N1,k1,hT8,⟨hT8.at',HI.o.stk,HI.o.look,HI.o.len⟩,by rw[HNV.o];rfl,.inl ⟨HR.o,rfl⟩⟩
 ·subst hts
  have hl:=HI.o.left;rw[List.reverse_cons]at hl
  obtain⟨g,cap,hv,hcap,p1,p2,p3⟩:=hl.last
  have hlen:=HI.o.len;have hlook:=HI.o.look;rw[List.length_cons]at hlen
  obtain⟨m,hm⟩:∃ m,m=r.length:=⟨_,rfl⟩
  rw[List.length_reverse, ←hm]at hv hcap p1 p2 p3;rw[←hm]at hlen
  obtain⟨tp,htp⟩:∃ x,x=t.path:=⟨_,rfl⟩
  obtain⟨tv,htv⟩:∃ x,x=t.value:=⟨_,rfl⟩
  obtain⟨tr,htr⟩:∃ x,x=t.ref:=⟨_,rfl⟩
  rw[←htp]at p1;rw[←htv]at p2;rw[←htr]at p3;subst hv;have hnv:jia R=.tuple #[.agg #[.string (jbq tp),.string tv],.bool true]:=by rw[hR,htp,htv];rfl
  have Q2:=Hd (hl.cur.cell (i:=2) (v:=.slice (some ⟨g,0,none⟩) (m+1) cap) (by rfl));have P1:=Hd p1;have P2:=Hd p2;have P3:=Hd p3;have hky:=jlL;have HNV:=Hd hnv;have HR:=Hd hR;have hk2:jcV tp=true:=by rw[htp];exact h2
  have hts:tp.size≤12:=by rw[htp];exact h3
  have HK:=Hd (And.intro h2 h4);have HKY:=Hd (show ∀ w,Calls Tryz.prog 140 #[.string tp] w fun e w'=>e=.returned (.tuple #[.string (jbq tp),.bool true])∧Ext w w' from fun w=>by
   have:=jlL w tp (by omega)
   unfold keyV at this;rw[hk2]at this;exact this)
  have i1:((m+1:Nat):Int) - 1=(m:Int):=by omega
  have i3:(m:Int) < ((m+1:Nat):Int):=by omega
  have i4:(m:Int).toNat=m:=by omega
  have i6:(m:Int)≤100000:=by omega
  have i7:(0:Int)≤(m:Int):=by omega
  have i8:wrap64 ((m:Int))=(m:Int):=by unfold wrap64;omega
  have HCC:=Hd (show c < w1.heap.size from hl.cur.lt);have HGG:=Hd (show g < w1.heap.size from World.block_lt_of_cell? w1 _ p1);clear hl hcap p1 p2 p3 hlen hlook hm htp htv htr hnv hky hR hk2 h1 h2 h3 h4;go_wp2_with fail
  refine ja1 [0,1,2,3,4,5,6,7,8,9,10,11,12,13] [12,13] Ext (jac (fun b=>w1.heap.size≤b)) ExtR ExtT (fun x y z h k=>jac.trans h k) (fun x y h=>h.mono (fun _ _ h=>h.elim)) (by kernel_rfl) (by kernel_rfl) (by kernel_rfl) ?_
  (refine jai _ rfl (by kernel_rfl) rfl rfl (fun K hK=>?_);go_big_quiet_op;refine hK _ ?_;clear hK K)
  refine jbB _ (.pointer (some ⟨c,0,none⟩)) rfl (by kernel_rfl) rfl (fun w1 _=>by kernel_rfl) ?_;simp only[Act.put,sA,sB,sC]
  (refine jai _ rfl (by kernel_rfl) rfl rfl (fun K hK=>?_);go_big_quiet_op;refine hK _ ?_;clear hK K)
  refine jaX ⟨c,2,none⟩ _ rfl (by kernel_rfl) rfl rfl (fun w2 h2=>jab Tryz.uPls rfl (jat (jaa Q2.o (jak _)) h2 (by have:=HCC.o;exact fun e=>absurd e (Nat.not_le.2 this)))) ?_;simp only[Act.put,sA,sB,sC]
  (refine jai _ rfl (by kernel_rfl) rfl rfl (fun K hK=>?_);go_big_quiet_op;refine hK _ ?_;clear hK K)
  refine jbB _ (.pointer (some ⟨c,0,none⟩)) rfl (by kernel_rfl) rfl (fun w1 _=>by kernel_rfl) ?_;simp only[Act.put,sA,sB,sC]
  (refine jai _ rfl (by kernel_rfl) rfl rfl (fun K hK=>?_);go_big_quiet_op;refine hK _ ?_;clear hK K)
  refine jaX ⟨c,2,none⟩ _ rfl (by kernel_rfl) rfl rfl (fun w2 h2=>jab Tryz.uPls rfl (jat (jaa Q2.o (jak _)) h2 (by have:=HCC.o;exact fun e=>absurd e (Nat.not_le.2 this)))) ?_;simp only[Act.put,sA,sB,sC];iterate 3 (refine jai _ rfl (by kernel_rfl) rfl rfl (fun K hK=>?_);go_big_quiet_op;refine hK _ ?_;clear hK K)
  refine jaX ⟨g,m * 3,none⟩ _ rfl (by kernel_rfl) rfl rfl (fun w2 h2=>by
   have hng:¬ w1.heap.size≤g:=Nat.not_le.2 HGG.o;exact juS (jat (jaa P1.o (jak _)) h2 hng) (jat (jaa P2.o (jak _)) h2 hng) (jat (jaa P3.o (jak _)) h2 hng)) ?_
  simp only[Act.put,sA,sB,sC];refine jaY _ rfl (by kernel_rfl) rfl (fun w2 he K hK=>?_);have HX2:=Hd (show Ext w1 w2 from(jak _).trans he);clear he;refine jcH (v:=.pointer (some ⟨w2.heap.size,0,none⟩)) (w':=w2.alloc (.cells [Value.string ⟨#[]⟩,.string ⟨#[]⟩,.string ⟨#[]⟩].toArray 206)) (by simp only[execOp,Sem.run_bind,Tryz.allocPl,Result.andThen,Sem.run_pure]) (hK _ _ ((jac.refl _ w2).alloc _) ?_);clear hK K;simp only[Act.put,sA,sB,sC];refine jaY _ rfl (by kernel_rfl) rfl (fun w3 he K hK=>?_);refine jjK (b:=w2.heap.size) (old:=[Value.string ⟨#[]⟩,.string ⟨#[]⟩,.string ⟨#[]⟩]) (vs:=[.string tp,.string tv,.string tr]) rfl rfl rfl ((Blk.new w2 _).keeps he (fun h=>h)) rfl Tryz.szPl (by intro u hu;simp at hu;rcases hu with rfl | rfl | rfl <;> rfl) (fun w4 hB4 hE4=>hK _ _ (hE4.mono (fun x _ e=>by have:=HX2.o.size;have e:x=w2.heap.size:=e;omega)) ?_);have HX4:=Hd (show Ext w1 w4 from HX2.o.trans ((((ExtR w2).alloc _).trans he).trans' hE4 (fun x hx e=>by have e:x=w2.heap.size:=e;omega)));have HB4:=Hd hB4;have H2S:=Hd HX2.o.size;clear hK K he hB4 hE4;simp only[Act.put,sA,sB,sC];refine jcd (by kernel_rfl) (fun w5 he=>?_);have HX5:=Hd (HX4.o.trans he);have hB5:=HB4.o.keeps he (fun h=>h);have c0:=hB5.cell (i:=0) (v:=.string tp) (by rfl);have HB5:=Hd hB5;clear he HX4 HB4 hB5;go_wp2_with fail
  refine (HKY.o w5).mono ?_;rintro e w6 ⟨rfl,hE⟩;have c1:=(HB5.o.keeps hE (fun h=>h)).cell (i:=1) (v:=.string tv) (by rfl);have HX6:=Hd (HX5.o.trans hE);have HB6:=Hd (HB1.o.keeps HX6.o (fun h=>h));clear hE HX5 HB5;go_wp2_with (refine jaj (old:=[.string ⟨#[]⟩,.string ⟨#[]⟩]) (vs:=[.string (jbq tp),.string tv]) rfl rfl rfl rfl HB6.o rfl Tryz.szEntry (by intro u hu;simp at hu;rcases hu with rfl | rfl <;> rfl) ?_;intro W8 hB8 hE8)
  refine bodyPost_ret (jaF rfl rfl rfl (jc0 hB8)) rfl ?_;have hF:∀ x,x=W.heap.size→W.heap.size≤x∧x≠c∧(Value.slice (some ⟨g,0,none⟩) (m+1) cap).ownBlock≠some x:=fun x e=>by subst e;exact⟨Nat.le_refl _,HNE.o.1,HN1.o⟩
  have hT8:=(HT.o.ext HX6.o).other hE8 hF
  exact⟨_,t :: r,N1,k1,hT8,⟨hT8.at',HI.o.stk,HI.o.look,HI.o.len⟩,by rw[HNV.o];rfl,.inr ⟨t,r,R',rfl,HR.o,HK.o.1,HK.o.2⟩⟩
def jc3(S:List Nd5)(c s:Nat)(fr:ByteArray)(R:List Pair)(W:World)(v:Value):Prop:=∃ (ts:List Pl5) (N k:Nat),CurI (HasS S) c s fr R W v ts N k
def jdw(S:List Nd5)(c s:Nat)(fr:ByteArray)(W:World)(v:Value)(W':World)(v':Value)(R:List Pair):Prop:=∃ (ts:List Pl5) (N k:Nat),jbe c s fr W v W' v' ts.reverse (k:Int)∧CurI (HasS S) c s fr R W' v' ts N k
theorem jdw.at'{S:List Nd5}{c s:Nat}{fr:ByteArray}{W W':World}{v v':Value}{R:List Pair}(h:jdw S c s fr W v W' v' R):jc3 S c s fr R W' v':=by
 obtain⟨ts,N,k,_,h2⟩:=h
 exact⟨ts,N,k,h2⟩
theorem jdw.kp{S:List Nd5}{c s:Nat}{fr:ByteArray}{W W':World}{v v':Value}{R:List Pair}(h:jdw S c s fr W v W' v' R):jac (fun b=>b=c∨v.ownBlock=some b) W W'∧(v'.ownBlock=v.ownBlock∨∀ b,v'.ownBlock=some b→W.heap.size≤b):=by
 obtain⟨ts,N,k,h1,_⟩:=h
 exact⟨h1.kp,h1.new⟩
theorem jc3.lt{S:List Nd5}{c s:Nat}{fr:ByteArray}{W:World}{v:Value}{R:List Pair}(h:jc3 S c s fr R W v):c < W.heap.size∧∀ b,v.ownBlock=some b→b < W.heap.size:=by
 obtain⟨ts,N,k,h⟩:=h
 exact⟨h.left.cur.lt,fun b hb=>jfy h.left.row hb⟩
theorem jc3.keeps{S:List Nd5}{c s:Nat}{fr:ByteArray}{W W':World}{v:Value}{R:List Pair}{F:BSet}(h:jc3 S c s fr R W v)(k:jac F W W')(h1:¬ F c)(h2:∀ b,v.ownBlock=some b→¬ F b):jc3 S c s fr R W' v:=by
 obtain⟨ts,N,n,h⟩:=h
 exact⟨ts,N,n,⟨h.left.keeps k h1 h2,h.stk,h.look,h.len⟩⟩
theorem jc3.ext{S:List Nd5}{c s:Nat}{fr:ByteArray}{W W':World}{v:Value}{R:List Pair}(h:jc3 S c s fr R W v)(k:Ext W W'):jc3 S c s fr R W' v:=h.keeps k (fun h=>h) (fun _ _ h=>h)
theorem jc3.store{S:List Nd5}{c s bm:Nat}{room:Int}{fr:ByteArray}{W W':World}{v:Value}{R:List Pair}(h:jc3 S c s fr R W v)(hs:jas W s bm room S)(k:jac (fun b=>b=c∨v.ownBlock=some b) W W'):jas W' s bm room S:=by
 obtain⟨ts,N,n,h⟩:=h
 exact hs.cur h.left k
theorem jdw.other{S:List Nd5}{c s:Nat}{fr:ByteArray}{W W' W'':World}{v v':Value}{R:List Pair}{F:BSet}(h:jdw S c s fr W v W' v' R)(k:jac F W' W'')(hF:∀ x,F x→W.heap.size≤x∧x≠c∧v'.ownBlock≠some x):jdw S c s fr W v W'' v' R:=by
 obtain⟨ts,N,n,h1,h2⟩:=h
 have:=h1.other k hF
 exact⟨ts,N,n,this,⟨this.at',h2.stk,h2.look,h2.len⟩⟩
theorem jdw.ahead{S:List Nd5}{c s:Nat}{fr:ByteArray}{W0 W W':World}{v v':Value}{R:List Pair}(e:Ext W0 W)(h:jdw S c s fr W v W' v' R):jdw S c s fr W0 v W' v' R:=by
 obtain⟨ts,N,n,h1,h2⟩:=h
 exact⟨ts,N,n,jbe.ahead e h1,h2⟩
theorem Tryz.allocEnt:∀ w,(Instr.alloc 72 true (.tuple #[])).run Tryz.prog w=.ok (.pointer (some ⟨w.heap.size,0,none⟩)) (w.alloc (.cells [Value.string ⟨#[]⟩,.string ⟨#[]⟩].toArray 72)):=fun w=>by kernel_rfl
theorem jgQ(x y:ByteArray):∀ u∈[Value.string x,.string y],u.oneCell'=true:=by
 intro u hu;simp at hu;rcases hu with rfl | rfl <;> rfl
theorem jgu(W:World)(c s bm:Nat)(room:Int)(S:List Nd5)(fr:ByteArray)(R:List Pair)(v:Value)(hf:fr.size≤1000000)(hC:jc3 S c s fr R W v)(hs:jas W s bm room S) :
  Calls Tryz.prog 46 #[.pointer (some ⟨c,0,none⟩)] W fun e w'=>e=.returned (jia R)∧∃ v',jdw S c s fr W v w' v' R.tail:=by
 obtain⟨hc1,hc2⟩:=hC.lt
 obtain⟨ts,N,k,hI⟩:=hC
 have HI:=Hd (fun w (e:Ext W w)=>jtJ w c s bm room S fr R v ts N k hf ⟨hI.left.ext e,hI.stk,hI.look,hI.len⟩ (hs.ext e));have HCC:=Hd (And.intro hc1 hc2);clear hI hs hc1 hc2
 obtain⟨T,hT⟩:∃ T,T=R.tail:=⟨_,rfl⟩
 obtain⟨V,hV⟩:∃ V,V=jia R:=⟨_,rfl⟩
 have HTV:=Hd (And.intro hT hV);rw[←hT, ←hV];clear hT hV;go_enter Tryz.func46,Tryz.ntmps46;go_wp2_with (refine jaq Tryz.allocEnt rfl rfl ?_;intro W1 hB1 hE1)
 have HZ1:=Hd (show W.heap.size < W1.heap.size from hB1.lt);refine (HI.o W1 hE1).mono ?_;rintro e w2 ⟨v2,ts2,N2,k2,hT2,hI2,rfl,hcase⟩;have hB2:=hT2.blk hB1 (by have:=HCC.o.1;omega) (fun e=>by have:=HCC.o.2 _ e;omega);have HB2:=Hd hB2;have HN2:=Hd (show v2.ownBlock≠some W.heap.size∧W.heap.size≠c from⟨fun e=>by
  rcases hT2.new with h1 | h1
  ·have:=HCC.o.2 _ (h1 ▸ e);omega
  ·have:=h1 _ e;have:=HZ1.o;omega,by have:=HCC.o.1;omega⟩)
 have HT2:=Hd (jbe.ahead hE1 hT2);have HI2:=Hd hI2;clear hT2 hI2 hB1 hE1 hB2;rcases hcase with⟨hR,hts⟩ |⟨t,r,R',hts,hR,hk,hst⟩
 ·subst hts
  have hv:jia R=.tuple #[.agg #[.string ⟨#[]⟩,.string ⟨#[]⟩],.bool false]:=by rw[hR];rfl
  have HR:=Hd hR;have HV:=Hd hv;rw[hv];clear hR hv;go_wp2_with (first |(refine jaq Tryz.allocEnt rfl rfl ?_;intro W5 hB5 hE5;refine jaj (vs:=[.string ⟨#[]⟩,.string ⟨#[]⟩]) rfl rfl rfl rfl hB5 rfl Tryz.szEntry (jgQ _ _) ?_;intro W6 hB6 hE6;have hX6:Ext w2 W6:=hE5.trans' hE6 (fun x hx e=>by have e:x=w2.heap.size:=e;omega);have hBr:=HB2.o.keeps hX6 (fun h=>h);have hld:=jcB (b:=w2.heap.size) (o:=0) (hB6.cell (i:=0) (by rfl)) (hB6.cell (i:=1) (by rfl))) |(refine jae 72 (.tmp 4) rfl rfl _ _ rfl hld ?_) |(refine jaj (vs:=[.string ⟨#[]⟩,.string ⟨#[]⟩]) rfl rfl rfl rfl hBr rfl Tryz.szEntry (jgQ _ _) ?_;intro W8 hB8 hE8))
  refine bodyPost_ret (jaF rfl rfl rfl (jc0 hB8)) rfl ?_;have hT8:=(HT2.o.ext hX6).other hE8 (fun x e=>by subst e;exact⟨Nat.le_refl _,HN2.o.2,HN2.o.1⟩)
  refine⟨by rw[HTV.o.2,HV.o];rfl,v2,[],N2,k2,hT8,⟨hT8.at',?_,HI2.o.look,HI2.o.len⟩⟩
  have h1:=HI2.o.stk;rw[HR.o]at h1;rw[HTV.o.1,HR.o];exact h1
 ·subst hts
  obtain⟨x,hx⟩:∃ x,x=jbq t.path:=⟨_,rfl⟩
  obtain⟨y,hy⟩:∃ y,y=t.value:=⟨_,rfl⟩
  have hv:jia R=.tuple #[.agg #[.string x,.string y],.bool true]:=by rw[hR,hx,hy];rfl
  have HR:=Hd hR;have HV:=Hd hv;have HST:=Hd hst;rw[hv];clear hR hv hx hy hst hk;go_wp2_with (first |(refine jaq Tryz.allocEnt rfl rfl ?_;intro W5 hB5 hE5;refine jaj (vs:=[.string x,.string y]) rfl rfl rfl rfl hB5 rfl Tryz.szEntry (jgQ _ _) ?_;intro W6 hB6 hE6))
  have hX6:Ext w2 W6:=hE5.trans' hE6 (fun x hx e=>by have e:x=w2.heap.size:=e;omega);have hl:=HI2.o.left;rw[List.reverse_cons]at hl;have hlen:=HI2.o.len;have hlook:=HI2.o.look;rw[List.length_cons]at hlen;have hclt:=HI2.o.left.cur.lt;have hrl:∀ b,v2.ownBlock=some b→b < w2.heap.size:=fun b hb=>jfy HI2.o.left.row hb;refine (jrZ W6 c s fr v2 r.reverse t k2 (hl.ext hX6) (by rw[List.length_reverse];omega)).mono ?_;rintro e w7 ⟨rfl,v7,hT7⟩;have hB7:=hT7.blk hB6 (by omega) (fun e=>by have:=hrl _ e;omega);have hld:=jcB (b:=w2.heap.size) (o:=0) (hB7.cell (i:=0) (by rfl)) (hB7.cell (i:=1) (by rfl));have hBr:=hT7.blk (HB2.o.keeps hX6 (fun h=>h)) HN2.o.2 HN2.o.1;have HN7:=Hd (show v7.ownBlock≠some W.heap.size from fun e=>by
   rcases hT7.new with h1 | h1
   ·exact HN2.o.1 (h1 ▸ e)
   ·have:=h1 _ e;have:=HB2.o.lt;have:=hX6.size;omega)
  have HT7:=Hd (HT2.o.trans (jbe.ahead hX6 hT7));clear hl hlen hclt hrl hT7 hB6 hE6 hE5 hB5;go_wp2_with (first |(refine jae 72 (.tmp 4) rfl rfl _ _ rfl hld ?_) |(refine jaj (vs:=[.string x,.string y]) rfl rfl rfl rfl hBr rfl Tryz.szEntry (jgQ _ _) ?_;intro W8 hB8 hE8))
  refine bodyPost_ret (jaF rfl rfl rfl (jc0 hB8)) rfl ?_;have hT8:=HT7.o.other hE8 (fun x e=>by subst e;exact⟨Nat.le_refl _,HN2.o.2,HN7.o⟩)
  refine⟨by rw[HTV.o.2,HV.o];rfl,v7,r,N2,k2,hT8,⟨hT8.at',?_,hlook,by have:=HI2.o.len;rw[List.length_cons]at this;omega⟩⟩
  rw[HTV.o.1,HR.o];exact HST.o
def jsX:List Pair→Value
 | []=>.tuple #[.string ⟨#[]⟩,.bool false]
 | q :: _=>.tuple #[.string (jbq q.1),.bool true]
theorem jpm(W:World)(c s bm:Nat)(room:Int)(S:List Nd5)(fr:ByteArray)(R:List Pair)(v:Value)(hf:fr.size≤1000000)(hC:jc3 S c s fr R W v)(hs:jas W s bm room S) :
  Calls Tryz.prog 94 #[.pointer (some ⟨c,0,none⟩)] W fun e w'=>e=.returned (jsX R)∧∃ v',jdw S c s fr W v w' v' R:=by
 obtain⟨ts,N,k,hI⟩:=hC
 have HI:=Hd (jtJ W c s bm room S fr R v ts N k hf hI hs);clear hI hs;go_enter Tryz.func94,Tryz.ntmps94;go_wp2_with fail
 refine HI.o.mono ?_;rintro e w2 ⟨v2,ts2,N2,k2,hT2,hI2,rfl,hcase⟩;have HT2:=Hd hT2;have HI2:=Hd hI2;clear hT2 hI2;rcases hcase with⟨hR,hts⟩ |⟨t,r,R',hts,hR,hk,hst⟩
 ·have hv:jia R=.tuple #[.agg #[.string ⟨#[]⟩,.string ⟨#[]⟩],.bool false]:=by rw[hR];rfl
  have HP:=Hd (show jsX R=.tuple #[.string ⟨#[]⟩,.bool false] by rw[hR];rfl);rw[hv];clear hR hv hts;go_wp2_with fail
  go_ret2;have hX:=(ExtR w2).alloc (.cells #[.string ⟨#[]⟩,.string ⟨#[]⟩] 72)
  exact⟨by rw[HP.o];rfl,v2,ts2,N2,k2,HT2.o.ext hX,⟨HI2.o.left.ext hX,HI2.o.stk,HI2.o.look,HI2.o.len⟩⟩
 ·obtain⟨x,hx⟩:∃ x,x=jbq t.path:=⟨_,rfl⟩
  obtain⟨y,hy⟩:∃ y,y=t.value:=⟨_,rfl⟩
  have hv:jia R=.tuple #[.agg #[.string x,.string y],.bool true]:=by rw[hR,hx,hy];rfl
  have HP:=Hd (show jsX R=.tuple #[.string x,.bool true] by rw[hR,hx];rfl);rw[hv];clear hR hv hx hy hst hk hts;go_wp2_with fail
  go_ret2;have hX:=(ExtR w2).alloc (.cells #[.string x,.string y] 72)
  exact⟨by rw[HP.o];rfl,v2,ts2,N2,k2,HT2.o.ext hX,⟨HI2.o.left.ext hX,HI2.o.stk,HI2.o.look,HI2.o.len⟩⟩
end
end Go.Proofs.YtpaacnhboilkkaaGreatDoor
