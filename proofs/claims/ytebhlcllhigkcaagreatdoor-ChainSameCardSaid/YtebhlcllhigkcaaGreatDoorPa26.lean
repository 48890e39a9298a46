/- Lemmas. -/
import Derived.Test.YtebhlcllhigkcaaGreatDoorPa0
import Derived.Test.YtebhlcllhigkcaaGreatDoorPa25
namespace Go.Proofs.YtebhlcllhigkcaaGreatDoor
open Go.Proofs.Tryz
set_option linter.unusedSimpArgs false
set_option linter.unusedVariables false
set_option maxRecDepth 100000
set_option maxHeartbeats 16000000
open Go Go.RowKit
variable (W w:vW)(cb mb tg c:Nat){a:Act}{af:Array Edge}{x y:Operand}{g:Option (Nat × Bool)}{d:Option Tmp}{P:Program}{pos:String}{m v v1 v2:vV}
theorem H0(f:vV):vR 134 #[qe,f] w (.int .i64 (-1)):=by
 unfold vR vQ;go_in;go_wp2_with fail
 go_loopw [8] (fun i wr=>i=.int .i64 0/\Af w wr) (fun i _=>1)
 case atStart=>exact⟨rfl,Aa w⟩
 case round =>obtain⟨rfl,e⟩:=hrel;(have q:=J e;clear e;go_wp2_with fail);go_ret;exact⟨rfl,q.o⟩
theorem OR(key:vB)(hq:w.cell? ⟨cb,1,none⟩=some (.slice none 0 0)):vR 86 #[cb,key] w (.int .i64 (-1)):=by
 have e:=(Aa w).alloc (.cells #[key] 9);have K:=Am hq e;have q:=J e;clear hq e;unfold vR vQ;go_in;go_wp2_with fail
 refine vH (H0 _ _) fun w1 A=>?_;have H:=J (q.o.trans A);go_wp2_with fail
 go_ret
 exact⟨rfl,H.o⟩
theorem ZJ{w:vW}{ty:TypeId}{key:vB}(hl:(Instr.lookup 125 m key false).run prog w=.ok v w)(hx:a.eval x=m:=by rfl)(hy:a.eval y=.string key:=by rfl):(execOp a.eval ⟨d,.lookup 125 x y false,ty,pos,af,g⟩).run prog w=.ok (.value v) w:=by
 simp only[execOp,hx,hy,bQ,hl,Result.andThen,cV]
def AR(W:vW)(cb mb:Nat)(key:vB):Prop:=Ae W cb (.cells #[.int .i64 4,qe,.map (some mb),.int .i64 1] 128)/\Ae W mb (.map (Al.arr [(key.data.toList,.int .i64 1,0)]) 1)
theorem P7(hne:cb≠mb)(h:Rx w cb mb 4)(key:vB):vQ 39 #[cb,key] w fun e w'=>e=.returned (.tuple #[(),false])/\Ad (fun z=>z=cb\/z=mb) w w'/\AR w' cb mb key:=by
 have H:=J h;have q0:=h.1.cell (i:=0) (v:=.int .i64 4) vF;clear h;unfold vQ;go_in;go_wp2_with fail
 refine BF [0,1,2,3,4,5,6,7,8,9,10,11,12] 13 [] Af Af Aa Ap Ap (fun x y h=>h) vY vY vY ?_
 refine vZ ?_
 refine Qs _ cb rfl zf (vS ?_)
 refine vZ ?_
 refine Vi ⟨cb,2,none⟩ (.map (some mb)) rfl (fun w1 Z=>De zf ((H.o.1.drew.keeps Z kI).cell (i:=2) rfl)) (vS ?_);iterate 2 refine vZ ?_
 refine Qs _ cb rfl zf (vS ?_)
 refine vZ ?_
 refine Vi ⟨cb,2,none⟩ (.map (some mb)) rfl (fun w1 Z=>De zf ((H.o.1.drew.keeps Z kI).cell (i:=2) rfl)) (vS ?_)
 refine vZ ?_
 refine UV _ qa rfl vY vY rfl (fun w3 h3=>by have:=Wx Al Bf (H.o.2.drew.keeps h3 kI) (Cz w3) key.data.toList false;exact ZJ this) ?_
 refine vS ?_
 refine vZ ?_
 refine Qs _ (.int .i64 1) rfl zf (vS ?_);refine BJ _ rfl vY rfl (fun wc hc K hK=>?_);have kc:Af w wc:=(Ao _).trans hc;have a0:=H.o.2.keeps kc kI
 obtain⟨W2,A⟩:=vE (wc.putObj mb (.map (Al.arr [(key.data.toList,.int .i64 1,0)]) 1))
 have a4:(Instr.mapUpdate 125 (.map (some mb)) key (.int .i64 1)).run prog wc=.ok () W2:=by have:=Yq Al Bf a0 key.data.toList (.int .i64 1);rw[A];exact this
 have a2:Ae W2 mb (.map (Al.arr [(key.data.toList,.int .i64 1,0)]) 1):=by rw[A];exact a0.put_same _
 have K2:Ad (fun z=>z=mb) wc W2:=by rw[A];exact Ad.onePut _ _ _
 have O:=(H.o.1.keeps kc kI).keeps K2 hne;have H2:=J (bA a2 (bA ((kc.mono (G:=fun z=>z=mb) fun _ _ e=>e.elim).trans K2) O));clear A a2 K2 a0 kc hc;go_simp;refine hK _ _ ?_;clear hK K a4;have q3:W2.cell? ⟨cb,3,none⟩=some (.int .i64 0):=O.cell (i:=3) rfl;have f3:W2.frozen? ⟨cb,3,none⟩=false:=O.frozen;clear O;go_wp2_with fail
 have q:=H2.o.2.2.set_same (i:=3) (.int .i64 1);have k3:=Ad.oneSet W2 ⟨cb,3,none⟩ (.int .i64 1);have a1:=H2.o.1.keeps k3 (fun e=>hne e.symm);generalize W2.setCell ⟨cb,3,none⟩ (.int .i64 1)=w3 at q k3 a1 ⊢;refine Hs [0,1,2,3,4,5,6,7,8,9] Af Aa Ap vY vY vY ?_
 refine vK ?_
 refine Jf _ cb rfl zh (vS ?_)
 refine vK ?_
 refine Db ⟨cb,3,none⟩ (.int .i64 1) rfl (fun w1 Z=>De zf ((q.drew.keeps Z kI).cell (i:=3) rfl)) (vS ?_)
 refine vK ?_
 refine Jf _ cb rfl zh (vS ?_)
 refine vK ?_
 refine Db cb (.int .i64 4) rfl (fun w1 Z=>De zf ((q.drew.keeps Z kI).cell (i:=0) rfl)) (vS ?_);iterate 2 refine vK ?_
 refine Hi (fun w4 h4=>?_);have X:Af w3 w4:=(Ao _).trans h4;have a3:=q.keeps X kI;have H4:=J (bA ((H2.o.2.1.mono (G:=fun z=>z=cb\/z=mb) fun z _ e=>.inr e).trans ((k3.mono fun z _ e=>.inl e).trans (X.mono kZ))) (bA a3 (a1.keeps X kI)));clear h4 X q k3 a1 a3 q3 f3;go_wp2_with fail
 refine vC (OR w4 cb key (H4.o.2.1.cell (i:=1) rfl)) fun w5 hE=>?_;have H5:=J (bA (H4.o.1.trans (hE.mono kZ)) (bA (H4.o.2.1.keeps hE kI) (H4.o.2.2.keeps hE kI)));clear hE;go_wp2_with fail
 go_ret2
 exact⟨rfl,H5.o.1,H5.o.2⟩
theorem Dr:(prog.info? 166).map (·.size)=some 2:=vY
theorem Iq:(Instr.alloc 166 true (.tuple #[])).run prog w=.ok w (w.alloc (.cells [Value.string ⟨#[]⟩,.string ⟨#[]⟩].toArray 166)):=vY
theorem Ih:prog.underlying 126=some (.slice 166):=vY
theorem ZF(dT sT ty elem:TypeId){sz:Nat}(d a:Option Addr)(dLen dCap sLen sCap:Nat)(hu:P.underlying dT=some (.slice elem))(hs:(P.info? elem).map (·.size)=some sz)(hn:Nat.min sLen dLen=0:=by rfl):(Builtin.copy_ #[dT,sT] ty #[.slice d dLen dCap,.slice a sLen sCap]).run P w=.ok (goInt 0) w:=by
 cases hq:P.info? elem with
 |none=>simp[hq]at hs
 |some i =>(have e:∀ (x:Addr),(loadCells x 0).run P w=.ok #[] w:=fun x=>by simpa using run_loadCells_list (P:=P) w x [] (by simp));cases d<;>cases a<;>simp[Builtin.copy_,run_underlying hu,Builtin.lenOf,Builtin.firstCells,sizeOf,typeInfo,hq,hn,storeCells,e]
theorem aZ{w:vW}{dT sT ty:TypeId}(hx:a.eval x=v1)(hy:a.eval y=v2)(hr:(Builtin.copy_ #[dT,sT] ty #[v1,v2]).run P w=.ok v w):(execOp a.eval ⟨d,.call { callee:=.builtin .copy,args:=#[x,y],argTypes:=#[dT,sT] },ty,pos,af,g⟩).run P w=.ok (.value v) w:=by
 simp[execOp,hx,hy,hr,resolve,invoke,builtin,bQ,Result.andThen]
theorem Rd:Xq (prog.underlying 166)=true:=vY
theorem ZG(b:Nat)(vs:List vV)(hl:vs.length=2){T:TypeId}{fz:Nat × Nat}(hB:Ae W b (.cells vs.toArray T fz)):(Instr.loadAt 166 b).run prog W=.ok (.agg vs.toArray) W:=by
 obtain⟨A,e⟩:=Yo Rd
 exact Yr e (by rw[hl];exact Dr) (fun j v q=>by rw[Go.WideShapes.add_plain,bX];exact hB.cellL q)
def Pj(W:vW)(cb mb tg c:Nat)(key val:vB):Prop:=Ae W cb (.cells #[.int .i64 4,.slice (some tg) 1 c,.map (some mb),.int .i64 1] 128)/\1<=c/\∃ rest,Ae W tg (.cells ([.string key,.string val]++rest).toArray 166)
theorem G2(hne:cb≠tg)(key v0 val:vB)(h:Pj w cb mb tg c key v0):vQ 87 #[cb,qa,val] w fun e w'=>e=.returned (.tuple #[])/\Ad (fun z=>z=tg) w w'/\Pj w' cb mb tg c key val:=by
 obtain⟨O,X,a0,ht⟩:=h
 have q1:w.cell? ⟨cb,1,none⟩=some (.slice (some tg) 1 c):=O.cell (i:=1) rfl;have t0:w.cell? tg=some (.string key):=ht.cellL rfl;have H:=J (bA O ht);clear O ht;unfold vQ;go_in;go_wp2_with (first|(refine Di Iq rfl rfl ?_;intro W2 a2 a3)|(refine Bt (vs:=[key,val]) rfl rfl rfl rfl a2 rfl Dr zc ?_;intro W3 a4 a5))
 have hE:Af w W3:=a3.trans' a5 kJ
 have H3:=J (bA hE (bA a4 (bA (H.o.1.keeps hE kI) (H.o.2.keeps hE kI))));clear hE a2 a3 a4 a5 q1 t0;refine vS ?_;have c1:(1:Int)<=(c:Int):=vO
 refine Hs [0,1,2,3,4,5,6,7,8,9,10,11,12,13] Af Aa Ap vY vY vY ?_
 refine vK ?_
 refine Jf _ cb rfl zh (vS ?_)
 refine vK ?_
 refine Db ⟨cb,1,none⟩ (.slice (some tg) 1 c) rfl (fun w1 X=>De zf ((H3.o.2.2.1.drew.keeps X kI).cell (i:=1) rfl)) (vS ?_);iterate 2 refine vK ?_
 refine vK ?_
 generalize (if c=1 then some (tg:Addr)else some ⟨tg,2,none⟩)=ad
 refine vK ?_
 refine Jf _ cb rfl zh (vS ?_)
 refine vK ?_
 refine Db ⟨cb,1,none⟩ (.slice (some tg) 1 c) rfl (fun w1 X=>De zf ((H3.o.2.2.1.drew.keeps X kI).cell (i:=1) rfl)) (vS ?_);iterate 2 refine vK ?_
 refine Jf _ qa rfl (fun w1 _=>aZ rfl rfl (ZF (P:=prog) w1 126 126 3 166 ad (some ⟨tg,0,none⟩) 0 (c-1) 0 c Ih Dr)) (vS ?_);refine Hi (fun w4 h4=>?_);have q:Af W3 w4:=(Ao _).trans h4;have a7:=H3.o.2.1.keeps q kI;have a8:=H3.o.2.2.1.keeps q kI;have a1:=H3.o.2.2.2.keeps q kI;have a9:=a1.lt;have b0:=H.o.2.lt;have H4:=J (bA (H3.o.1.trans q) (bA a7 (bA a8 a1)));clear h4 q a7 a8 a1 a9;go_wp2_with fail
 refine Na [0,1,2,3,4,5,6] [6] Af (Ad fun z=>z=tg) Aa Ap (fun x y z h k=>Ad.trans h k) (fun x y h=>h.mono kZ) vY vY vY ?_
 refine vD ?_
 refine Lx _ cb rfl zh (vS ?_)
 refine vD ?_
 refine Fa ⟨cb,1,none⟩ (.slice (some tg) 1 c) rfl (fun w1 X=>De zf ((H4.o.2.2.1.drew.keeps X hne).cell (i:=1) rfl)) (vS ?_);refine Fa w (.agg #[key,val]) rfl (fun w1 X=>ZG w1 w [key,val] rfl (H4.o.2.1.drew.keeps X vO)) (vS ?_)
 refine vD ?_
 refine Hh _ rfl (fun wc O K hK=>?_);refine PJ (old:=[.string key,.string v0]++a0) (vs:=[key,val]) rfl rfl rfl ((H4.o.2.2.2.drew).keeps O kI) (by simp) Dr zc (fun W5 Z A=>hK _ _ A ?_);have H5:=J (bA O (bA Z A));clear hK K O Z A;refine vS ?_;refine Mt (fun w6 h6=>?_);refine bodyPost_end (results_none rfl _ _ _) rfl ?_
 obtain⟨O,Z,A⟩:=H5.o
 have k6:Ad (fun z=>z=tg) w4 w6:=(((Ao _).trans O).mono kZ).trans (A.trans (h6.mono kZ))
 exact⟨rfl,(H4.o.1.mono kZ).trans k6,H4.o.2.2.1.keeps k6 hne,X,a0,by simpa using Z.keeps h6 kI⟩
theorem Lr:Mn prog 126 166 2 32:=Mn.mk' Ih (show (prog.info? 166).map (fun i=>(i.zero,i.size,i.bytes))=some (some (.agg #[(),()]),2,32) by kernel_rfl) rfl vI
theorem o6(hne:cb≠mb)(key val:vB)(h:AR w cb mb key):vQ 41 #[cb,key,val] w fun e w'=>e=.returned true/\Ad (fun z=>z=cb) w w'/\∃ A c,Pj w' cb mb A c key val/\w.heap.size<=A:=by
 have H:=J h;have q0:=h.1.cell (i:=0) (v:=.int .i64 4) vF;have b2:=h.1.lt;clear h;unfold vQ;go_in;go_wp2_with fail
 refine vC (OR w cb key (H.o.1.cell (i:=1) rfl)) fun w1 hE=>?_;have Z:=H.o.1.keeps hE kI;have q1:=Z.cell (i:=1) (v:=.slice none 0 0) vF;have H1:=J (bA hE Z);clear hE Z;go_wp2_with fail
 refine Hs [0,1,2,3,4,5,6,7,8,9,10] Af Aa Ap vY vY vY ?_
 refine vK ?_
 refine Jf _ cb rfl zh (vS ?_)
 refine vK ?_
 refine Db ⟨cb,1,none⟩ qe rfl (fun w2 h1=>De zf ((H1.o.2.drew.keeps h1 kI).cell (i:=1) rfl)) (vS ?_);refine Jf _ qa rfl zh (vS ?_)
 refine vK ?_
 refine Jf _ cb rfl zh (vS ?_)
 refine vK ?_
 refine Db cb (.int .i64 4) rfl (fun w2 h1=>De zf ((H1.o.2.drew.keeps h1 kI).cell (i:=0) rfl)) (vS ?_);iterate 2 refine vK ?_
 refine Hi (fun w2 h2=>?_);have K:Af w w2:=H1.o.1.trans ((Ao _).trans h2);have a0:=H.o.1.keeps K kI;have b3:=a0.cell (i:=1) (v:=.slice none 0 0) vF;have H2:=J (bA K (bA a0 (H.o.2.keeps K kI)));clear h2 K a0 q1;go_wp2_with (at_builtin;go_loud (refine Qm Lr (Ar.nil 166 2 ((Aa w2).alloc (.cells #[key,()] 166))) (.tmp 45) (.tmp 48) rfl rfl rfl (Jx (Ae.new w2 _)) (news:=[key,()]) (by intro u hu;simp at hu;rcases hu with rfl|rfl<;>rfl) rfl rfl zi vO fun v5 w5 O r2 r3=>?_);obtain⟨a5,c5,rfl⟩:=O.sl;have q:=H2.o.2.1.keeps O.ext kI;have q5:=q.cell (i:=1) (v:=.slice none 0 0) vF;have f5:w5.frozen? ⟨cb,1,none⟩=false:=q.frozen;have H5:=J (bA O q);clear O r2 r3 q)
 obtain⟨O,q⟩:=H5.o
 have a1:=q.set_same (i:=1) (.slice a5 (0+1) c5);have k6:=Ad.oneSet w5 ⟨cb,1,none⟩ (.slice a5 (0+1) c5)
 obtain⟨_,⟨e,_⟩|⟨A,b4,a2,e,_,a3,b0,_,b1,a4⟩⟩:=O.own
 ·cases e
 cases e;have b5:w2.heap.size<=A:=O.new A rfl;have b6:=H2.o.1.size;have a7:cb≠A:=vO
 have X:Ae w5 A (.cells (([key,()]:List vV)++a2.toList.drop 2).toArray 166):=by have h2:a2.toList.take 2=[Value.string key,.string ⟨#[]⟩]:=a4;rw[<-h2,cX];show w5.heap[A]?=_;simpa using a3
 have a8:Pj (w5.setCell ⟨cb,1,none⟩ (.slice (some ⟨A,0,none⟩) (0+1) c5)) cb mb A c5 key ():=⟨by simpa using a1,b0,_,X.keeps k6 fun e=>a7 e.symm⟩;refine (G2 _ cb mb A c5 a7 key () val a8).mono ?_;rintro e w7 ⟨rfl,a9,h7⟩;have H7:=J (bA ((((H2.o.1.trans O.ext).mono (G:=fun z=>z=cb) fun _ _ e=>e.elim).trans k6).trans' a9 kJ) (bA h7 (show w.heap.size<=A by omega)));clear a9 h7 a8 X a3 a1 k6 q O q5 f5 b1 a4;go_wp2_with fail
 go_ret
 exact⟨rfl,H7.o.1,A,c5,H7.o.2⟩
def uB(w:vW)(kv iv:vV)(wr:vW):Prop:=∃ i:Nat,i<=1/\iv=.int .i64 i/\∃ xs,Ar 9 1 w wr kv i xs
theorem A2(c:Nat)(key val:vB)(h:Pj w cb mb tg c key val):vQ 58 #[cb] w fun e w'=>∃ a c,e=.returned (.slice a 1 c)/\Af w w':=by
 obtain⟨hc,h1,a3,ht⟩:=h
 have q1:w.cell? ⟨cb,1,none⟩=some (.slice (some tg) 1 c):=hc.cell (i:=1) rfl;have H:=J (bA hc ht)
 obtain⟨i0,hi,O,X,Z⟩:=info_parts Jk
 obtain⟨w2,q,A,K⟩:=run_make_own (P:=prog) (w:=w) w 48 9 i0 _ 1 Ci.ht hi O X .i64 .i64 1 (by rw[Z];decide) zi (bM _)
 have k2:Af w w2:=Ad.of_grown K (fun _ e=>by cases e);have a0:=Ar.made w A K;have a7:=Am q1 k2;have a4:(Instr.makeSlice 48 qa (.int .i64 1)).run prog w=.ok (.slice (some w) 0 1) w2:=q;have a1:=J a0;clear q hc ht A K hi O X Z a0 k2;unfold vQ;go_in;go_wp2_with fail
 go_loopw [3,17] (fun kv iv wr=>uB w kv iv wr) (fun _ iv _=>1-(intOf iv).toNat)
 case atStart=>exact⟨0,by decide,rfl,_,a1.o⟩
 case round =>obtain⟨i,hi,rfl,xs,hR⟩:=hrel;have HR:=J hR;obtain⟨ak,ck,rfl⟩:=hR.sl;have hE:=hR.ext;have t0:wr.cell? tg=some (.string key):=(H.o.2.keeps hE kI).cellL rfl;have t1:wr.cell? ⟨tg,1,none⟩=some (.string val):=(H.o.2.keeps hE kI).cellL rfl;clear hR hE;by_cases hlt:i<1;{obtain rfl:i=0:=vO;(clear hi;go_wp2_with (at_builtin;go_loud (refine Qm Ci (HR.o.mono (((Aa wr).alloc _).alloc _)) (.tmp 21) (.tmp 24) rfl rfl rfl (by have:=OO (wr.alloc (.cells #[key,val] 166)) 9 [key];rw[bG]at this;exact this) (news:=[key]) (by intro u hu;simp at hu;rw[hu];rfl) rfl rfl zi vO fun v5 w5 r1 r2 r3=>?_);obtain⟨a5,c5,rfl⟩:=r1.sl;have a2:=J r1;clear r1 r2 r3));go_roundw;(case rel=>exact⟨1,by decide,by go_num,_,a2.o⟩);case measure=>simp[intOf]};obtain rfl:i=1:=vO;(go_wp2_with fail);go_ret;exact⟨ak,ck,rfl,HR.o.ext⟩
