/- Lemmas; each is under no condition but those that it states. -/
import Derived.Test.YtnkdaacmpceghaaGreatDoorPa23
namespace Go.Proofs.YtnkdaacmpceghaaGreatDoor
set_option linter.unusedSimpArgs false
set_option linter.unusedVariables false
set_option maxRecDepth 100000
set_option maxHeartbeats 16000000
variable (args:Array vV)(c:Nat)(w w0:vW)(window:Int){K:Act->vW->Prop}{ad ad2:Addr}{tmps:Array vV}{F:BSet}{x:Ent Int}{Q:Exit->Act->vW->Prop}{fn:Func}{room bk:Int}{k:Key}{sn es:List (Ent Int)}{X:List VX}{l Y:List VerN}{old vs xs:List vV}{M M':MdN}{win s bm T n p i next sz by' m g z c' B cap sb cb f ck rm:Nat}{ks:Nat->PA}{D E:Nat->Prop}{y:Nd5}{o:Oper}{a a':Option Addr}{P:Program}{r v u t root top:vB}{L R:vM}{S G S0 S':vT}{w' W W' W'' b:vW}
section
open Go Go.RowKit
theorem jdW{α:Type}{l:List α}{x:α}(h:l[i]?=some x):l.take (i+1)=l.take i++[x]/\l.drop i=x :: l.drop (i+1):=by
 obtain⟨e,q⟩:=bH.1 h
 exact⟨by rw[bX,h];rfl,by rw[<-q];exact gF e⟩
theorem jnR{x:VerN}(h:l[i]?=some x)(hk:i+1=l.length\/jee win next x=true):l.take (i+1)++ja3 win next (l.drop (i+1))=l.take i++ja3 win next (l.drop i):=by
 obtain⟨q,A⟩:=jdW h
 rw[q,A,cE]
 congr 1
 by_cases hd:l.drop (i+1)=[]
 ·rw[hd];rfl
 ·rw[jc3 hd]
  have:jee win next x=true:=hk.resolve_left fun e=>hd (by rw[e];exact fS)
  rw[if_pos this];rfl
theorem jnS{x:VerN}(h:l[i]?=some x)(hY:Y=l.take (i+1)++ja3 win next (l.drop (i+1)))(hi:i+1≠l.length)(hk:jee win next x=false):Y.take i++Y.drop (i+1)=l.take i++ja3 win next (l.drop i):=by
 obtain⟨H,J⟩:=jdW h
 have Z:=(bH.1 h).1;have K:l.drop (i+1)≠[]:=fun e=>by
  have:=congrArg List.length e
  rw[gX]at this
  have:l.length - (i+1)=0:=this
  omega
 have A:(l.take (i+1)).length=i+1:=by rw[cQ];omega
 have q:(l.take i).length=i:=by rw[cQ];omega
 have O:Y.drop (i+1)=ja3 win next (l.drop (i+1)):=by rw[hY];exact List.drop_left' A
 have X:Y.take i=l.take i:=by rw[hY,H,cE];exact List.take_left' q
 rw[O,X,J,jc3 K,if_neg (by rw[hk];simp)]
theorem jpD{x:VerN}(h:l[i]?=some x)(hY:Y=l.take (i+1)++ja3 win next (l.drop (i+1))):Y[i]?=some x/\(i+1=Y.length↔i+1=l.length)/\i+1<=Y.length:=by
 obtain⟨H,K⟩:=jdW h
 have O:=(bH.1 h).1;have q:(l.take (i+1)).length=i+1:=by rw[cQ];omega
 have A:Y.length=i+1+(ja3 win next (l.drop (i+1))).length:=by rw[hY,bI,q]
 refine⟨by rw[hY,H,cE,cO (by rw[cQ];omega),show i - (l.take i).length=0 by rw[cQ];omega];rfl,⟨fun e=>?_,fun e=>?_⟩,by omega⟩
 ·by_cases hd:l.drop (i+1)=[]
  ·have:=congrArg List.length hd
   rw[gX]at this
   have:l.length - (i+1)=0:=this
   omega
  ·have:=jgV (win:=win) (next:=next) hd
   have J:(ja3 win next (l.drop (i+1))).length=0:=vO
   exact absurd (bO J) this
 ·have:ja3 win next (l.drop (i+1))=[]:=by rw[e,fS];rfl
  rw[A,this];rfl
theorem jh1{t T:TypeId}(I:jcw P t T sz by'){w:vW}{a:Act}{c:Nat}{olds news:List vV}(s x:Operand)(hs:a.eval s=.slice (some ad) n n)(hx:a.eval x=.slice (some ad2) m c)
  (h1:∀ j u,olds[j]?=some u->w.cell? (ad.add j)=some u) (h2:∀ j u,news[j]?=some u->w.cell? (ad2.add j)=some u) (hlo:olds.length=n * sz) (hl:news.length=m * sz) (hm:0 < m)
  (ho:o.op=Op.call { callee:=Callee.builtin Builtin.append,args:=#[s,x],argTypes:=#[t,t] }) (h63:n+m<=1000000) (hby:by'<=1000)
  (h:∀ A w',w'.ownsRow w.heap.size T sz A (n+m) (olds++news)->Ext w w'->K (a.put o.dst A) w'):o.wp P a w K Q:=by
 obtain⟨i,z,O,X,Z,e4,e5⟩:=I.hi
 have H:n+m<=maxLen:=by unfold maxLen;omega
 have J:(n+m) * by'<=140737488355328:=bE (Nat.mul_le_mul h63 hby) vI
 obtain⟨A,w',q,r1,r2⟩:=run_append_arg_grows (P:=P) w t o.type T i z sz by' I.ht O X Z e4 e5 I.hsz ad n n olds hlo h1 ad2 m c news hl h2 vO H J
 unfold Oper.wp;simp[execOp,ho,resolve,invoke,builtin,hs,hx,q,Result.andThen];exact h A w' r1 (jac.of_grown r2 (fun r e _=>by cases e))
def LRow(D:Nat->Prop)(w:vW)(b o c:Nat)(X:List VX):Prop:=X.length<=c/\b < w.heap.size/\D b/\∀ j u,(jaY X)[j]?=some u->w.cell? ⟨b,o+j,none⟩=some u
theorem LRow.keeps{w:vW}{b o c:Nat}(h:LRow D w b o c X)(k:jac F w w')(hF:∀ b,D b->¬ F b)(hE:∀ b,D b->E b):LRow E w' b o c X:=
 ⟨h.1,bC h.2.1 k.size,hE b h.2.2.1,fun j u e=>jai (h.2.2.2 j u e) k (hF b h.2.2.1)⟩
theorem jyK{w:vW}{v:vV}(h:VRow D w v l)(hl:l≠[]):∃ X b o c,v=.slice (some ⟨b,o,none⟩) l.length c/\X.map VX.v=l/\jgB D w X/\LRow D w b o c X:=by
 obtain⟨X,A,H,J⟩:=h.g
 rcases h with⟨_,_,_,e⟩ |⟨b,o,c,e1,e2,e3,e4,_⟩
 ·exact absurd e hl
 ·rcases J.at' with⟨_,_,_,e⟩ |⟨b',o',c',k1,k2⟩
  ·exact absurd (bO e) hl
  ·rw[e1]at k1
   obtain⟨q,_,K⟩:=dC k1
   have q:=bP q;injection q with q1 q2 _;subst q1 q2
   exact⟨X,b,o,c,e1,A,H,by rw[show X.length=l.length by rw[<-A,bS]];exact e4,e3,e2,k2⟩
theorem jmN{w:vW}{b o c:Nat}(h:LRow D w b o c X)(hH:jgB D w X):VRow D w (.slice (some ⟨b,o,none⟩) X.length c) (X.map VX.v):=by
 refine .inr ⟨b,o,c,by rw[bS],h.2.2.1,h.2.1,by rw[bS];exact h.1,fun j x q=>?_⟩;rw[bV,cM]at q
 obtain⟨y,A,rfl⟩:=q
 obtain⟨H,J⟩:=hH y (bG A)
 have e:∀ i u,i < 4->y.cells[i]?=some u->w.cell? ⟨b,o+j * 4+i,none⟩=some u:=fun i u hi K=>by
  rw[show o+j * 4+i=o+(j * 4+i) by omega];exact h.2.2.2 _ u (by rw[jek X j y A i hi];exact K)
 exact⟨e 0 _ vI rfl,⟨_,e 1 _ vI rfl,H⟩,⟨_,e 2 _ vI rfl,J⟩,e 3 _ vI rfl⟩
def DD(w:vW)(D:Nat->Prop)(wr:vW):Nat->Prop:=fun b=>D b\/(w.heap.size+2<=b/\b < wr.heap.size)
theorem DD.mono{w wr ws:vW}(h:wr.heap.size<=ws.heap.size):∀ b,DD w D wr b->DD w D ws b:=fun b hb=>hb.imp id fun ⟨e,q⟩=>⟨e,by omega⟩
def CSt(w:vW)(D:Nat->Prop)(M:MdN)(iv:vV)(wr:vW):Prop:=∃ (k:Nat) (X:List VX) (b o c:Nat),k<=M.all.length/\iv=.int .i64 ((k:Int) - 1)/\X.map VX.v=M.all.take k++ja3 M.win M.next (M.all.drop k) /\
 Blk wr w.heap.size (.cells #[.int .i64 (M.win:Int),.int .i64 (M.next:Int),.slice (some ⟨b,o,none⟩) X.length c] 73)/\Blk wr (w.heap.size+1) (.cells #[.int .i64 0,.int .i64 0,.slice none 0 0] 73) /\
 Ext w wr/\w.heap.size+2<=wr.heap.size/\LRow (DD w D wr) wr b o c X/\jgB (DD w D wr) wr X
theorem jme(D:Nat->Prop)(hD:∀ b,D b->b < w.heap.size)(M:MdN)(av:vV)(hv:VRow D w av M.all)(hne:M.all≠[])(hw:M.win<=8)(hnx:M.next<=2000000)(hl:M.all.length<=1000)(hbp:∀ x∈M.all,x.block<=2000000/\x.pins<=2000000) :
  vQ 81 #[modV M av] w fun e w'=>∃ av',e=.returned (modV ⟨M.win,M.next,ja3 M.win M.next M.all⟩ av')/\Ext w w'/\VRow (DD w D w') w' av' (ja3 M.win M.next M.all):=by
 obtain⟨X0,b0,o0,c0,rfl,a8,a9,b1⟩:=jyK hv hne
 obtain⟨n,b4⟩:=vE M.all.length
 rw[<-b4];have HN:=Hd b4;have HD:=Hd hD;have H0:=Hd (bA a8 (bA a9 b1));have HB:=Hd hbp;have e6:=Hd hne;have HW:=Hd (bA hw (bA hnx hl));have d9:=wr64 (x:=(n:Int) - 1) vO vO;unfold modV;clear hv a8 a9 b1 b4 hD hbp hne hw hnx hl;go_enter Tryz.func81,Tryz.ntmps81;go_wp2_with fail
 go_loopw [3] (fun iv wr=>CSt w D M iv wr) (fun iv _=>(intOf iv+1).toNat)
 case atStart =>
  obtain⟨a8,a9,b1⟩:=H0.o
  have hE:=((ExtR w).alloc (.cells #[.int .i64 (M.win:Int),.int .i64 (M.next:Int),.slice (some ⟨b0,o0,none⟩) n c0] 73)).alloc (.cells #[.int .i64 0,.int .i64 0,.slice none 0 0] 73);have J:X0.length=n:=by rw[HN.o, <-a8,bS]
  refine⟨n,X0,b0,o0,c0,Nat.le_of_eq HN.o,rfl,?_,?_,by have:=Blk.new (w.alloc (.cells #[.int .i64 (M.win:Int),.int .i64 (M.next:Int),.slice (some ⟨b0,o0,none⟩) n c0] 73)) (.cells #[.int .i64 0,.int .i64 0,.slice none 0 0] 73);rwa [show (w.alloc (.cells #[.int .i64 (M.win:Int),.int .i64 (M.next:Int),.slice (some ⟨b0,o0,none⟩) n c0] 73)).heap.size=w.heap.size+1 from fX _]at this,hE,Nat.le_of_eq (by show _=(Array.push _ _).size;rw[fX];show _=(Array.push _ _).size+1;rw[fX]),b1.keeps hE (fun _ _ e=>e) (fun _ h=>.inl h),?_⟩
  ·rw[a8,HN.o,cG,fS];simp[ja3]
  ·rw[J];exact (Blk.new w _).alloc _
  ·exact fun x hx=>⟨((a9 x hx).1.keeps hE (fun _ _ e=>e)).mono (fun _ h=>.inl h),((a9 x hx).2.keeps hE (fun _ _ e=>e)).mono (fun _ h=>.inl h)⟩
 case round =>
  obtain⟨k,X,b,o,c,hk,rfl,hX,A,a1,hE,a4,hL,hH⟩:=hrel
  have a5:=Hd (bA hX (bA hL (bA hH (bA hE (bA A (bA a1 a4))))));have m0:=A.cell (i:=0) rfl;have m1:=A.cell (i:=1) rfl;have m2:=A.cell (i:=2) rfl;cases k with
  | zero =>
   have e0:((0:Nat):Int) - 1 = -1:=by decide
   rw[e0];clear hX hL hH hE A a1 a4 hk;have d3:=Hd a5.o.2.2.2.2.2.1;go_wp2_with (refine jad (vs:=[.int .i64 (M.win:Int),.int .i64 (M.next:Int),.slice (some ⟨b,o,none⟩) X.length c]) rfl rfl rfl rfl d3.o rfl Tryz.szMod (by simp[Value.oneCell']) ?_;intro W8 d4 b5)
   refine bodyPost_ret (jbl rfl rfl (jaH W8 (w.heap.size+1) 0 [.int .i64 (M.win:Int),.int .i64 (M.next:Int),.slice (some ⟨b,o,none⟩) X.length c] rfl (fun j v hv=>by rw[bT];exact d4.cellL hv))) rfl ?_
   obtain⟨hX,hL,hH,hE,_,_,a4⟩:=a5.o
   have d5:X.map VX.v=ja3 M.win M.next M.all:=by rw[hX];rfl
   have hF:∀ b,DD w D wr b->¬ b=w.heap.size+1:=fun b hb e=>hb.elim (fun h=>by have:=HD.o b h;omega) (fun h=>by omega);have hs:=b5.size
   refine⟨.slice (some ⟨b,o,none⟩) X.length c,rfl,hE.trans' b5 (fun x hx e=>by have e:x=w.heap.size+1:=e;omega),?_⟩
   have hv:=(jmN hL hH).keeps b5 hF;rw[d5]at hv;exact hv.mono (DD.mono hs)
  | succ i =>
   have e0:((i+1:Nat):Int) - 1=(i:Int):=vO
   rw[e0]
   obtain⟨x,hx⟩:∃ x,M.all[i]?=some x:=⟨_,bB vO⟩
   obtain⟨hy,a2,b6⟩:=jpD hx hX
   have J:(X.map VX.v).length=X.length:=bS _;have a0:X.length<=1000:=by
    have h1:=congrArg List.length hX;rw[J,bI,cQ, ]at h1;have h2:=(jcm (win:=M.win) (next:=M.next) (l:=M.all.drop (i+1))).length_le;rw[gX]at h2
    have:=HW.o.2.2
    have:=HN.o
    omega
   have b7:=Hd (juH wr (DD w D wr) ⟨M.win,M.next,X.map VX.v⟩ (some ⟨b,o,none⟩) c (by have:=jmN hL hH;rw[J];exact this) i x hy (by rw[J];omega) HW.o.1 HW.o.2.1 (HB.o x (bG hx)).1 (HB.o x (bG hx)).2);have b7:Hid (vR 124 #[.agg #[.int .i64 (M.win:Int),.int .i64 (M.next:Int),.slice (some ⟨b,o,none⟩) X.length c],.int .i64 (i:Int)] wr (.bool (decide (i+1=X.length) || jee M.win M.next x))):=Hd (by have:=b7.o;rw[J]at this;exact this);have q:=Hd (bA hx (bA hy (bA a2 (bA b6 (bA J a0)))));clear A a1 hX hL hH hE hx hy a2 b6 J a0;go_wp2_with fail
   refine b7.o.mono ?_;rintro e w2 ⟨rfl,c2⟩;have H:=Hd c2;clear m0 m1 m2 c2
   by_cases hkp:i+1=X.length\/jee M.win M.next x=true
   ·have e1:(decide (i+1=X.length) || jee M.win M.next x)=true:=by
     rcases hkp with h | h
     ·rw[decide_eq_true h];rfl
     ·rw[h,Bool.or_true]
    rw[e1];have a7:=Hd hkp;clear e1 hkp;go_wp2_with fail
    have ew:Go.RowKit.wrap64 ((i:Int) - 1)=(i:Int) - 1:=by have:=q.o.2.2.2;unfold Go.RowKit.wrap64;omega
    rw[ew];go_roundw
    ·obtain⟨hX,hL,hH,hE,A,a1,a4⟩:=a5.o
     have hs:=H.o.size
     refine⟨i,X,b,o,c,by omega,rfl,?_,A.keeps H.o (fun h=>h),a1.keeps H.o (fun h=>h),hE.trans H.o,by omega,hL.keeps H.o (fun _ _ e=>e) (DD.mono hs),fun y hy=>⟨((hH y hy).1.keeps H.o (fun _ _ e=>e)).mono (DD.mono hs),((hH y hy).2.keeps H.o (fun _ _ e=>e)).mono (DD.mono hs)⟩⟩
     rw[hX];exact jnR q.o.1 (a7.o.imp (fun e=>q.o.2.2.1.1 (by rw[q.o.2.2.2.2.1];exact e)) id)
    ·show ((i:Int) - 1+1).toNat < ((i:Int)+1).toNat
     omega
   ·have e1:(decide (i+1=X.length) || jee M.win M.next x)=false:=by
     rw[decide_eq_false (fun h=>hkp (.inl h)),dM.2 (fun h=>hkp (.inr h))];rfl
    rw[e1];have a7:=Hd hkp;clear e1 hkp;go_wp2_with fail
    obtain⟨hX,hL,hH,hE,A,a1,a4⟩:=a5.o
    have A:=A.keeps H.o (fun h=>h);have M2:=Hd (A.cell (i:=2) (v:=.slice (some ⟨b,o,none⟩) X.length c) rfl);have s1:(i:Int)<=(c:Int):=by have:=hL.1;have:=q.o.2.2.2;omega
    have s2:(i:Int)+1<=(X.length:Int):=by have:=q.o.2.2.2;omega
    have s3:(X.length:Int)<=(c:Int):=by have:=hL.1;omega
    have s4:=wr64 (x:=(i:Int)+1) vO (by have:=q.o.2.2.2;omega);clear hX hL hH hE A a1 a4;refine jbm [0,1,2,3,4,5,6,7,8,9,10,11] 12 [10] Ext Ext ExtR ExtT ExtT (fun x y h=>h) vY vY vY ?_
    refine vZ ?_
    refine qZL ⟨w.heap.size,2,none⟩ _ rfl (fun w1 h1=>jag (fun w=>by kernel_rfl) (jaa M2.o (((ExtR w2).drew).trans h1))) ?_;refine vS ?_;iterate 3 refine vZ ?_
    refine vZ ?_
    refine qZL ⟨w.heap.size,2,none⟩ _ rfl (fun w1 h1=>jag (fun w=>by kernel_rfl) (jaa M2.o (((ExtR w2).drew).trans h1))) ?_;refine vS ?_;iterate 3 refine vZ ?_
    refine jcb _ rfl vY rfl (fun wb hb K hK=>?_);have kb:Ext w2 wb:=(jak _).trans hb;have b2:=a5.o.2.1.keeps (H.o.trans kb) (fun _ _ e=>e) (DD.mono (H.o.trans kb).size);have c3:¬ c=i+1:=by
     rcases q.o.2.2.2 with⟨h1,h2,h3⟩
     have:=b2.1
     intro e;exact a7.o (.inl vO)
    have c4:(X.take i).length=i:=by rw[cQ];have:=q.o.2.2.2;omega
    have c5:(X.drop (i+1)).length=X.length - (i+1):=gX;refine jh1 Tryz.sVers (olds:=jaY (X.take i)) (news:=jaY (X.drop (i+1))) (ad:=⟨b,o,none⟩) (ad2:=⟨b,o+(i+1) * 4,none⟩) (n:=i) (m:=X.length - (i+1)) (c:=c - (i+1)) _ _ rfl (by show Value.slice (if c=i+1 then _ else _) _ _=_;rw[if_neg c3]) (fun j u hu=>?_) (fun j u hu=>?_) (by rw[jbP,c4]) (by rw[jbP,c5]) (by have:=q.o.2.2.2;have:¬ i+1=X.length:=fun e=>a7.o (.inl e);omega) rfl (by have:=q.o.2.2.2;omega) vI (fun v' w' r1 r2=>?_)
    ·rw[Go.WideShapes.add_plain]
     refine b2.2.2.2 j u ?_;rw[<-dJ i X,jc2];rw[cR (bH.1 hu).1];exact hu
    ·rw[Go.WideShapes.add_plain,show o+(i+1) * 4+j=o+((i+1) * 4+j) by omega]
     refine b2.2.2.2 _ u ?_;rw[<-dJ (i+1) X,jc2,cO (by rw[jbP,cQ];have:=q.o.2.2.2;omega)];rw[show (i+1) * 4+j - (jaY (X.take (i+1))).length=j by rw[jbP,cQ];have:=q.o.2.2.2;omega];exact hu
    refine hK _ _ r2 ?_;have HS:=Hd (bA kb (bA r1 r2));clear hK K hb kb r1 r2 b2 c3 c4 c5;refine vS ?_
    refine vZ ?_
    refine jcI _ rfl vY rfl (fun wc hc K hK=>?_)
    obtain⟨kb,r1,r2⟩:=HS.o
    have kc:=(H.o.trans (kb.trans (r2.trans hc)));have b8:=(a5.o.2.2.2.2.1).keeps kc (fun h=>h);have q7:=b8.cell (i:=2) (v:=.slice (some ⟨b,o,none⟩) X.length c) rfl;have f7:wc.frozen? ⟨w.heap.size,2,none⟩=false:=b8.frozen;have d6:=Hd (bA kc hc);have d7:=q.o.2.2.2
    obtain⟨g,O,c7,a3,b9,b3⟩:∃ g O,v'=.slice (some ⟨g,0,none⟩) (i+(X.length - (i+1))) O/\i+(X.length - (i+1))<=O/\wb.heap.size<=g/\g < w'.heap.size:=by
     obtain⟨e5,⟨_,h0⟩ |⟨g,O,e7,e,hg,d8,h5,_⟩⟩:=r1
     ·have:¬ i+1=X.length:=fun e=>a7.o (.inl e)
      omega
     ·exact⟨g,O,e,h5,hg,(cX.1 d8).1⟩
    have HG:=Hd (bA a3 (bA b9 b3))
    obtain⟨nl,c1⟩:=vE (i+(X.length - (i+1)))
    rw[<-c1]at c7;have c8:=Hd c1;have e2:=Hd r1;subst c7;clear kb r1 r2 kc b8 d7 a3 b9 b3 c1 hc;go_simp;refine hK _ _ ?_;clear hK K q7 f7;go_wp2_with fail
    have ew:Go.RowKit.wrap64 ((i:Int) - 1)=(i:Int) - 1:=by have:=q.o.2.2.2;unfold Go.RowKit.wrap64;omega
    rw[ew];go_roundw
    ·obtain⟨hX,hL,hH,hE,A,a1,a4⟩:=a5.o
     obtain⟨hx,hy,a2,b6,J,_⟩:=q.o
     obtain⟨kc,hc⟩:=d6.o
     obtain⟨kb,_,r2⟩:=HS.o
     obtain⟨a3,b9,b3⟩:=HG.o
     have Z:=jac.oneSet wc ⟨w.heap.size,2,none⟩ (.slice (some ⟨g,0,none⟩) nl O);have e8:w.heap.size+2<=wb.heap.size:=by have:=(H.o.trans kb).size;omega
     have e3:g≠w.heap.size:=vO
     have c9:wr.heap.size<=(wc.setCell ⟨w.heap.size,2,none⟩ (.slice (some ⟨g,0,none⟩) nl O)).heap.size:=bE kc.size Z.size;have d0:g < (wc.setCell ⟨w.heap.size,2,none⟩ (.slice (some ⟨g,0,none⟩) nl O)).heap.size:=bC b3 (bE hc.size Z.size);have d1:(X.take i++X.drop (i+1)).length=nl:=by rw[c8.o,bI,cQ,gX];omega
     have d2:∀ z,DD w D wr z->¬ z=w.heap.size:=fun z hz e=>hz.elim (fun h=>by have:=HD.o z h;omega) (fun h=>by omega)
     refine⟨i,X.take i++X.drop (i+1),g,0,O,by omega,rfl,?_,?_,?_,?_,by omega,⟨?_,d0,.inr ⟨by omega,d0⟩,fun j u hu=>?_⟩,fun y hy=>?_⟩
     ·rw[bY,iT,List.map_drop]
      exact jnS hx hX (fun e=>a7.o (.inl (by rw[<-J];exact a2.2 e))) (dM.2 fun h=>a7.o (.inr h))
     ·rw[d1]
      exact (A.keeps kc (fun h=>h)).set_same (i:=2) (.slice (some ⟨g,0,none⟩) nl O)
     ·exact (a1.keeps kc (fun h=>h)).set_other (p:=⟨w.heap.size,2,none⟩) (by show w.heap.size+1≠w.heap.size;omega) _
     ·exact (hE.trans kc).trans' Z (fun x hx e=>by have e:x=w.heap.size:=e;omega)
     ·rw[d1,c8.o];exact a3
     ·have:=World.ownsRow.cells e2.o rfl j u (by rw[<-jc2];exact hu)
      rw[Go.WideShapes.add_plain]at this;exact jai (jaa this hc) Z e3
     ·have e4:y∈X:=by
       rcases bQ.1 hy with h | h
       ·exact iA h
       ·exact List.mem_of_mem_drop h
      obtain⟨k1,k2⟩:=hH y e4
      exact⟨((k1.keeps kc (fun _ _ e=>e)).keeps Z d2).mono (DD.mono c9),((k2.keeps kc (fun _ _ e=>e)).keeps Z d2).mono (DD.mono c9)⟩
    ·show ((i:Int) - 1+1).toNat < ((i:Int)+1).toNat
     omega
theorem jtF:((newN window).win:Int)=min (max window 1) 8:=by
 show ((min (max window 1) 8).toNat:Int)=_;omega
theorem jyb :
  vQ 25 #[.int .i64 window] w fun e w'=>∃ av,e=.returned (modV (newN window) av)/\Ext w w'/\VRow (NewB w w') w' av (newN window).all:=by
 have HW:=Hd (jtF window)
 obtain⟨R,O⟩:=vE (newN window)
 have HR:=Hd O;rw[<-O];clear O;go_enter Tryz.func25,Tryz.ntmps25;go_wp2_with (first |(refine jah Tryz.allocMod rfl rfl ?_;intro A H J) |(refine jad (vs:=[.int .i64 (min (max window 1) 8),.int .i64 1,.slice (some ⟨A.heap.size,0,none⟩) 1 1]) rfl rfl rfl rfl (H.alloc _) rfl Tryz.szMod (by simp[Value.oneCell']) ?_;intro W8 X K))
 refine bodyPost_ret (jbl rfl rfl (jaH W8 w.heap.size 0 [.int .i64 (min (max window 1) 8),.int .i64 1,.slice (some ⟨A.heap.size,0,none⟩) 1 1] rfl (fun j v hv=>by rw[bT];exact X.cellL hv))) rfl ?_;have hn:Blk (A.alloc (.cells #[.int .i64 0,.slice none 0 0,.slice none 0 0,.int .i64 0] 86)) A.heap.size (.cells #[.int .i64 0,.slice none 0 0,.slice none 0 0,.int .i64 0] 86):=Blk.new A _;have h1:=H.lt;have q:=hn.keeps K vO;have hE:Ext w W8:=(J.alloc _).trans' K (fun x Z e=>by have e:x=w.heap.size:=e;omega)
 refine⟨.slice (some ⟨A.heap.size,0,none⟩) 1 1,?_,hE,?_⟩
 ·unfold modV
  rw[HR.o,HW.o];rfl
 ·rw[HR.o]
  refine .inr ⟨A.heap.size,0,1,rfl,⟨by have:=J.size;omega,q.lt⟩,q.lt,bL _,fun j x Z=>?_⟩
  have:j=0:=by
   have:=(bH.1 Z).1
   have:j < 1:=this
   omega
  subst this;have e:(⟨0,[],[],0⟩:VerN)=x:=bP Z;subst e
  exact⟨q.cell (i:=0) rfl,⟨.slice none 0 0,q.cell (i:=1) rfl,.inl ⟨none,0,rfl,rfl⟩,fun b e=>by cases e⟩,⟨.slice none 0 0,q.cell (i:=2) rfl,.inl ⟨none,0,rfl,rfl⟩,fun b e=>by cases e⟩,q.cell (i:=3) rfl⟩
theorem Tryz.allocDraft:(Instr.alloc 154 true (.tuple #[])).run Tryz.prog w=.ok (.pointer (some ⟨w.heap.size,0,none⟩)) (w.alloc (.cells [Value.int .i64 0,.slice none 0 0,.slice none 0 0,.int .i64 0,.slice none 0 0].toArray 154)):=vY
theorem Tryz.szDraft:(Tryz.prog.info? 154).map (·.size)=some 5:=vY
structure MB(w:World)(T:Nat)(W:World)(g:Nat)(X:List VX):Prop where
 lo:w.heap.size+2<=g
 gt:g < T
 tw:T<=W.heap.size
 blk:Blk W g (.cells (jaY X).toArray 86)
 hold:jgB (fun b=>w.heap.size+2<=b/\b < T/\b≠g) W X
 ext:Ext w W
theorem MB.keeps{w:vW}(h:MB w T W g X)(k:jac F W W')(hF:∀ b,w.heap.size+2<=b->b < T->¬ F b)(hF':∀ b,b < w.heap.size->¬ F b):MB w T W' g X:=
 ⟨h.lo,h.gt,bE h.tw k.size,h.blk.keeps k (hF g h.lo h.gt),fun x q=>⟨(h.hold x q).1.keeps k fun b hb=>hF b hb.1 hb.2.1,(h.hold x q).2.keeps k fun b hb=>hF b hb.1 hb.2.1⟩,h.ext.trans' k fun x q e=>hF' x q e⟩
theorem MB.more{w:vW}(h:MB w T W g X)(k:Ext W W'):MB w T W' g X:=h.keeps k (fun _ _ _ e=>e) fun _ _ e=>e
theorem MB.side{w:vW}(h:MB w T W g X)(k:jac F W W')(hF:∀ b,F b->b=w.heap.size\/b=w.heap.size+1\/T<=b):MB w T W' g X:=
 h.keeps k (fun b q A e=>by rcases hF b e with h | h | h <;> omega) fun b q e=>by have:=h.lo;have:=h.gt;rcases hF b e with h | h | h <;> omega
theorem MB.vrow{w:vW}(h:MB w T W g X):VRow (fun b=>w.heap.size+2<=b/\b < T) W (.slice (some ⟨g,0,none⟩) X.length X.length) (X.map VX.v):=by
 refine jmN ⟨bL _,h.blk.lt,⟨h.lo,h.gt⟩,fun j u q=>by rw[bT];exact h.blk.cellL q⟩ fun x e=>⟨(h.hold x e).1.mono fun b hb=>⟨hb.1,hb.2.1⟩,(h.hold x e).2.mono fun b hb=>⟨hb.1,hb.2.1⟩⟩
theorem MB.news{w:vW}(h:MB w T W g X)(hn:X.length=n)(hl:X.map VX.v=l):VRow (NewB w W) W (.slice (some ⟨g,0,none⟩) n n) l:=by
 subst hn hl;exact h.vrow.mono fun b hb=>⟨by omega,bC hb.2 h.tw⟩
theorem MB.start{w w1 w2 W3:vW}(h:MOwn w1 w2 g X)(hE:Ext w w1)(hs:w.heap.size+1 < w1.heap.size)(k:jac (fun z=>z=w.heap.size) w2 W3):MB w w2.heap.size W3 g X:=by
 have J:=h.new;have q:∀ b,w1.heap.size<=b->¬ b=w.heap.size:=fun b hb e=>by omega
 refine⟨by omega,h.blk.lt,k.size,h.blk.keeps k (q g J),fun x A=>?_,(hE.trans h.ext).trans' k fun x A e=>by have e:x=w.heap.size:=e;omega⟩
 obtain⟨K,O⟩:=h.hold x A
 have H:∀ b,NewB w1 w2 b/\b≠g->w.heap.size+2<=b/\b < w2.heap.size/\b≠g:=fun b hb=>⟨by have:=hb.1.1;omega,hb.1.2,hb.2⟩
 exact⟨(K.keeps k fun b hb=>q b hb.1.1).mono H,(O.keeps k fun b hb=>q b hb.1.1).mono H⟩
theorem jbx{t u y:Tmp}{ty:TypeId}(h:fn.results=#[.cell t ty,.tmp u,.tmp y]){a:Addr}(ha:tmps.getD t undef=.pointer (some a)){w:vW}{v x z:vV}(hx:tmps.getD u undef=x)(hz:tmps.getD y undef=z)(hl:(loadVar ty a).run P w=.ok v w) :
  (results fn tmps).run P w=.ok (.tuple #[v,x,z]) w:=by
 have e:tmps[t]?.getD undef=.pointer (some a):=by simpa using ha
 have q:tmps[u]?.getD undef=x:=by simpa using hx
 have A:tmps[y]?.getD undef=z:=by simpa using hz
 simp[results,h,e,q,A,asAddr,bK,Result.andThen,hl]
theorem jcz{t u:Tmp}{ty:TypeId}(h:fn.results=#[.cell t ty,.tmp u]){a:Addr}(ha:tmps.getD t undef=.pointer (some a)){w:vW}{v x:vV}(hx:tmps.getD u undef=x)(hl:(loadVar ty a).run P w=.ok v w) :
  (results fn tmps).run P w=.ok (.tuple #[v,x]) w:=by
 have e:tmps[t]?.getD undef=.pointer (some a):=by simpa using ha
 have q:tmps[u]?.getD undef=x:=by simpa using hx
 simp[results,h,e,q,asAddr,bK,Result.andThen,hl]
theorem MdOk.newV{lv:VerN}(h:M.all[M.all.length - 1]?=some lv):jb9 M=lv:=by
 unfold jb9;rw[List.getLast?_eq_getElem?,h];rfl
theorem Tryz.enterMClean:(callFunc 81 args).run Tryz.prog w=.ok (.enter 81 args) w:=vY
def modC(M:MdN)(av:vV):List vV:=[.int .i64 (M.win:Int),.int .i64 (M.next:Int),av]
theorem jpJ(D:Nat->Prop)(M:MdN)(av:vV)(hv:VRow D w av M.all)(hM:MdOk M)(hl:M.all.length<=900)(u:vV)(cs:List Chg)(hu:RdC w u cs)(hnc:cs.length<=1000)(n9:∀ c∈cs,c.key.size<=1000/\c.value.size<=1000) :
  vQ 40 #[modV M av,u] w fun e w'=>∃ j7,e=.returned (.tuple #[modV (jaU M cs).1 j7,.int .i64 ((jaU M cs).2.1:Int),.int .i64 (jaU M cs).2.2])/\Ext w w'/\VRow (NewB w w') w' j7 (jaU M cs).1.all:=by
 obtain⟨a0,c0,rfl⟩:=hv.sl
 have HV:=Hd (bA hv (bA hM (bA hl (bA hu (bA hnc n9)))))
 obtain⟨R,hR⟩:=vE (jaU M cs)
 have HR:=Hd hR;rw[<-hR];unfold modV
 obtain⟨n,k9⟩:=vE M.all.length
 rw[<-k9];have HN:=Hd k9;have s4:n≠0:=by rw[k9];exact fun e=>hM.ne (bO e)
 have w4:n<=900:=by rw[k9];exact hl
 clear hv hR hM hl hu hnc n9 k9;go_enter Tryz.func40,Tryz.ntmps40;go_wp2_with fail
 have i0:=((ExtR w).alloc (.cells #[.int .i64 (M.win:Int),.int .i64 (M.next:Int),.slice a0 n c0] 73)).alloc (.cells #[.int .i64 0,.int .i64 0,.slice none 0 0] 73);have l0:=(Blk.new w (.cells #[.int .i64 (M.win:Int),.int .i64 (M.next:Int),.slice a0 n c0] 73)).alloc (.cells #[.int .i64 0,.int .i64 0,.slice none 0 0] 73);have d0:Blk ((w.alloc (.cells #[.int .i64 (M.win:Int),.int .i64 (M.next:Int),.slice a0 n c0] 73)).alloc (.cells #[.int .i64 0,.int .i64 0,.slice none 0 0] 73)) (w.heap.size+1) (.cells #[.int .i64 0,.int .i64 0,.slice none 0 0] 73):=by
  have:=Blk.new (w.alloc (.cells #[.int .i64 (M.win:Int),.int .i64 (M.next:Int),.slice a0 n c0] 73)) (.cells #[.int .i64 0,.int .i64 0,.slice none 0 0] 73)
  rwa [show (w.alloc (.cells #[.int .i64 (M.win:Int),.int .i64 (M.next:Int),.slice a0 n c0] 73)).heap.size=w.heap.size+1 from fX _]at this
 have j8:=d0.lt;generalize (w.alloc (.cells #[.int .i64 (M.win:Int),.int .i64 (M.next:Int),.slice a0 n c0] 73)).alloc (.cells #[.int .i64 0,.int .i64 0,.slice none 0 0] 73)=w1 at i0 l0 d0 j8 ⊢;have h1:=jlL w1 D M a0 c0 (HV.o.1.ext i0) (by rw[<-HN.o];exact s4) (by have:=HV.o.2.2.1;omega) (fun x hx=>⟨by have:=(ja1 (HV.o.2.1.ver x hx).map).len;omega,by have:=(HV.o.2.1.ver x hx).chgs;omega⟩);rw[<-HN.o]at h1;refine h1.mono ?_;rintro e w2 ⟨g,X,rfl,hX,hO⟩;have l0:=l0.keeps hO.ext (fun h=>h);have d0:=d0.keeps hO.ext (fun h=>h);have s5:=Hd l0;have HO:=Hd (bA hX (bA hO (bA i0 (bA j8 d0))));clear h1 hX hO i0 j8 l0 d0;go_wp2_with (refine jad (vs:=[.int .i64 (M.win:Int),.int .i64 (M.next:Int),.slice (some ⟨g,0,none⟩) n n]) rfl rfl rfl rfl s5.o rfl Tryz.szMod (by simp[Value.oneCell']) ?_;intro W3 l1 o0;have q0:W3.cell? ⟨w.heap.size,0,none⟩=some (.int .i64 (M.win:Int)):=l1.cellL rfl;have q1:W3.cell? ⟨w.heap.size,1,none⟩=some (.int .i64 (M.next:Int)):=l1.cellL rfl;have q2:W3.cell? ⟨w.heap.size,2,none⟩=some (.slice (some ⟨g,0,none⟩) n n):=l1.cellL rfl)
 obtain⟨hX,hO,i0,j8,d0⟩:=HO.o
 have O:X.length=n:=by rw[HN.o, <-hX,bS]
 have H:=MB.start hO i0 j8 o0;have d0:=d0.keeps o0 (fun e=>by have e:w.heap.size+1=w.heap.size:=e;omega);have i1:=H.vrow;rw[hX,O]at i1;have o1:=jjO W3 _ M (some ⟨g,0,none⟩) n (by rw[<-HN.o];exact i1) HV.o.2.1 (by have:=HV.o.2.2.1;omega);rw[<-HN.o]at o1;refine o1.mono ?_;rintro e q ⟨rfl,l2⟩;have i1:=i1.ext l2
 obtain⟨lv,i2,n4⟩:=HV.o.2.1.lastAt
 rw[HN.o]at i1
 obtain⟨b',o',a1,c1,a2,c2,e0,_,p1,_,_,r1,_⟩:=i1.at' i2
 cases e0;have l3:=l1.keeps l2 (fun h=>h);have HB:=Hd (bA hX (bA (H.more l2) (bA l3 (bA (d0.keeps l2 (fun h=>h)) (bA O (bA i2 (bA n4 r1)))))))
 obtain⟨k,hk⟩:∃ k,n=k+1:=⟨n - 1,by omega⟩
 have d9:IntKind.i64.wrap ((n:Int) - 1)=(k:Int):=by rw[wr64 vO vO];omega
 have d7:(k:Int) < (n:Int):=vO
 have d8:(n:Int) - 1=(k:Int):=vO
 have s6:q.cell? ⟨g,k * 4+1,none⟩=some (.slice a1 lv.ents.length c1):=by
  rw[bT, <-HN.o,show n - 1=k by omega]at p1;exact p1
 have s7:q.cell? ⟨w.heap.size,0,none⟩=some (.int .i64 (M.win:Int)):=l3.cellL rfl;have s8:q.cell? ⟨w.heap.size,1,none⟩=some (.int .i64 (M.next:Int)):=l3.cellL rfl;have s9:q.cell? ⟨w.heap.size,2,none⟩=some (.slice (some ⟨g,0,none⟩) n n):=l3.cellL rfl;clear hX hO i0 j8 d0 O H i1 o1 l2 i2 n4 p1 r1 l3 hk q0 q1 q2 l1 o0;go_wp2_with (first |(refine jah Tryz.allocDraft rfl rfl ?_;intro W5 q8 q9) |(refine jad (vs:=[.int .i64 0,.slice none 0 0,.slice none 0 0,.int .i64 0,.slice a1 lv.ents.length c1]) rfl rfl rfl rfl q8 rfl Tryz.szDraft (by simp[Value.oneCell']) ?_;intro W6 o2 r0;have z4:W6.cell? ⟨q.heap.size,4,none⟩=some (.slice a1 lv.ents.length c1):=o2.cellL rfl))
 obtain⟨hX,H,l4,l5,O,i2,n4,r1⟩:=HB.o
 have m3:lv∈M.all:=bG i2;have a7:=HV.o.2.1.ver lv m3;have f6:=H.gt;have f7:=H.tw;have i3:=H.lo;have kd:jac (fun z=>z=q.heap.size) q W6:=(q9.mono fun _ _ e=>e.elim).trans r0;have j0:=H.side kd fun b e=>.inr (.inr (by have e:b=q.heap.size:=e;omega));have m4:=l4.keeps kd vO;have m5:=l5.keeps kd vO;have j9:=r1.1.keeps kd (fun b hb e=>by have h2:=r1.2 b hb;have e:b=q.heap.size:=e;omega);have k0:∀ b,(Value.slice a1 lv.ents.length c1).ownBlock=some b->b < q.heap.size:=fun b hb=>by have h2:=r1.2 b hb;omega
 have r2:=HV.o.2.2.2.1.keeps j0.ext (fun _ _ e=>e);have b5:=(ja1 a7.map).len;have c4:=MdOk.newV i2;have H6:=Hd (bA j0 (bA m4 (bA m5 (bA o2 (bA hX (bA O (bA c4 (bA f6 (bA f7 (bA i3 (bA j9 (bA a7 (bA b5 k0)))))))))))));have r3:=jo3 W6 _ u lv.ents cs j9 r2 vO (by have:=HV.o.2.2.2.2.1;omega) (fun p hp=>by have:=(ja1 a7.map).size p hp;omega) (fun c hc=>by have:=HV.o.2.2.2.2.2 c hc;omega);clear hX H l4 l5 O i2 n4 r1 m3 a7 f6 f7 i3 kd j0 m4 m5 j9 r2 b5 c4 k0 z4 o2 r0 q8 q9 s6 s7 s8 s9 d7 d8 d9;refine r3.mono ?_;rintro e W7 h7;unfold jd8 at h7;clear r3
 by_cases ha:jbL lv.ents cs=0
 ·rw[if_pos ha]at h7
  obtain⟨r,rfl,hr⟩:=h7
  have HA:=Hd (bA ha hr)
  obtain⟨m,hm⟩:=vE (jbV (jca lv.ents cs)).length
  obtain⟨ra,rc,rfl⟩:=hr.sl
  have n5:=Hd hm;rw[<-hm];have b4:Ext W6 W7:=hr.ext;have q1:W7.cell? ⟨w.heap.size,1,none⟩=some (.int .i64 (M.next:Int)):=(H6.o.2.1.keeps b4 (fun h=>h)).cellL rfl;have n6:=Hd (H6.o.2.2.1.keeps b4 (fun h=>h));have i4:=Hd (H6.o.2.1.keeps b4 (fun h=>h));have k3:=Hd b4;clear ha hr hm b4
  by_cases hx:M.next=1048576
  ·have e1:((M.next:Int) == 1048576)=true:=by rw[hx];rfl
   have o3:=Hd hx;clear hx;have q0:W7.cell? ⟨w.heap.size,0,none⟩=some (.int .i64 (M.win:Int)):=i4.o.cellL rfl;have q2:W7.cell? ⟨w.heap.size,2,none⟩=some (.slice (some ⟨g,0,none⟩) n n):=i4.o.cellL rfl;go_wp2_with (refine jad (vs:=[.int .i64 (M.win:Int),.int .i64 (M.next:Int),.slice (some ⟨g,0,none⟩) n n]) rfl rfl rfl rfl n6.o rfl Tryz.szMod (by simp[Value.oneCell']) ?_;intro W8 g6 o4)
   refine bodyPost_ret (jbx rfl rfl rfl rfl (jaH W8 (w.heap.size+1) 0 [.int .i64 (M.win:Int),.int .i64 (M.next:Int),.slice (some ⟨g,0,none⟩) n n] rfl (fun j v hv=>by rw[bT];exact g6.cellL hv))) rfl ?_
   obtain⟨H,_,_,_,hX,O,c4,_⟩:=H6.o
   have a8:=(H.more k3.o).side o4 fun b e=>.inr (.inl e);have l6:R=(M,0,12):=by rw[HR.o];unfold jaU;rw[c4,if_neg (by rw[HA.o.1];simp),if_pos o3.o]
   rw[l6]
   exact⟨_,rfl,a8.ext,a8.news O hX⟩
  ·have e1:((M.next:Int) == 1048576)=false:=by simp;omega
   have o3:=Hd hx;clear hx;have z1:W7.cell? ⟨q.heap.size,0,none⟩=some (.int .i64 0):=(H6.o.2.2.2.1.keeps k3.o (fun h=>h)).cellL rfl;have f1:W7.frozen? ⟨q.heap.size,0,none⟩=false:=(H6.o.2.2.2.1.keeps k3.o (fun h=>h)).frozen;go_wp2_with fail
   obtain⟨H,_,_,o5,hX,O,c4,f6,f7,i3,j9,a7,b5,k0⟩:=H6.o
   obtain⟨ha,hr⟩:=HA.o
   have b4:=k3.o;have t0:q.heap.size < W6.heap.size:=o5.lt;have l7:=je7 ha;have j1:=(ja1 l7).len;have k8:=jac.oneSet W7 ⟨q.heap.size,0,none⟩ (.int .i64 (M.next:Int));have g6:=(o5.keeps b4 (fun h=>h)).set_same (i:=0) (.int .i64 (M.next:Int));have o6:=hr.rd.keeps k8 (fun b hb e=>by have h1:=hr.new b hb;have e:b=q.heap.size:=e;omega);have a8:=(H.more b4).side k8 fun b e=>.inr (.inr (by have e:b=q.heap.size:=e;omega));have j2:=i4.o.keeps k8 (fun e=>by have e:w.heap.size=q.heap.size:=e;omega);have j3:=n6.o.keeps k8 (fun e=>by have e:w.heap.size+1=q.heap.size:=e;omega);have o7:=(j9.ext b4).keeps k8 (fun b hb e=>by
    have e:b=q.heap.size:=e
    have:=k0 b hb
    omega)
   have r4:=k8.size;generalize W7.setCell ⟨q.heap.size,0,none⟩ (.int .i64 (M.next:Int))=W8 at g6 o6 a8 j2 j3 o7 r4 ⊢;have r5:q.heap.size≠g:=vO
   have p4:∀ b,(Value.slice a1 lv.ents.length c1).ownBlock=some b->¬ b=q.heap.size:=fun b hb e=>by have:=k0 b hb;omega
   have w5:m<=40:=by rw[n5.o];exact j1
   have o8:=jj9 W8 _ _ o6 vO;rw[<-n5.o]at o8;have HH:=Hd (bA hX (bA O (bA c4 (bA ha (bA l7 (bA j1 (bA a7 (bA b5 (bA p4 (bA f6 (bA f7 i3)))))))))));have r6:w.heap.size+2<=q.heap.size:=vO
   clear H o5 hX O c4 f6 f7 i3 j9 a7 b5 k0 b4 ha hr t0 l7 j1 k8 f1 q1 z1 e1 r4;refine o8.mono ?_;rintro e W9 ⟨v9,rfl,i5,k4⟩;have d5:=a8.more k4;have n7:=g6.keeps k4 (fun h=>h);have d6:=j2.keeps k4 (fun h=>h);have e2:=j3.keeps k4 (fun h=>h);have l8:=o7.ext k4;have w6:=g6.lt;clear o8 a8 j2 j3 o7 o6 g6 k4
   obtain⟨a9,c9,rfl⟩:=i5.1.sl
   rw[<-n5.o]at i5;rw[<-n5.o];have z1:W9.cell? ⟨q.heap.size,1,none⟩=some (.slice none 0 0):=n7.cell (i:=1) rfl;have f1:W9.frozen? ⟨q.heap.size,1,none⟩=false:=n7.frozen;have b6:=i5.1.keeps (jac.oneSet W9 ⟨q.heap.size,1,none⟩ (.slice a9 m c9)) (fun b hb e=>by have h1:=(i5.2 b hb).1;have e:b=q.heap.size:=e;omega);have Z:=n7.set_same (i:=1) (.slice a9 m c9);have t1:=Z.cell (i:=1) (v:=.slice a9 m c9) rfl;have t2:=Z.cell (i:=4) (v:=.slice a1 lv.ents.length c1) rfl;have H9:=Hd (bA d5 (bA d6 (bA e2 (bA l8 (bA b6 Z)))));have o9:Hid (∀ b,(Value.slice a9 m c9).ownBlock=some b->q.heap.size < b/\b < W9.heap.size):=(fun b hb=>⟨by have:=(i5.2 b hb).1;omega,(i5.2 b hb).2⟩);clear d5 d6 e2 l8 b6 Z i5 n7;go_wp2_with fail
   have m6:=(ja1 HH.o.2.2.2.2.2.2.1.map).size;have m7:=HH.o.2.2.2.2.2.2.2.1;have g7:=HH.o.2.2.2.2.2.1;have m8:=(ja1 HH.o.2.2.2.2.1).size;have k5:=jac.oneSet W9 ⟨q.heap.size,1,none⟩ (.slice a9 m c9)
   obtain⟨d5,d6,e2,l8,b6,Z⟩:=H9.o
   have r7:=Z.lt;have f6:=HH.o.2.2.2.2.2.2.2.2.2.1;have f7:=HH.o.2.2.2.2.2.2.2.2.2.2.1;have e7:=d5.side k5 fun b e=>.inr (.inr (by have e:b=q.heap.size:=e;omega));have e8:=d6.keeps k5 (fun e=>by have e:w.heap.size=q.heap.size:=e;omega);have e9:=e2.keeps k5 (fun e=>by have e:w.heap.size+1=q.heap.size:=e;omega);have j4:=l8.keeps k5 (HH.o.2.2.2.2.2.2.2.2.1);have m9:=k5.size;generalize W9.setCell ⟨q.heap.size,1,none⟩ (.slice a9 m c9)=W10 at Z b6 e7 e8 e9 j4 m9 r7 ⊢;have r8:=juy W10 _ _ lv.ents (jbV (jca lv.ents cs)) j4 b6 vO vO (fun p hp=>by have:=m6 p hp;omega) (fun p hp=>by have:=m8 p hp;omega);have l9:=jis m7 g7;refine r8.mono ?_;rintro e k6 ⟨w7,rfl,b7⟩
   obtain⟨d1,d2,rfl⟩:=b7.sl
   have b8:=b7.ext;have f8:=Z.keeps b8 (fun h=>h);have g8:=e8.keeps b8 (fun h=>h);have g9:=e9.keeps b8 (fun h=>h);have h3:=e7.more b8;have f5:=b6.ext b8;have b0:=b7.new;have p5:=Z.lt
   obtain⟨m2,m0⟩:=vE (jdd lv.ents (jbV (jca lv.ents cs))).length
   rw[<-m0]at b7 l9 b0 ⊢;have z2:k6.cell? ⟨q.heap.size,2,none⟩=some (.slice none 0 0):=f8.cell (i:=2) rfl;have f2:k6.frozen? ⟨q.heap.size,2,none⟩=false:=f8.frozen;have c8:=f8.set_same (i:=2) (.slice d1 m2 d2);have i6:=jac.oneSet k6 ⟨q.heap.size,2,none⟩ (.slice d1 m2 d2);have h4:=h3.side i6 fun b e=>.inr (.inr (by have e:b=q.heap.size:=e;omega));have h6:=g8.keeps i6 (fun e=>by have e:w.heap.size=q.heap.size:=e;omega);have h8:=g9.keeps i6 (fun e=>by have e:w.heap.size+1=q.heap.size:=e;omega);have e4:=f5.keeps i6 (fun b hb e=>by have:=(o9.o b hb).1;have e:b=q.heap.size:=e;omega);have e5:=b7.rdT.keeps i6 (fun b hb e=>by have:=b0 b hb;have e:b=q.heap.size:=e;omega);have a3:∀ b,(Value.slice a9 m c9).ownBlock=some b->w.heap.size+2<=b/\b < k6.heap.size:=fun b hb=>⟨by have:=(o9.o b hb).1;omega,by have:=(o9.o b hb).2;have:=b8.size;have:=H9.o.2.2.2.2.2.lt;omega⟩;have a4:∀ b,(Value.slice d1 m2 d2).ownBlock=some b->w.heap.size+2<=b/\b < k6.heap.size:=fun b hb=>⟨by have:=b0 b hb;omega,b7.lt b hb⟩;have e6:=i6.size;clear m6 m7 g7 m8 k5 d5 d6 e2 l8 r7 e7 e8 e9 j4 m9 r8 Z b6 b8 f8 g8 g9 h3 f5 b0 p5 b7 i6 f6 f7 z1 t1 t2 f1;have i7:=Hd (bA h4 (bA h6 (bA h8 (bA e4 (bA e5 (bA c8 (bA a3 (bA a4 (bA e6 (bA m0 l9))))))))));clear h4 h6 h8 e4 e5 c8 a3 a4 e6 m0 l9;have O:=HH.o.2.1;have r9:(jaY X).length=n * 4:=by rw[jbP,O]
   have t3:=Hd r9;have t4:∃ d,d=q.heap.size:=⟨_,rfl⟩;have HT:=Hd (bA r6 r5);clear r9 O t4;go_wp2_with (first
    |(refine jc0 rfl q.heap.size 2 (.slice d1 m2 d2) rfl rfl rfl rfl vY z2 f2 ?_;intro d3 b9
      have y0:d3.cell? ⟨q.heap.size,0,none⟩=some (.int .i64 (M.next:Int)):=by rw[b9];exact i7.o.2.2.2.2.2.1.cell (i:=0) rfl
      have y1:d3.cell? ⟨q.heap.size,1,none⟩=some (.slice a9 m c9):=by rw[b9];exact i7.o.2.2.2.2.2.1.cell (i:=1) rfl
      have y2:d3.cell? ⟨q.heap.size,2,none⟩=some (.slice d1 m2 d2):=by rw[b9];exact i7.o.2.2.2.2.2.1.cell (i:=2) rfl
      have y3:d3.cell? ⟨q.heap.size,3,none⟩=some (.int .i64 0):=by rw[b9];exact i7.o.2.2.2.2.2.1.cell (i:=3) rfl
      have b2:d3.cell? ⟨w.heap.size,2,none⟩=some (.slice (some ⟨g,0,none⟩) n n):=by rw[b9];exact i7.o.2.1.cell (i:=2) rfl
      have i8:=i7;rw[<-b9]at i8;clear b9 i7)
    |(at_builtin
      refine wpList_plain rfl fun KK s0=>jh1 Tryz.sVers (olds:=jaY X) (news:=[.int .i64 (M.next:Int),.slice a9 m c9,.slice d1 m2 d2,.int .i64 0]) (ad:=⟨g,0,none⟩) (ad2:=⟨d3.heap.size,0,none⟩) (n:=n) (m:=1) (c:=1) _ _ rfl rfl (fun j u hu=>by rw[Go.WideShapes.add_plain,bT];exact (i8.o.1.blk.alloc _).cellL hu) (jg3 d3 _ [.int .i64 (M.next:Int),.slice a9 m c9,.slice d1 m2 d2,.int .i64 0]) t3.o rfl vI rfl vO vI (fun t5 c5 i9 n0=>s0 _ _ ?_);clear KK s0;have A:=(((ExtR d3).alloc (.cells [.int .i64 (M.next:Int),.slice a9 m c9,.slice d1 m2 d2,.int .i64 0].toArray 86)).trans n0);have b2:c5.cell? ⟨w.heap.size,2,none⟩=some (.slice (some ⟨g,0,none⟩) n n):=(i8.o.2.1.keeps A (fun h=>h)).cell (i:=2) rfl;have b1:c5.cell? ⟨w.heap.size,1,none⟩=some (.int .i64 (M.next:Int)):=(i8.o.2.1.keeps A (fun h=>h)).cell (i:=1) rfl;have fb:c5.frozen? ⟨w.heap.size,2,none⟩=false:=(i8.o.2.1.keeps A (fun h=>h)).frozen;have t6:c5.frozen? ⟨w.heap.size,1,none⟩=false:=(i8.o.2.1.keeps A (fun h=>h)).frozen;have t7:=Hd (bA i9 A)
      obtain⟨c7,J,p6⟩:∃ c7 J,t5=.slice (some ⟨c7,0,none⟩) (n+1) J:=by
       obtain⟨_,⟨_,h0⟩ |⟨g',s1,t8,e,_⟩⟩:=i9
       ·omega
       ·exact⟨g',s1,e⟩
      subst p6;clear i9 n0 A))
   obtain⟨i9,A⟩:=t7.o
   obtain⟨H,l4,l5,e4,e5,c8,a3,a4,e6,m0,l9⟩:=i8.o
   have w8:=HV.o.2.1.next;rw[show Go.RowKit.wrap64 ((M.next:Int)+1)=(M.next:Int)+1 by unfold Go.RowKit.wrap64;omega];have h9:=(l4.keeps A (fun h=>h)).set_same (i:=2) (.slice (some ⟨c7,0,none⟩) (n+1) J);have f0:=h9.set_same (i:=1) (.int .i64 ((M.next:Int)+1));have d4:=(jac.oneSet c5 ⟨w.heap.size,2,none⟩ (.slice (some ⟨c7,0,none⟩) (n+1) J)).trans (jac.oneSet (c5.setCell ⟨w.heap.size,2,none⟩ (.slice (some ⟨c7,0,none⟩) (n+1) J)) ⟨w.heap.size,1,none⟩ (.int .i64 ((M.next:Int)+1)));generalize (c5.setCell ⟨w.heap.size,2,none⟩ (.slice (some ⟨c7,0,none⟩) (n+1) J)).setCell ⟨w.heap.size,1,none⟩ (.int .i64 ((M.next:Int)+1))=W16 at f0 d4 ⊢;have d4:jac (fun z=>z=w.heap.size) c5 W16:=d4
   obtain⟨n1,t9,p0⟩:n+1<=J/\d3.heap.size<=c7/\c7 < c5.heap.size:=by
    have h0:=((ExtR d3).alloc (.cells [.int .i64 (M.next:Int),.slice a9 m c9,.slice d1 m2 d2,.int .i64 0].toArray 86)).size
    obtain⟨_,⟨_,h0⟩ |⟨g',s1,t8,e,hg,v0,h5,_⟩⟩:=i9
    ·omega
    ·obtain⟨e1,_,e3⟩:=dC e
     have e1:=congrArg Addr.block (bP e1);have e1:c7=g':=e1;subst e1 e3
     exact⟨h5,bE h0 hg,(cX.1 v0).1⟩
   have i3:=H.lo;have f6:=H.gt;have f7:=H.tw
   obtain⟨r6,r5⟩:=HT.o
   have p7:=c8.lt;have p8:=A.size;have f3:=(l5.keeps A (fun h=>h)).keeps d4 vO;have n2:=(c8.keeps A (fun h=>h)).keeps d4 vO;have f4:=(H.more A).side d4 fun b e=>.inl e;have f9:=d4.size
   obtain⟨hX,O,c4,ha,l7,_,a7,b5,_⟩:=HH.o
   have v1:∃ nx:VX,nx=⟨⟨M.next,jbV (jca lv.ents cs),jdd lv.ents (jbV (jca lv.ents cs)),0⟩,.slice a9 m c9,.slice d1 m2 d2⟩:=⟨_,rfl⟩
   obtain⟨nx,g0⟩:=v1
   have s2:jaY X++[.int .i64 (M.next:Int),.slice a9 m c9,.slice d1 m2 d2,.int .i64 0]=jaY (X++[nx]):=by
    rw[jc2,g0];rfl
   have n8:(X++[nx]).length=n+1:=by rw[bI,O];rfl
   have v2:∀ b,(w.heap.size+2<=b/\b < c5.heap.size)->¬ b=w.heap.size:=fun b hb e=>by omega
   have hL:LRow (fun b=>w.heap.size+2<=b/\b < c5.heap.size) W16 c7 0 J (X++[nx]):=by
    refine⟨by rw[n8];exact n1,bC p0 f9,⟨by omega,p0⟩,fun j u hu=>?_⟩
    have:=World.ownsRow.cells i9 rfl j u (by rw[s2];exact hu)
    rw[Go.WideShapes.add_plain]at this;exact jai this d4 (by show ¬ c7=w.heap.size;omega)
   have j6:k6.heap.size<=d3.heap.size:=e6;have hH:jgB (fun b=>w.heap.size+2<=b/\b < c5.heap.size) W16 (X++[nx]):=fun x hx=>by
    rcases bQ.1 hx with hx | hx
    ·obtain⟨k1,k2⟩:=f4.hold x hx
     exact⟨k1.mono fun b hb=>⟨hb.1,by have:=hb.2.1;omega⟩,k2.mono fun b hb=>⟨hb.1,by have:=hb.2.1;omega⟩⟩
    ·rw[bM.1 hx,g0]
     exact⟨⟨(e4.ext A).keeps d4 (fun b hb e=>by have:=(a3 b hb).1;have e:b=w.heap.size:=e;omega),fun b hb=>⟨(a3 b hb).1,by have:=(a3 b hb).2;omega⟩⟩,
      ⟨(e5.ext A).keeps d4 (fun b hb e=>by have:=(a4 b hb).1;have e:b=w.heap.size:=e;omega),fun b hb=>⟨(a4 b hb).1,by have:=(a4 b hb).2;omega⟩⟩⟩
   have g2:=jmN hL hH;rw[n8]at g2
   obtain⟨a5,g3⟩:=vE ((X++[nx]).map VX.v)
   have b3:a5=M.all++[⟨M.next,jbV (jca lv.ents cs),jdd lv.ents (jbV (jca lv.ents cs)),0⟩]:=by rw[g3,bY,hX,g0];rfl
   rw[<-g3]at g2;have p2:a5.length=n+1:=by rw[g3,bS];exact n8
   have p9:=HV.o.2.1.win;have s3:∀ wb,Ext W16 wb->vQ 81 #[.agg #[.int .i64 (M.win:Int),.int .i64 ((M.next:Int)+1),.slice (some ⟨c7,0,none⟩) (n+1) J]] wb fun e w'=>∃ j7,e=.returned (.agg #[.int .i64 (M.win:Int),.int .i64 ((M.next:Int)+1),j7])/\Ext wb w'/\VRow (DD wb (fun b=>w.heap.size+2<=b/\b < c5.heap.size) w') w' j7 (ja3 M.win (M.next+1) a5):=fun wb kb =>
    jme wb (fun b=>w.heap.size+2<=b/\b < c5.heap.size) (fun b hb=>by have:=hb.2;have:=kb.size;omega) ⟨M.win,M.next+1,a5⟩ _ (g2.ext kb) (fun e=>by have e:a5=[]:=e;rw[e]at p2;cases p2) (by show M.win<=8;omega) (by show M.next+1<=2000000;omega) (by show a5.length<=1000;omega) (fun x hx=>by
     have hx:x∈a5:=hx;rw[b3]at hx;rcases bQ.1 hx with hx | hx
     ·have h1:=HV.o.2.1.less x hx
      have h2:=(HV.o.2.1.ver x hx).pins
      exact⟨by omega,by omega⟩
     ·rw[bM.1 hx]
      exact⟨by show M.next<=_;omega,cB _⟩)
   have q3:=Hd s3;have j5:=Hd (bA f0 (bA f3 n2));have q4:=Hd (bA f4.ext (bA f9 (bA b3 (bA c4 ha))));have n3:w.heap.size+1 < W16.heap.size:=f3.lt;have v3:=Hd n3;clear H l4 l5 e4 e5 c8 a3 a4 e6 m0 l9 h9 f0 d4 n1 t9 p0 i3 f6 f7 p7 p8 f3 n2 f4 f9 hX O c4 ha l7 a7 b5 g0 s2 n8 v2 hL j6 hH g2 g3 b3 p2 p9 s3 i9 A b2 b1 fb t6 n3;refine jau [0,2,3,4,1,5,6,7] [1,5] Ext (jac (fun z=>z=w.heap.size+1)) ExtR ExtT (fun x y z h k=>jac.trans h k) (fun x y h=>h.mono (fun _ _ h=>h.elim)) vY vY vY ?_;refine qDL ⟨w.heap.size,0,none⟩ _ rfl (fun w1 h1=>jcL w1 w.heap.size 0 [.int .i64 (M.win:Int),.int .i64 ((M.next:Int)+1),.slice (some ⟨c7,0,none⟩) (n+1) J] rfl (fun j v hv=>by rw[bT];exact ((j5.o.1.drew).keeps h1 vO).cellL hv)) ?_;refine vS ?_;iterate 2 refine vD ?_
   refine qDL ⟨q.heap.size,0,none⟩ (.int .i64 (M.next:Int)) rfl (fun w1 h1=>jag (fun w=>by kernel_rfl) (((j5.o.2.2.drew).keeps h1 vO).cell (i:=0) rfl)) ?_;refine vS ?_;refine qDH _ rfl (fun wb hb K hK=>?_);have kb:Ext W16 wb:=(jak _).trans hb;refine jaT (jal Tryz.enterMClean vY) ((q3.o wb kb).mono ?_);rintro e w2 ⟨j7,rfl,k7,m1⟩
   refine⟨_,rfl,hK _ _ (k7.mono (fun _ _ h=>h.elim)) ?_⟩
   obtain⟨a2,c2,q5⟩:=m1.sl
   subst q5;have HS:=Hd (bA kb (bA k7 m1));clear hK K hb kb k7 m1;refine vS ?_;refine qDH _ rfl (fun wc hc K hK=>?_);have kc:Ext W16 wc:=HS.o.1.trans (HS.o.2.1.trans hc);refine jdl (vs:=[.int .i64 (M.win:Int),.int .i64 ((M.next:Int)+1),.slice a2 (ja3 M.win (M.next+1) a5).length c2]) rfl rfl rfl (j5.o.2.1.keeps kc (fun h=>h)) rfl Tryz.szMod (by simp[Value.oneCell']) (fun w9 g4 c3=>hK _ _ c3 ?_);have q6:=Hd (bA hc (bA g4 c3));clear hK K hc kc g4 c3;refine vS ?_;iterate 2 refine vD ?_
   refine qDE (fun v4 g5=>?_);go_wp2_with fail
   obtain⟨hc,g4,c3⟩:=q6.o
   obtain⟨kb,k7,m1⟩:=HS.o
   obtain⟨v5,f9,b3,c4,ha⟩:=q4.o
   have x0:=v3.o;have q7:=g4.keeps g5 (fun h=>h);refine bodyPost_ret (jbx rfl rfl rfl rfl (jaH v4 (w.heap.size+1) 0 [.int .i64 (M.win:Int),.int .i64 ((M.next:Int)+1),.slice a2 (ja3 M.win (M.next+1) a5).length c2] rfl (fun j v hv=>by rw[bT];exact q7.cellL hv))) rfl ?_;have l6:R=(⟨M.win,M.next+1,ja3 M.win (M.next+1) a5⟩,M.next,0):=by
    rw[HR.o,b3];unfold jaU;rw[c4,if_neg (by rw[ha];simp),if_neg o3.o]
   rw[l6];have x1:=kb.size;have x2:=k7.size;have n9:=hc.size;have v8:=c3.size;have w3:=g5.size;have v6:Ext w wc:=v5.trans (kb.trans (k7.trans hc))
   refine⟨_,rfl,(v6.trans' c3 fun x hx e=>by have e:x=w.heap.size+1:=e;omega).trans g5,?_⟩
   refine (((m1.ext hc).keeps c3 (fun b hb e=>?_)).ext g5).mono fun b hb=>?_
   ·have e:b=w.heap.size+1:=e
    rcases hb with⟨h,_⟩ |⟨h,_⟩ <;> omega
   ·rcases hb with⟨h1,h2⟩ |⟨h1,h2⟩
    ·exact⟨by omega,by omega⟩
    ·exact⟨by omega,by omega⟩
 ·rw[if_neg ha]at h7
  obtain⟨rfl,b4⟩:=h7
  have HA:=Hd ha
  obtain⟨er,p3⟩:=vE (jbL lv.ents cs)
  have v7:=Hd p3;rw[<-p3]at ha ⊢;have e1:(er != 0)=true:=by simpa using ha
  have n6:=Hd (H6.o.2.2.1.keeps b4 (fun h=>h));have i4:=Hd (H6.o.2.1.keeps b4 (fun h=>h));have k3:=Hd b4;have q0:W7.cell? ⟨w.heap.size,0,none⟩=some (.int .i64 (M.win:Int)):=i4.o.cellL rfl;have q1:W7.cell? ⟨w.heap.size,1,none⟩=some (.int .i64 (M.next:Int)):=i4.o.cellL rfl;have q2:W7.cell? ⟨w.heap.size,2,none⟩=some (.slice (some ⟨g,0,none⟩) n n):=i4.o.cellL rfl;clear ha p3 b4;go_wp2_with (refine jad (vs:=[.int .i64 (M.win:Int),.int .i64 (M.next:Int),.slice (some ⟨g,0,none⟩) n n]) rfl rfl rfl rfl n6.o rfl Tryz.szMod (by simp[Value.oneCell']) ?_;intro W8 g6 o4)
  refine bodyPost_ret (jbx rfl rfl rfl rfl (jaH W8 (w.heap.size+1) 0 [.int .i64 (M.win:Int),.int .i64 (M.next:Int),.slice (some ⟨g,0,none⟩) n n] rfl (fun j v hv=>by rw[bT];exact g6.cellL hv))) rfl ?_
  obtain⟨H,_,_,_,hX,O,c4,_⟩:=H6.o
  have a8:=(H.more k3.o).side o4 fun b e=>.inr (.inl e);have l6:R=(M,0,er):=by rw[HR.o];unfold jaU;rw[c4,if_pos HA.o,v7.o]
  rw[l6]
  exact⟨_,rfl,a8.ext,a8.news O hX⟩
end
section
open Go Go.RowKit
attribute [local go_sem] Oper.semAt_some
def idxP:Option Nat->Int | some i=>i | none => -1
def IsBk(f:FuncId):Prop:=∀ (w:vW) (vb:Nat) (a1:Option Addr) (n1 c1:Nat) (a2:Option Addr) (n2 c2:Nat) (p:Int) (g:Nat) (bk:Int),w.cell? ⟨g,0,none⟩=some (.int .i64 bk)->vR f #[.agg #[.int .i64 (vb:Int),.slice a1 n1 c1,.slice a2 n2 c2,.int .i64 p],.pointer (some ⟨g,0,none⟩)] w (.bool (decide ((vb:Int)=bk)))
theorem jm5{x:VerN}(hall:∀ v∈l.take i,(v.block:Int)≠bk)(hi:l[i]?=some x)(hx:(x.block:Int)=bk):jbG l bk=some i:=by
 unfold jbG;rw[fK]
 obtain⟨e,q⟩:=bH.1 hi
 refine⟨e,by rw[q];exact decide_eq_true hx,fun j A=>?_⟩
 have:=hall l[j] (List.mem_take_iff_getElem.2 ⟨j,by omega,rfl⟩)
 simpa using this
theorem jm6(hall:∀ v∈l,(v.block:Int)≠bk):jbG l bk=none:=by
 unfold jbG;rw[List.findIdx?_eq_none_iff];exact fun v e=>by simpa using hall v e
theorem jk3{x:VerN}(hall:∀ v∈l.take i,(v.block:Int)≠bk)(hi:l[i]?=some x)(hx:¬(x.block:Int)=bk):∀ v∈l.take (i+1),(v.block:Int)≠bk:=fun v e=>by
 rw[bX,hi]at e;rcases bQ.1 e with e | e
 ·exact hall v e
 ·have e:v∈[x]:=e
  rw[bM.1 e];exact hx
theorem jxy:IsBk 65:=by
 intro w e A H J K O X p g bk q;have Z:=jaa q ((ExtR w).alloc (.cells #[.int .i64 (e:Int),.slice A H J,.slice K O X,.int .i64 p] 86));have E:=Hd (show ((e:Int) == bk)=decide ((e:Int)=bk)from by
  by_cases h:(e:Int)=bk <;> simp[h])
 clear q;go_enter Tryz.func65,Tryz.ntmps65;go_wp2_with fail
 go_ret
 exact⟨by rw[<-E.o];rfl,(ExtR w).alloc _⟩
theorem jpC:IsBk 74:=by
 intro w e A H J K O X p g bk q;have Z:=jaa q ((ExtR w).alloc (.cells #[.int .i64 (e:Int),.slice A H J,.slice K O X,.int .i64 p] 86));have E:=Hd (show ((e:Int) == bk)=decide ((e:Int)=bk)from by
  by_cases h:(e:Int)=bk <;> simp[h])
 clear q;go_enter Tryz.func74,Tryz.ntmps74;go_wp2_with fail
 go_ret
 exact⟨by rw[<-E.o];rfl,(ExtR w).alloc _⟩
theorem jyf:IsBk 152:=by
 intro w e A H J K O X p g bk q;have Z:=jaa q ((ExtR w).alloc (.cells #[.int .i64 (e:Int),.slice A H J,.slice K O X,.int .i64 p] 86));have E:=Hd (show ((e:Int) == bk)=decide ((e:Int)=bk)from by
  by_cases h:(e:Int)=bk <;> simp[h])
 clear q;go_enter Tryz.func152,Tryz.ntmps152;go_wp2_with fail
 go_ret
 exact⟨by rw[<-E.o];rfl,(ExtR w).alloc _⟩
def jwS(w:vW)(l:List VerN)(bk:Int)(v:vV)(wr:vW):Prop:=∃ i:Nat,i<=l.length/\v=.int .i64 i/\Ext w wr/\∀ x∈l.take i,(x.block:Int)≠bk
theorem jmG(f:FuncId)(hf:IsBk f)(hent:∀ args w,(callFunc f args).run Tryz.prog w=.ok (.enter f args) w)(w:vW)(D:Nat->Prop)(a:Option Addr)(c:Nat)(l:List VerN)(hv:VRow D w (.slice a l.length c) l)(hl:l.length<=100000)(g:Nat)(bk:Int)(hk:w.cell? ⟨g,0,none⟩=some (.int .i64 bk)) :
  vR 64 #[.slice a l.length c,.func (.func f) #[] #[.pointer (some ⟨g,0,none⟩)]] w (.int .i64 (idxP (jbG l bk))):=by
 have Z:=Hd hv;have HK:=Hd hk;have HF:=Hd hf;clear hv hk hf;go_enter Tryz.func64,Tryz.ntmps64;go_wp2_with fail
 go_loopw [8] (fun i wr=>jwS w l bk i wr) (fun i _=>l.length - (intOf i).toNat)
 case atStart=>exact⟨0,by omega,rfl,ExtR w,fun p hp=>by simp at hp⟩
 case round =>
  obtain⟨i,hi,rfl,J,q⟩:=hrel
  have K:=Hd J;have e:=Hd q;clear J q
  by_cases hlt:i < l.length
  ·obtain⟨x,O⟩:∃ x,l[i]?=some x:=⟨_,bB hlt⟩
   obtain⟨b,o,a1,c1,a2,c2,rfl,q0,q1,q2,q3,_,_⟩:=(Z.o.ext K.o).at' O
   have X:=Hd O;have b1:(i:Int) < (l.length:Int):=vO
   clear O;go_wp2_with fail
   refine vH (HF.o wr x.block a1 _ c1 a2 _ c2 _ g bk (jaa HK.o K.o)) fun w3 J=>?_;have A:=Hd (K.o.trans J);clear q0 q1 q2 q3
   by_cases hq:(x.block:Int)=bk
   ·have H:=Hd (jm5 e.o X.o hq)
    rw[decide_eq_true hq];clear hq;go_wp2_with fail
    go_ret
    exact⟨by rw[H.o];rfl,A.o⟩
   ·have H:=Hd (jk3 e.o X.o hq)
    rw[decide_eq_false hq];clear hq;go_wp2_with fail
    go_roundw
    case rel=>exact⟨i+1,by omega,by go_num,A.o,H.o⟩
    case measure=>exact vJ
  ·obtain rfl:i=l.length:=vO
   have H:=Hd (jm6 (bk:=bk) (by have:=e.o;rwa [cG]at this));go_wp2_with fail
   go_ret
   exact⟨by rw[H.o];rfl,K.o⟩
def hasB(l:List VerN)(bk:Int):Bool:=(jbG l bk).isSome
theorem jlk(f:FuncId)(hf:IsBk f)(hent:∀ args w,(callFunc f args).run Tryz.prog w=.ok (.enter f args) w)(w:vW)(D:Nat->Prop)(a:Option Addr)(c:Nat)(l:List VerN)(hv:VRow D w (.slice a l.length c) l)(hl:l.length<=100000)(g:Nat)(bk:Int)(hk:w.cell? ⟨g,0,none⟩=some (.int .i64 bk)) :
  vR 73 #[.slice a l.length c,.func (.func f) #[] #[.pointer (some ⟨g,0,none⟩)]] w (.bool (hasB l bk)):=by
 have J:=Hd (jmG f hf hent w D a c l hv hl g bk hk);clear hv hk hf;go_enter Tryz.func73,Tryz.ntmps73;go_wp2_with fail
 refine J.o.mono ?_;rintro e w1 ⟨rfl,A⟩;have H:=Hd A;clear A;cases hp:jbG l bk with
 | none =>
  have q:=Hd hp;clear hp;rw[show idxP none = -1 from rfl];go_wp2_with fail
  go_ret
  exact⟨by unfold hasB;rw[q.o];rfl,H.o⟩
 | some i =>
  have q:=Hd hp;clear hp;rw[show idxP (some i)=(i:Int)from rfl];have K:(0:Int)<=(i:Int):=vO
  go_wp2_with fail
  go_ret
  exact⟨by unfold hasB;rw[q.o];rfl,H.o⟩
theorem jtS(f:FuncId)(hf:IsBk f)(hent:∀ args w,(callFunc f args).run Tryz.prog w=.ok (.enter f args) w)(w:vW)(D:Nat->Prop)(win nx:Int)(a:Option Addr)(c:Nat)(l:List VerN)(hv:VRow D w (.slice a l.length c) l)(hl:l.length<=100000)(g:Nat)(bk:Int)(hk:w.cell? ⟨g,0,none⟩=some (.int .i64 bk)) :
  vR 151 #[.agg #[.int .i64 win,.int .i64 nx,.slice a l.length c],.func (.func f) #[] #[.pointer (some ⟨g,0,none⟩)]] w (.int .i64 (idxP (jbG l bk))):=by
 have Z:=Hd hv;have HK:=Hd hk;have HF:=Hd hf;clear hv hk hf;go_enter Tryz.func151,Tryz.ntmps151;go_wp2_with fail
 go_loopw [10] (fun i wr=>jwS w l bk i wr) (fun i _=>l.length - (intOf i).toNat)
 case atStart=>exact⟨0,by omega,rfl,(ExtR w).alloc _,fun p hp=>by simp at hp⟩
 case round =>
  obtain⟨i,hi,rfl,J,q⟩:=hrel
  have K:=Hd J;have e:=Hd q;clear J q
  by_cases hlt:i < l.length
  ·obtain⟨x,O⟩:∃ x,l[i]?=some x:=⟨_,bB hlt⟩
   obtain⟨b,o,a1,c1,a2,c2,rfl,q0,q1,q2,q3,_,_⟩:=(Z.o.ext K.o).at' O
   have X:=Hd O;have b1:(i:Int) < (l.length:Int):=vO
   clear O;go_wp2_with fail
   refine vH (HF.o _ x.block a1 _ c1 a2 _ c2 _ g bk (jaa (jaa HK.o K.o) ((ExtR wr).alloc _))) fun w3 J=>?_;have A:=Hd ((K.o.trans ((ExtR wr).alloc _)).trans J);clear q0 q1 q2 q3
   by_cases hq:(x.block:Int)=bk
   ·have H:=Hd (jm5 e.o X.o hq)
    rw[decide_eq_true hq];clear hq;go_wp2_with fail
    go_ret
    exact⟨by rw[H.o];rfl,A.o⟩
   ·have H:=Hd (jk3 e.o X.o hq)
    rw[decide_eq_false hq];clear hq;go_wp2_with fail
    go_roundw
    case rel=>exact⟨i+1,by omega,by go_num,A.o,H.o⟩
    case measure=>exact vJ
  ·obtain rfl:i=l.length:=vO
   have H:=Hd (jm6 (bk:=bk) (by have:=e.o;rwa [cG]at this));go_wp2_with fail
   go_ret
   exact⟨by rw[H.o];rfl,K.o⟩
theorem juK(D:Nat->Prop)(win nx:Int)(a:Option Addr)(c:Nat)(l:List VerN)(hv:VRow D w (.slice a l.length c) l)(hl:l.length<=100000)(bk:Int) :
  vR 107 #[.agg #[.int .i64 win,.int .i64 nx,.slice a l.length c],.int .i64 bk] w (.int .i64 (idxP (jbG l bk))):=by
 have K:∀ (fn:Fn) (first cap:Array vV) (w:vW),(Instr.makeFunc fn first cap).run Tryz.prog w=.ok (.func fn first cap) w:=fun _ _ _ _=>rfl;have Z:=Hd hv;have q:=((ExtR w).alloc (.cells #[.int .i64 win,.int .i64 nx,.slice a l.length c] 73)).alloc (.cells #[.int .i64 bk] 3);have A:=Blk.new (w.alloc (.cells #[.int .i64 win,.int .i64 nx,.slice a l.length c] 73)) (.cells #[.int .i64 bk] 3);have H:=Hd (jtS 152 jyf (vX 152) _ D win nx a c l (hv.ext q) hl _ bk (A.cell (i:=0) vF));have O:=Hd q;rw[bF]at H;clear hv q A;go_enter Tryz.func107,Tryz.ntmps107;go_wp2_with fail
 refine H.o.mono ?_;rintro e w1 ⟨rfl,J⟩;have X:=Hd (O.o.trans J);clear J;go_wp2_with fail
 go_ret
 exact⟨rfl,X.o⟩
end
section
open Go Go.RowKit
theorem jhc{p:Nat}:∀ (X:List VX) (i:Nat) (y:VX),X[i]?=some y->(jaY X).set (i * 4+3) (.int .i64 (p:Int))=jaY (X.set i ⟨jd5 y.v p,y.ev,y.cv⟩)
 | [],_,_,h=>by simp at h
 | x :: t,0,y,h=>by
  have e:x=y:=by simpa using h
  subst e;rfl
 | x :: t,i+1,y,h=>by
  have q:=jhc (p:=p) t i y (by simpa using h);show (x.cells++jaY t).set ((i+1) * 4+3) _=x.cells++jaY (t.set i _);rw[dK _ _ (show x.cells.length<=_ from by show 4<=_;omega), <-q]
  congr 2
  show (i+1) * 4+3 - 4=_;omega
theorem MB.pins{w:vW}{y:VX}(h:MB w T W g X)(hy:X[i]?=some y):MB w T (W.setCell ⟨g,i * 4+3,none⟩ (.int .i64 (p:Int))) g (X.set i ⟨jd5 y.v p,y.ev,y.cv⟩):=by
 have k:=jac.oneSet W ⟨g,i * 4+3,none⟩ (.int .i64 (p:Int));have A:=h.lo
 refine⟨h.lo,h.gt,bE h.tw k.size,?_,fun x q=>?_,h.ext.trans' k fun x q e=>by have e:x=g:=e;omega⟩
 ·have:=h.blk.set_same (i:=i * 4+3) (.int .i64 (p:Int))
  rw[fJ,jhc X i y hy]at this;exact this
 ·have hb:RdPD (fun b=>w.heap.size+2<=b/\b < T/\b≠g) W x.ev x.v.ents/\RdCD (fun b=>w.heap.size+2<=b/\b < T/\b≠g) W x.cv x.v.chgs:=by
   rcases gE q with q | rfl
   ·exact h.hold x q
   ·exact h.hold y (bG hy)
  exact⟨hb.1.keeps k fun b hb e=>hb.2.2 e,hb.2.keeps k fun b hb e=>hb.2.2 e⟩
theorem MB.atV{w:vW}{v:VerN}(h:MB w T W g X)(hX:X.map VX.v=l)(hv:l[i]?=some v):∃ y,X[i]?=some y/\y.v=v/\W.cell? ⟨g,i * 4,none⟩=some (.int .i64 (v.block:Int))/\W.cell? ⟨g,i * 4+3,none⟩=some (.int .i64 (v.pins:Int)):=by
 rw[<-hX,bV,cM]at hv
 obtain⟨y,q,e⟩:=hv
 refine⟨y,q,e,?_,?_⟩
 ·have:=h.blk.cellL (i:=i * 4+0) (v:=.int .i64 (y.v.block:Int)) (by rw[jek X i y q 0 vI];rfl)
  rw[<-e];exact this
 ·have:=h.blk.cellL (i:=i * 4+3) (v:=.int .i64 (y.v.pins:Int)) (by rw[jek X i y q 3 vI];rfl)
  rw[<-e];exact this
theorem MB.setV{y:VX}{v:VerN}(hX:X.map VX.v=M.all)(e:y.v=v):(X.set i ⟨jd5 y.v p,y.ev,y.cv⟩).map VX.v=jcs M i v p:=by
 unfold jcs;rw[gB,hX,e]
theorem jyo(D:Nat->Prop)(M:MdN)(av:vV)(hv:VRow D w av M.all)(hM:MdOk M)(hl:M.all.length<=900)(at':Int) :
  vQ 55 #[modV M av,.int .i64 at'] w fun e w'=>∃ av',e=.returned (.tuple #[modV (pinN M at').1 av',.int .i64 ((pinN M at').2.1:Int),.int .i64 (pinN M at').2.2])/\Ext w w'/\VRow (NewB w w') w' av' (pinN M at').1.all:=by
 obtain⟨a0,c0,rfl⟩:=hv.sl
 have HV:=Hd (bA hv (bA hM hl))
 obtain⟨R,hR⟩:=vE (pinN M at')
 have HR:=Hd hR;rw[<-hR];unfold modV
 obtain⟨n,c3⟩:=vE M.all.length
 rw[<-c3];have HN:=Hd c3;have e0:n≠0:=by rw[c3];exact fun e=>hM.ne (bO e)
 have f5:n<=900:=by rw[c3];exact hl
 clear hv hR hM hl c3;go_enter Tryz.func55,Tryz.ntmps55;go_wp2_with fail
 have b5:=((ExtR w).alloc (.cells #[.int .i64 (M.win:Int),.int .i64 (M.next:Int),.slice a0 n c0] 73)).alloc (.cells #[.int .i64 0,.int .i64 0,.slice none 0 0] 73);have c4:=(Blk.new w (.cells #[.int .i64 (M.win:Int),.int .i64 (M.next:Int),.slice a0 n c0] 73)).alloc (.cells #[.int .i64 0,.int .i64 0,.slice none 0 0] 73);have a8:Blk ((w.alloc (.cells #[.int .i64 (M.win:Int),.int .i64 (M.next:Int),.slice a0 n c0] 73)).alloc (.cells #[.int .i64 0,.int .i64 0,.slice none 0 0] 73)) (w.heap.size+1) (.cells #[.int .i64 0,.int .i64 0,.slice none 0 0] 73):=by
  have:=Blk.new (w.alloc (.cells #[.int .i64 (M.win:Int),.int .i64 (M.next:Int),.slice a0 n c0] 73)) (.cells #[.int .i64 0,.int .i64 0,.slice none 0 0] 73)
  rwa [show (w.alloc (.cells #[.int .i64 (M.win:Int),.int .i64 (M.next:Int),.slice a0 n c0] 73)).heap.size=w.heap.size+1 from fX _]at this
 have c2:=a8.lt;generalize (w.alloc (.cells #[.int .i64 (M.win:Int),.int .i64 (M.next:Int),.slice a0 n c0] 73)).alloc (.cells #[.int .i64 0,.int .i64 0,.slice none 0 0] 73)=w1 at b5 c4 a8 c2 ⊢;have h1:=jlL w1 D M a0 c0 (HV.o.1.ext b5) (by rw[<-HN.o];exact e0) (by have:=HV.o.2.2;omega) (fun x hx=>⟨by have:=(ja1 (HV.o.2.1.ver x hx).map).len;omega,by have:=(HV.o.2.1.ver x hx).chgs;omega⟩);rw[<-HN.o]at h1;refine h1.mono ?_;rintro e w2 ⟨g,X,rfl,hX,hO⟩;have c4:=c4.keeps hO.ext (fun h=>h);have a8:=a8.keeps hO.ext (fun h=>h);have e4:=Hd c4;have HO:=Hd (bA hX (bA hO (bA b5 (bA c2 a8))));clear h1 hX hO b5 c2 c4 a8;go_wp2_with (refine jad (vs:=[.int .i64 (M.win:Int),.int .i64 (M.next:Int),.slice (some ⟨g,0,none⟩) n n]) rfl rfl rfl rfl e4.o rfl Tryz.szMod (by simp[Value.oneCell']) ?_;intro W3 c5 d3;have q0:W3.cell? ⟨w.heap.size,0,none⟩=some (.int .i64 (M.win:Int)):=c5.cellL rfl;have q1:W3.cell? ⟨w.heap.size,1,none⟩=some (.int .i64 (M.next:Int)):=c5.cellL rfl;have q2:W3.cell? ⟨w.heap.size,2,none⟩=some (.slice (some ⟨g,0,none⟩) n n):=c5.cellL rfl)
 obtain⟨hX,hO,b5,c2,a8⟩:=HO.o
 have J:X.length=n:=by rw[HN.o, <-hX,bS]
 have b1:=MB.start hO b5 c2 d3;have a8:=a8.keeps d3 (fun e=>by have e:w.heap.size+1=w.heap.size:=e;omega);have b6:=b1.vrow;rw[hX,J]at b6;have d4:=jjO W3 _ M (some ⟨g,0,none⟩) n (by rw[<-HN.o];exact b6) HV.o.2.1 (by have:=HV.o.2.2;omega);rw[<-HN.o]at d4;refine d4.mono ?_;rintro e W4 ⟨rfl,c7⟩;have b6:=b6.ext c7;rw[HN.o]at b6;have c8:=c5.keeps c7 (fun h=>h);have HB:=Hd (bA hX (bA (b1.more c7) (bA c8 (bA (a8.keeps c7 (fun h=>h)) (bA J b6)))));have e5:W4.cell? ⟨w.heap.size,0,none⟩=some (.int .i64 (M.win:Int)):=c8.cellL rfl;have e6:W4.cell? ⟨w.heap.size,1,none⟩=some (.int .i64 (M.next:Int)):=c8.cellL rfl;have e7:W4.cell? ⟨w.heap.size,2,none⟩=some (.slice (some ⟨g,0,none⟩) n n):=c8.cellL rfl;clear hX hO b5 c2 a8 J b1 b6 d4 c7 c8 q0 q1 q2 c5 d3;go_wp2_with fail
 have d5:=juK W4 _ (M.win:Int) (M.next:Int) (some ⟨g,0,none⟩) M.all.length M.all HB.o.2.2.2.2.2 (by have:=HV.o.2.2;omega) at';rw[<-HN.o]at d5;refine d5.mono ?_;clear d5 e5 e6 e7;rintro e W5 ⟨rfl,d2⟩;have A:=Hd (bA HB.o.1 (bA (HB.o.2.1.more d2) (bA (HB.o.2.2.1.keeps d2 (fun h=>h)) (bA (HB.o.2.2.2.1.keeps d2 (fun h=>h)) HB.o.2.2.2.2.1))));have q0:W5.cell? ⟨w.heap.size,0,none⟩=some (.int .i64 (M.win:Int)):=A.o.2.2.1.cellL rfl;have q1:W5.cell? ⟨w.heap.size,1,none⟩=some (.int .i64 (M.next:Int)):=A.o.2.2.1.cellL rfl;have q2:W5.cell? ⟨w.heap.size,2,none⟩=some (.slice (some ⟨g,0,none⟩) n n):=A.o.2.2.1.cellL rfl;clear HB d2
 by_cases ha:at' = -1
 ·have b4:jon M at'=some (M.all.length - 1):=by unfold jon;rw[if_pos ha]
  obtain⟨v,Z,_⟩:=HV.o.2.1.lastAt
  obtain⟨k,hk⟩:∃ k,n=k+1:=⟨n - 1,by omega⟩
  have d9:IntKind.i64.wrap ((n:Int) - 1)=(k:Int):=by rw[wr64 vO vO];omega
  have d8:(n:Int) - 1=(k:Int):=vO
  rw[<-HN.o,show n - 1=k by omega]at b4 Z;have e1:(at' == -1)=true:=by rw[ha];rfl
  clear ha hk
  obtain⟨y,hy,b7,p0,p3⟩:=A.o.2.1.atV A.o.1 Z
  have e8:(k:Int) < (n:Int):=by have:=(bH.1 Z).1;have:=HN.o;omega
  have e9:¬(k:Int) < 0:=vO
  have b8:=(HV.o.2.1.ver v (bG Z)).pins;have HY:=Hd (bA Z (bA hy (bA b7 (bA b8 b4))))
  by_cases hp:v.pins=1048576
  ·have e2:((v.pins:Int) == 1048576)=true:=by rw[hp];rfl
   have HP:=Hd hp;clear hp hy b7 Z b8 b4;go_wp2_with (refine jad (vs:=[.int .i64 (M.win:Int),.int .i64 (M.next:Int),.slice (some ⟨g,0,none⟩) n n]) rfl rfl rfl rfl A.o.2.2.2.1 rfl Tryz.szMod (by simp[Value.oneCell']) ?_;intro W8 c9 d0)
   refine bodyPost_ret (jbx rfl rfl rfl rfl (jaH W8 (w.heap.size+1) 0 [.int .i64 (M.win:Int),.int .i64 (M.next:Int),.slice (some ⟨g,0,none⟩) n n] rfl (fun j v hv=>by rw[bT];exact c9.cellL hv))) rfl ?_
   obtain⟨hX,b1,_,_,J⟩:=A.o
   have a2:=b1.side d0 fun b e=>.inr (.inl e);have b2:R=(M,0,12):=by
    rw[HR.o];unfold pinN;rw[HY.o.2.2.2.2];simp only[HY.o.1,HP.o,if_true]
   rw[b2]
   exact⟨_,rfl,a2.ext,a2.news J hX⟩
  ·have e2:((v.pins:Int) == 1048576)=false:=by simp;omega
   have e3:=wr64 (x:=(v.pins:Int)+1) vO vO;have HP:=Hd hp;have f3:W5.frozen? ⟨g,k * 4+3,none⟩=false:=A.o.2.1.blk.frozen;clear hp hy b7 Z b8 b4;go_wp2_with fail
   have q:=A.o.2.1.pins (p:=v.pins+1) HY.o.2.1;have k6:=jac.oneSet W5 ⟨g,k * 4+3,none⟩ (.int .i64 ((v.pins:Int)+1));have d6:=q.lo;have a4:=A.o.2.2.1.keeps k6 (show ¬ w.heap.size=g by omega);have a5:=A.o.2.2.2.1.keeps k6 (show ¬ w.heap.size+1=g by omega);rw[Int.natCast_add]at q;change MB w w2.heap.size (W5.setCell ⟨g,k * 4+3,none⟩ (.int .i64 ((v.pins:Int)+1))) g _ at q;generalize W5.setCell ⟨g,k * 4+3,none⟩ (.int .i64 ((v.pins:Int)+1))=W6 at q k6 a4 a5 ⊢
   obtain⟨hX,_,_,_,J⟩:=A.o
   have a7:=MB.setV (p:=v.pins+1) (i:=k) hX HY.o.2.2.1;have d1:=(bH.1 HY.o.1).1
   obtain⟨_,_,_,b3,_⟩:=q.atV a7 (show (jcs M k v (v.pins+1))[k]?=some (jd5 v (v.pins+1)) by unfold jcs;rw[gQ d1])
   have b3:W6.cell? ⟨g,k * 4,none⟩=some (.int .i64 (v.block:Int)):=b3;have f0:=q.gt;have f1:=q.tw;have O:=Hd (bA q (bA a4 (bA a5 (bA a7 (bA b3 (bA J d6))))));clear q k6 a4 a5 a7 b3 p0 p3 f3 q0 q1 q2 e2 e3 hX J d1;refine jau [0,1,2,3,4,5,6,7,8,9] [7] Ext (jac (fun z=>z=w.heap.size+1)) ExtR ExtT (fun x y z h k=>jac.trans h k) (fun x y h=>h.mono (fun _ _ h=>h.elim)) vY vY vY ?_;refine qDL ⟨w.heap.size,0,none⟩ _ rfl (fun w1 h1=>jcL w1 w.heap.size 0 [.int .i64 (M.win:Int),.int .i64 (M.next:Int),.slice (some ⟨g,0,none⟩) n n] rfl (fun j v hv=>by rw[bT];exact ((O.o.2.1.drew).keeps h1 vO).cellL hv)) ?_;refine vS ?_
   refine vD ?_
   refine qDL ⟨w.heap.size,2,none⟩ (.slice (some ⟨g,0,none⟩) n n) rfl (fun w1 h1=>jag (fun w=>by kernel_rfl) (((O.o.2.1.drew).keeps h1 vO).cell (i:=2) rfl)) ?_;refine vS ?_;iterate 3 refine vD ?_
   refine qDL ⟨g,k * 4,none⟩ (.int .i64 (v.block:Int)) rfl (fun w1 h1=>jag (fun w=>by kernel_rfl) (jai O.o.2.2.2.2.1 (((jac.refl (fun z=>z=w.heap.size+1) W6).drew).trans h1) (by show ¬ g=w.heap.size+1;omega))) ?_;refine vS ?_;refine qDH _ rfl (fun wc hc K hK=>?_);have kc:Ext W6 wc:=(jak _).trans hc;refine jdl (vs:=[.int .i64 (M.win:Int),.int .i64 (M.next:Int),.slice (some ⟨g,0,none⟩) n n]) rfl rfl rfl (O.o.2.2.1.keeps kc (fun h=>h)) rfl Tryz.szMod (by simp[Value.oneCell']) (fun f2 a1 H=>hK _ _ H ?_);have b9:=Hd (bA kc (bA a1 H));clear hK K hc kc a1 H;refine vS ?_;iterate 2 refine vD ?_
   refine qDE (fun d7 a9=>?_);go_wp2_with fail
   obtain⟨kc,a1,H⟩:=b9.o
   have c1:=a1.keeps a9 (fun h=>h);refine bodyPost_ret (jbx rfl rfl rfl rfl (jaH d7 (w.heap.size+1) 0 [.int .i64 (M.win:Int),.int .i64 (M.next:Int),.slice (some ⟨g,0,none⟩) n n] rfl (fun j v hv=>by rw[bT];exact c1.cellL hv))) rfl ?_;have b2:R=(⟨M.win,M.next,jcs M k v (v.pins+1)⟩,v.block,0):=by
    rw[HR.o];unfold pinN;rw[HY.o.2.2.2.2];simp only[HY.o.1,HP.o,if_false]
   rw[b2];have a3:=((O.o.1.more kc).side H (fun b e=>.inr (.inl e))).more a9
   exact⟨_,rfl,a3.ext,a3.news (by rw[iC];exact O.o.2.2.2.2.2.1) O.o.2.2.2.1⟩
 ·have e1:(at' == -1)=false:=by simpa using ha
  have b0:jon M at'=jbG M.all at':=by unfold jon;rw[if_neg ha]
  clear ha;cases hpl:jbG M.all at' with
  | none =>
   rw[hpl]at b0;have f4:=Hd b0;clear hpl b0;show _;unfold idxP;go_wp2_with (refine jad (vs:=[.int .i64 (M.win:Int),.int .i64 (M.next:Int),.slice (some ⟨g,0,none⟩) n n]) rfl rfl rfl rfl A.o.2.2.2.1 rfl Tryz.szMod (by simp[Value.oneCell']) ?_;intro W8 c9 d0)
   refine bodyPost_ret (jbx rfl rfl rfl rfl (jaH W8 (w.heap.size+1) 0 [.int .i64 (M.win:Int),.int .i64 (M.next:Int),.slice (some ⟨g,0,none⟩) n n] rfl (fun j v hv=>by rw[bT];exact c9.cellL hv))) rfl ?_
   obtain⟨hX,b1,_,_,J⟩:=A.o
   have a2:=b1.side d0 fun b e=>.inr (.inl e);have b2:R=(M,0,4):=by
    rw[HR.o];unfold pinN;rw[f4.o]
   rw[b2]
   exact⟨_,rfl,a2.ext,a2.news J hX⟩
  | some i =>
   obtain⟨v,Z,_⟩:=jeW hpl
   have b4:jon M at'=some i:=b0.trans hpl;clear hpl b0;unfold idxP
   obtain⟨y,hy,b7,p0,p3⟩:=A.o.2.1.atV A.o.1 Z
   have e8:(i:Int) < (n:Int):=by have:=(bH.1 Z).1;have:=HN.o;omega
   have e9:¬(i:Int) < 0:=vO
   have b8:=(HV.o.2.1.ver v (bG Z)).pins;have HY:=Hd (bA Z (bA hy (bA b7 (bA b8 b4))))
   by_cases hp:v.pins=1048576
   ·have e2:((v.pins:Int) == 1048576)=true:=by rw[hp];rfl
    have HP:=Hd hp;clear hp hy b7 Z b8 b4;go_wp2_with (refine jad (vs:=[.int .i64 (M.win:Int),.int .i64 (M.next:Int),.slice (some ⟨g,0,none⟩) n n]) rfl rfl rfl rfl A.o.2.2.2.1 rfl Tryz.szMod (by simp[Value.oneCell']) ?_;intro W8 c9 d0)
    refine bodyPost_ret (jbx rfl rfl rfl rfl (jaH W8 (w.heap.size+1) 0 [.int .i64 (M.win:Int),.int .i64 (M.next:Int),.slice (some ⟨g,0,none⟩) n n] rfl (fun j v hv=>by rw[bT];exact c9.cellL hv))) rfl ?_
    obtain⟨hX,b1,_,_,J⟩:=A.o
    have a2:=b1.side d0 fun b e=>.inr (.inl e);have b2:R=(M,0,12):=by
     rw[HR.o];unfold pinN;rw[HY.o.2.2.2.2];simp only[HY.o.1,HP.o,if_true]
    rw[b2]
    exact⟨_,rfl,a2.ext,a2.news J hX⟩
   ·have e2:((v.pins:Int) == 1048576)=false:=by simp;omega
    have e3:=wr64 (x:=(v.pins:Int)+1) vO vO;have HP:=Hd hp;have f3:W5.frozen? ⟨g,i * 4+3,none⟩=false:=A.o.2.1.blk.frozen;clear hp hy b7 Z b8 b4;go_wp2_with fail
    have q:=A.o.2.1.pins (p:=v.pins+1) HY.o.2.1;have k6:=jac.oneSet W5 ⟨g,i * 4+3,none⟩ (.int .i64 ((v.pins:Int)+1));have d6:=q.lo;have a4:=A.o.2.2.1.keeps k6 (show ¬ w.heap.size=g by omega);have a5:=A.o.2.2.2.1.keeps k6 (show ¬ w.heap.size+1=g by omega);rw[Int.natCast_add]at q;change MB w w2.heap.size (W5.setCell ⟨g,i * 4+3,none⟩ (.int .i64 ((v.pins:Int)+1))) g _ at q;generalize W5.setCell ⟨g,i * 4+3,none⟩ (.int .i64 ((v.pins:Int)+1))=W6 at q k6 a4 a5 ⊢
    obtain⟨hX,_,_,_,J⟩:=A.o
    have a7:=MB.setV (p:=v.pins+1) (i:=i) hX HY.o.2.2.1;have d1:=(bH.1 HY.o.1).1
    obtain⟨_,_,_,b3,_⟩:=q.atV a7 (show (jcs M i v (v.pins+1))[i]?=some (jd5 v (v.pins+1)) by unfold jcs;rw[gQ d1])
    have b3:W6.cell? ⟨g,i * 4,none⟩=some (.int .i64 (v.block:Int)):=b3;have f0:=q.gt;have f1:=q.tw;have O:=Hd (bA q (bA a4 (bA a5 (bA a7 (bA b3 (bA J d6))))));clear q k6 a4 a5 a7 b3 p0 p3 f3 q0 q1 q2 e2 e3 hX J d1;refine jau [0,1,2,3,4,5,6,7,8,9] [7] Ext (jac (fun z=>z=w.heap.size+1)) ExtR ExtT (fun x y z h k=>jac.trans h k) (fun x y h=>h.mono (fun _ _ h=>h.elim)) vY vY vY ?_;refine qDL ⟨w.heap.size,0,none⟩ _ rfl (fun w1 h1=>jcL w1 w.heap.size 0 [.int .i64 (M.win:Int),.int .i64 (M.next:Int),.slice (some ⟨g,0,none⟩) n n] rfl (fun j v hv=>by rw[bT];exact ((O.o.2.1.drew).keeps h1 vO).cellL hv)) ?_;refine vS ?_
    refine vD ?_
    refine qDL ⟨w.heap.size,2,none⟩ (.slice (some ⟨g,0,none⟩) n n) rfl (fun w1 h1=>jag (fun w=>by kernel_rfl) (((O.o.2.1.drew).keeps h1 vO).cell (i:=2) rfl)) ?_;refine vS ?_;iterate 3 refine vD ?_
    refine qDL ⟨g,i * 4,none⟩ (.int .i64 (v.block:Int)) rfl (fun w1 h1=>jag (fun w=>by kernel_rfl) (jai O.o.2.2.2.2.1 (((jac.refl (fun z=>z=w.heap.size+1) W6).drew).trans h1) (by show ¬ g=w.heap.size+1;omega))) ?_;refine vS ?_;refine qDH _ rfl (fun wc hc K hK=>?_);have kc:Ext W6 wc:=(jak _).trans hc;refine jdl (vs:=[.int .i64 (M.win:Int),.int .i64 (M.next:Int),.slice (some ⟨g,0,none⟩) n n]) rfl rfl rfl (O.o.2.2.1.keeps kc (fun h=>h)) rfl Tryz.szMod (by simp[Value.oneCell']) (fun f2 a1 H=>hK _ _ H ?_);have b9:=Hd (bA kc (bA a1 H));clear hK K hc kc a1 H;refine vS ?_;iterate 2 refine vD ?_
    refine qDE (fun d7 a9=>?_);go_wp2_with fail
    obtain⟨kc,a1,H⟩:=b9.o
    have c1:=a1.keeps a9 (fun h=>h);refine bodyPost_ret (jbx rfl rfl rfl rfl (jaH d7 (w.heap.size+1) 0 [.int .i64 (M.win:Int),.int .i64 (M.next:Int),.slice (some ⟨g,0,none⟩) n n] rfl (fun j v hv=>by rw[bT];exact c1.cellL hv))) rfl ?_;have b2:R=(⟨M.win,M.next,jcs M i v (v.pins+1)⟩,v.block,0):=by
     rw[HR.o];unfold pinN;rw[HY.o.2.2.2.2];simp only[HY.o.1,HP.o,if_false]
    rw[b2];have a3:=((O.o.1.more kc).side H (fun b e=>.inr (.inl e))).more a9
    exact⟨_,rfl,a3.ext,a3.news (by rw[iC];exact O.o.2.2.2.2.2.1) O.o.2.2.2.1⟩
theorem jum(D:Nat->Prop)(M:MdN)(av:vV)(hv:VRow D w av M.all)(hM:MdOk M)(hl:M.all.length<=900)(at':Int) :
  vQ 56 #[modV M av,.int .i64 at'] w fun e w'=>∃ c8,e=.returned (.tuple #[modV (jbI M at').1 c8,.int .i64 (jbI M at').2])/\Ext w w'/\VRow (NewB w w') w' c8 (jbI M at').1.all:=by
 obtain⟨a0,c0,rfl⟩:=hv.sl
 have HV:=Hd (bA hv (bA hM hl))
 obtain⟨R,hR⟩:=vE (jbI M at')
 have HR:=Hd hR;rw[<-hR];unfold modV
 obtain⟨n,b2⟩:=vE M.all.length
 rw[<-b2];have HN:=Hd b2;have d5:n≠0:=by rw[b2];exact fun e=>hM.ne (bO e)
 have f1:n<=900:=by rw[b2];exact hl
 clear hv hR hM hl b2;go_enter Tryz.func56,Tryz.ntmps56;go_wp2_with fail
 have a3:=((ExtR w).alloc (.cells #[.int .i64 (M.win:Int),.int .i64 (M.next:Int),.slice a0 n c0] 73)).alloc (.cells #[.int .i64 0,.int .i64 0,.slice none 0 0] 73);have b3:=(Blk.new w (.cells #[.int .i64 (M.win:Int),.int .i64 (M.next:Int),.slice a0 n c0] 73)).alloc (.cells #[.int .i64 0,.int .i64 0,.slice none 0 0] 73);have K:Blk ((w.alloc (.cells #[.int .i64 (M.win:Int),.int .i64 (M.next:Int),.slice a0 n c0] 73)).alloc (.cells #[.int .i64 0,.int .i64 0,.slice none 0 0] 73)) (w.heap.size+1) (.cells #[.int .i64 0,.int .i64 0,.slice none 0 0] 73):=by
  have:=Blk.new (w.alloc (.cells #[.int .i64 (M.win:Int),.int .i64 (M.next:Int),.slice a0 n c0] 73)) (.cells #[.int .i64 0,.int .i64 0,.slice none 0 0] 73)
  rwa [show (w.alloc (.cells #[.int .i64 (M.win:Int),.int .i64 (M.next:Int),.slice a0 n c0] 73)).heap.size=w.heap.size+1 from fX _]at this
 have b0:=K.lt;generalize (w.alloc (.cells #[.int .i64 (M.win:Int),.int .i64 (M.next:Int),.slice a0 n c0] 73)).alloc (.cells #[.int .i64 0,.int .i64 0,.slice none 0 0] 73)=w1 at a3 b3 K b0 ⊢;have h1:=jlL w1 D M a0 c0 (HV.o.1.ext a3) (by rw[<-HN.o];exact d5) (by have:=HV.o.2.2;omega) (fun x hx=>⟨by have:=(ja1 (HV.o.2.1.ver x hx).map).len;omega,by have:=(HV.o.2.1.ver x hx).chgs;omega⟩);rw[<-HN.o]at h1;refine h1.mono ?_;rintro e w2 ⟨g,X,rfl,hX,hO⟩;have b3:=b3.keeps hO.ext (fun h=>h);have K:=K.keeps hO.ext (fun h=>h);have d8:=Hd b3;have HO:=Hd (bA hX (bA hO (bA a3 (bA b0 K))));clear h1 hX hO a3 b0 b3 K;go_wp2_with (refine jad (vs:=[.int .i64 (M.win:Int),.int .i64 (M.next:Int),.slice (some ⟨g,0,none⟩) n n]) rfl rfl rfl rfl d8.o rfl Tryz.szMod (by simp[Value.oneCell']) ?_;intro W3 b4 c9;have q0:W3.cell? ⟨w.heap.size,0,none⟩=some (.int .i64 (M.win:Int)):=b4.cellL rfl;have q1:W3.cell? ⟨w.heap.size,1,none⟩=some (.int .i64 (M.next:Int)):=b4.cellL rfl;have q2:W3.cell? ⟨w.heap.size,2,none⟩=some (.slice (some ⟨g,0,none⟩) n n):=b4.cellL rfl)
 obtain⟨hX,hO,a3,b0,K⟩:=HO.o
 have J:X.length=n:=by rw[HN.o, <-hX,bS]
 have a4:=MB.start hO a3 b0 c9;have K:=K.keeps c9 (fun e=>by have e:w.heap.size+1=w.heap.size:=e;omega);have a5:=a4.vrow;rw[hX,J]at a5;have d0:=jjO W3 _ M (some ⟨g,0,none⟩) n (by rw[<-HN.o];exact a5) HV.o.2.1 (by have:=HV.o.2.2;omega);rw[<-HN.o]at d0;refine d0.mono ?_;rintro e W4 ⟨rfl,b5⟩;have a5:=a5.ext b5;rw[HN.o]at a5;have b6:=b4.keeps b5 (fun h=>h);have HB:=Hd (bA hX (bA (a4.more b5) (bA b6 (bA (K.keeps b5 (fun h=>h)) (bA J a5)))));have d9:W4.cell? ⟨w.heap.size,0,none⟩=some (.int .i64 (M.win:Int)):=b6.cellL rfl;have e0:W4.cell? ⟨w.heap.size,1,none⟩=some (.int .i64 (M.next:Int)):=b6.cellL rfl;have e1:W4.cell? ⟨w.heap.size,2,none⟩=some (.slice (some ⟨g,0,none⟩) n n):=b6.cellL rfl;clear hX hO a3 b0 K J a4 a5 d0 b5 b6 q0 q1 q2 b4 c9;go_wp2_with fail
 have d1:=juK W4 _ (M.win:Int) (M.next:Int) (some ⟨g,0,none⟩) M.all.length M.all HB.o.2.2.2.2.2 (by have:=HV.o.2.2;omega) at';rw[<-HN.o]at d1;refine d1.mono ?_;clear d1 d9 e0 e1;rintro e W5 ⟨rfl,c3⟩;have A:=Hd (bA HB.o.1 (bA (HB.o.2.1.more c3) (bA (HB.o.2.2.1.keeps c3 (fun h=>h)) (bA (HB.o.2.2.2.1.keeps c3 (fun h=>h)) HB.o.2.2.2.2.1))));have q0:W5.cell? ⟨w.heap.size,0,none⟩=some (.int .i64 (M.win:Int)):=A.o.2.2.1.cellL rfl;have q1:W5.cell? ⟨w.heap.size,1,none⟩=some (.int .i64 (M.next:Int)):=A.o.2.2.1.cellL rfl;have q2:W5.cell? ⟨w.heap.size,2,none⟩=some (.slice (some ⟨g,0,none⟩) n n):=A.o.2.2.1.cellL rfl;clear HB c3;cases hpl:jbG M.all at' with
 | none =>
  have e5:=Hd hpl;clear hpl;unfold idxP;go_wp2_with (refine jad (vs:=[.int .i64 (M.win:Int),.int .i64 (M.next:Int),.slice (some ⟨g,0,none⟩) n n]) rfl rfl rfl rfl A.o.2.2.2.1 rfl Tryz.szMod (by simp[Value.oneCell']) ?_;intro W8 b7 a8)
  refine bodyPost_ret (jcz rfl rfl rfl (jaH W8 (w.heap.size+1) 0 [.int .i64 (M.win:Int),.int .i64 (M.next:Int),.slice (some ⟨g,0,none⟩) n n] rfl (fun j v hv=>by rw[bT];exact b7.cellL hv))) rfl ?_
  obtain⟨hX,a4,_,_,J⟩:=A.o
  have O:=a4.side a8 fun b e=>.inr (.inl e);have b8:R=(M,4):=by
   rw[HR.o];unfold jbI;rw[e5.o]
  rw[b8]
  exact⟨_,rfl,O.ext,O.news J hX⟩
 | some i =>
  obtain⟨v,b1,_⟩:=jeW hpl
  unfold idxP
  obtain⟨y,hy,c4,p0,p3⟩:=A.o.2.1.atV A.o.1 b1
  have e6:(i:Int) < (n:Int):=by have:=(bH.1 b1).1;have:=HN.o;omega
  have e7:¬(i:Int) < 0:=vO
  have d2:=(HV.o.2.1.ver v (bG b1)).pins;have HY:=Hd (bA b1 (bA hy (bA c4 (bA d2 hpl))))
  by_cases hp:v.pins=0
  ·have e2:((v.pins:Int) == 0)=true:=by rw[hp];rfl
   have HP:=Hd hp;clear hp hy c4 b1 d2 hpl;go_wp2_with (refine jad (vs:=[.int .i64 (M.win:Int),.int .i64 (M.next:Int),.slice (some ⟨g,0,none⟩) n n]) rfl rfl rfl rfl A.o.2.2.2.1 rfl Tryz.szMod (by simp[Value.oneCell']) ?_;intro W8 b7 a8)
   refine bodyPost_ret (jcz rfl rfl rfl (jaH W8 (w.heap.size+1) 0 [.int .i64 (M.win:Int),.int .i64 (M.next:Int),.slice (some ⟨g,0,none⟩) n n] rfl (fun j v hv=>by rw[bT];exact b7.cellL hv))) rfl ?_
   obtain⟨hX,a4,_,_,J⟩:=A.o
   have O:=a4.side a8 fun b e=>.inr (.inl e);have b8:R=(M,4):=by
    rw[HR.o];unfold jbI;rw[HY.o.2.2.2.2];simp only[HY.o.1,HP.o,if_true]
   rw[b8]
   exact⟨_,rfl,O.ext,O.news J hX⟩
  ·have e2:((v.pins:Int) == 0)=false:=by simp;omega
   obtain⟨q,hq⟩:∃ q,v.pins=q+1:=⟨v.pins - 1,by omega⟩
   have e3:IntKind.i64.wrap ((v.pins:Int) - 1)=(q:Int):=by rw[wr64 vO vO];omega
   have e4:(v.pins:Int) - 1=(q:Int):=vO
   have HP:=Hd (bA hp hq);have f3:W5.frozen? ⟨g,i * 4+3,none⟩=false:=A.o.2.1.blk.frozen;have H:=A.o.2.1.pins (p:=q) hy;have k6:=jac.oneSet W5 ⟨g,i * 4+3,none⟩ (.int .i64 (q:Int));have f2:=H.lo;have a2:=A.o.2.2.1.keeps k6 (show ¬ w.heap.size=g by omega);have Z:=A.o.2.2.2.1.keeps k6 (show ¬ w.heap.size+1=g by omega)
   obtain⟨hX,_,_,_,J⟩:=A.o
   have a1:=MB.setV (p:=q) (i:=i) hX c4;have H6:=Hd (bA H (bA a2 (bA Z (bA a1 J))));clear hp hq hy c4 b1 d2 hpl H k6 a2 Z a1 hX J;go_wp2_with fail
   rw[show Go.RowKit.wrap64 (q:Int)=(q:Int) by have:=HP.o.2;have:=HY.o.2.2.2.1;unfold Go.RowKit.wrap64;omega]
   obtain⟨W6,d6⟩:=vE (W5.setCell ⟨g,i * 4+3,none⟩ (.int .i64 (q:Int)))
   rw[<-d6]at H6 ⊢;clear d6 q0 q1 q2 p0 p3 f3
   obtain⟨H,a2,Z,a1,J⟩:=H6.o
   have a9:=H.vrow;rw[a1,iC,J]at a9;have f4:=H.gt;have f5:=H.tw;have d3:(jcs M i v q).length=n:=by unfold jcs;rw[iC,HN.o]
   have d7:=jme W6 (fun b=>w.heap.size+2<=b/\b < w2.heap.size) (fun b hb=>by have:=hb.2;omega) ⟨M.win,M.next,jcs M i v q⟩ _ a9 (fun e=>by have e:jcs M i v q=[]:=e;rw[e]at d3;exact d5 d3.symm) (by have:=HV.o.2.1.win;show M.win<=8;omega) (by have:=HV.o.2.1.next;show M.next<=2000000;omega) (by show (jcs M i v q).length<=1000;omega) (fun x hx=>by
    have hx:x∈jcs M i v q:=hx;rcases gE hx with hx | rfl
    ·have h1:=HV.o.2.1.less x hx
     have h2:=(HV.o.2.1.ver x hx).pins;have h3:=HV.o.2.1.next
     exact⟨by omega,by omega⟩
    ·have h1:=HV.o.2.1.less v (bG HY.o.1)
     have h3:=HV.o.2.1.next;have h4:=HP.o.2;have h5:=HY.o.2.2.2.1
     exact⟨by show v.block<=_;omega,by show q<=_;omega⟩)
   refine d7.mono ?_;rintro e W7 ⟨c8,rfl,c5,b9⟩
   obtain⟨a7,c7,e8⟩:=b9.sl
   subst e8;have c1:=H.more c5;have d4:=Hd (Z.keeps c5 (fun h=>h));have e9:=Hd (bA c1.ext (bA c5.size b9))
   obtain⟨cl,c2⟩:=vE (ja3 M.win M.next (jcs M i v q))
   unfold modV;show _;have f6:=Hd c2;clear H a2 Z a1 J a9 d3 d7 c5 b9 c1 c2 e2 e3 e4 e6 e7;go_wp2_with (refine jad (vs:=[.int .i64 (M.win:Int),.int .i64 (M.next:Int),.slice a7 (ja3 M.win M.next (jcs M i v q)).length c7]) rfl rfl rfl rfl d4.o rfl Tryz.szMod (by simp[Value.oneCell']) ?_;intro W8 b7 a8)
   refine bodyPost_ret (jcz rfl rfl rfl (jaH W8 (w.heap.size+1) 0 [.int .i64 (M.win:Int),.int .i64 (M.next:Int),.slice a7 (ja3 M.win M.next (jcs M i v q)).length c7] rfl (fun j v hv=>by rw[bT];exact b7.cellL hv))) rfl ?_;have b8:R=(⟨M.win,M.next,ja3 M.win M.next (jcs M i v q)⟩,0):=by
    rw[HR.o];unfold jbI;rw[HY.o.2.2.2.2];simp only[HY.o.1,HP.o.1,if_false];rw[HP.o.2];rfl
   rw[b8]
   obtain⟨f0,f7,b9⟩:=e9.o
   have f8:=a8.size
   refine⟨_,rfl,f0.trans' a8 fun x hx e=>by have e:x=w.heap.size+1:=e;omega,?_⟩
   refine (b9.keeps a8 (fun b hb e=>?_)).mono fun b hb=>?_
   ·have e:b=w.heap.size+1:=e
    rcases hb with⟨h,_⟩ |⟨h,_⟩ <;> omega
   ·rcases hb with⟨h1,h2⟩ |⟨h1,h2⟩
    ·exact⟨by omega,by omega⟩
    ·exact⟨by omega,by omega⟩
abbrev EB:jaO Tryz.prog 3 Int:=jxZ Tryz.uInt
theorem Tryz.uRoots:Tryz.prog.underlying 75=some (.map 3 9):=vY
def chC(M:MdN)(a:Option Addr)(c rm sb cb:Nat):List vV:=[.int .i64 (M.win:Int),.int .i64 (M.next:Int),.slice a M.all.length c,.map (some rm),.pointer (some ⟨sb,0,none⟩),.pointer (some ⟨cb,0,none⟩)]
structure ChM(D:Nat->Prop)(W:World)(b:Nat)(M:MdN)(a:Option Addr)(c rm sb cb:Nat)(es:List (Ent Int))(ck:Nat):Prop where
 blk:Blk W b (.cells (chC M a c rm sb cb).toArray 81)
 ver:VRow D W (.slice a M.all.length c) M.all
 map:Blk W rm (.map (EB.arr es) ck)
theorem ChM.keeps{b:Nat}{c:Nat}(h:ChM D W b M a c rm sb cb es ck)(k:jac F W W')(h1:¬ F b)(h2:¬ F rm)(h3:∀ b,D b->¬ F b):ChM D W' b M a c rm sb cb es ck:=
 ⟨h.blk.keeps k h1,h.ver.keeps k h3,h.map.keeps k h2⟩
theorem ChM.ext{b:Nat}{c:Nat}(h:ChM D W b M a c rm sb cb es ck)(k:Ext W W'):ChM D W' b M a c rm sb cb es ck:=h.keeps k (fun e=>e) (fun e=>e) fun _ _ e=>e
theorem jgE(D:Nat->Prop)(b:Nat)(M:MdN)(a:Option Addr)(c rm sb cb:Nat)(es:List (Ent Int))(ck:Nat)(h:ChM D w b M a c rm sb cb es ck) :
  vR 31 #[.pointer (some ⟨b,0,none⟩)] w (.bool true):=by
 have e:w.cell? ⟨b,4,none⟩=some (.pointer (some ⟨sb,0,none⟩)):=h.blk.cellL rfl;clear h;go_enter Tryz.func31,Tryz.ntmps31;go_wp2_with fail
 go_ret
 exact⟨rfl,ExtR w⟩
theorem jep{w:vW}{a:Act}{d:Option Tmp}{x y:Operand}{ty:TypeId}{pos:String}{af:Array Edge}{g:Option (Nat × Bool)}(ok:Bool)(hb:Blk w rm (.map (EB.arr es) ck))(hx:a.eval x=.map (some rm))(hy:a.eval y=.int .i64 bk) :
  (execOp a.eval ⟨d,.lookup 75 x y ok,ty,pos,af,g⟩).run Tryz.prog w=.ok (.value (if ok then .tuple #[(jay es bk).getD (.string ⟨#[]⟩),.bool (jay es bk).isSome]else (jay es bk).getD (.string ⟨#[]⟩))) w:=by
 have:=jbQ EB Tryz.uRoots hb (z:=.string ⟨#[]⟩) vY bk ok
 have e:EB.κ bk=.int .i64 bk:=rfl;rw[e]at this;simp only[execOp,hx,hy,bK,this,Result.andThen,cP]
theorem jin(D:Nat->Prop)(b:Nat)(M:MdN)(a:Option Addr)(c rm sb cb:Nat)(es:List (Ent Int))(ck:Nat)(h:ChM D w b M a c rm sb cb es ck)(hl:M.all.length<=1000)(bk:Int)(i:Nat)(v:VerN)(r:vB)(hp:jbG M.all bk=some i)(hv:M.all[i]?=some v)(hr:jay es bk=some (.string r)) :
  vQ 33 #[.pointer (some ⟨b,0,none⟩),.int .i64 bk] w fun e w'=>∃ x:VX,e=.returned (.tuple #[.agg x.cells.toArray,.string r,.nilIface])/\x.v=v/\RdPD D w x.ev v.ents/\RdCD D w x.cv v.chgs/\Ext w w':=by
 have H:=Hd h;have HP:=Hd (bA hp (bA hv (bA hr hl)))
 obtain⟨b1,o1,a1,c1,a2,c2,rfl,q0,q1,q2,q3,r1,r2⟩:=h.ver.at' hv
 have HQ:=Hd (bA q0 (bA q1 (bA q2 (bA q3 (bA r1 r2)))));have a5:=(bH.1 hv).1;clear q0 q1 q2 q3 r1 r2;have a9:∀ (fn:Fn) (first cap:Array vV) (w:vW),(Instr.makeFunc fn first cap).run Tryz.prog w=.ok (.func fn first cap) w:=fun _ _ _ _=>rfl
 obtain⟨n,a4⟩:=vE M.all.length
 have HN:=Hd a4;clear h hp hv hr hl a4;go_enter Tryz.func33,Tryz.ntmps33;go_wp2_with fail
 have q:=((ExtR w).alloc (.cells #[.int .i64 bk] 3)).alloc (.cells #[.int .i64 0,.slice none 0 0,.slice none 0 0,.int .i64 0] 86);have Z:=(Blk.new w (.cells #[.int .i64 bk] 3)).alloc (.cells #[.int .i64 0,.slice none 0 0,.slice none 0 0,.int .i64 0] 86);have a0:Blk ((w.alloc (.cells #[.int .i64 bk] 3)).alloc (.cells #[.int .i64 0,.slice none 0 0,.slice none 0 0,.int .i64 0] 86)) (w.heap.size+1) (.cells #[.int .i64 0,.slice none 0 0,.slice none 0 0,.int .i64 0] 86):=by
  have:=Blk.new (w.alloc (.cells #[.int .i64 bk] 3)) (.cells #[.int .i64 0,.slice none 0 0,.slice none 0 0,.int .i64 0] 86)
  rwa [show (w.alloc (.cells #[.int .i64 bk] 3)).heap.size=w.heap.size+1 from fX _]at this
 generalize (w.alloc (.cells #[.int .i64 bk] 3)).alloc (.cells #[.int .i64 0,.slice none 0 0,.slice none 0 0,.int .i64 0] 86)=w1 at q Z a0 ⊢;refine vC (jgE w1 D b M (some ⟨b1,o1,none⟩) c rm sb cb es ck (H.o.ext q)) fun w2 A=>?_;have O:=Hd (bA (H.o.ext (q.trans A)) (bA (Z.keeps A (fun h=>h)) (bA (a0.keeps A (fun h=>h)) (q.trans A))));clear q Z a0 A;go_wp2_with fail
 refine jaj [0,1,2,3,4,5,6,7,8,9,10] Ext ExtR ExtT vY vY vY ?_
 refine vK ?_
 refine qKV _ (.pointer (some ⟨b,0,none⟩)) rfl (fun w1 _=>by kernel_rfl) ?_;refine vS ?_
 refine vK ?_
 refine qKL ⟨b,3,none⟩ (.map (some rm)) rfl (fun w3 X=>jag (fun w=>by kernel_rfl) (jaa (O.o.1.blk.cellL rfl) ((jak _).trans X))) ?_;refine vS ?_;refine qKL ⟨w.heap.size,0,none⟩ (.int .i64 bk) rfl (fun w3 X=>jag (fun w=>by kernel_rfl) (jaa (O.o.2.1.cell (i:=0) rfl) ((jak _).trans X))) ?_;refine vS ?_;refine qKV _ (.tuple #[.string r,.bool true]) rfl (fun w3 X=>by
  refine (jep true (O.o.1.map.keeps ((jak _).trans X) (fun h=>h)) rfl rfl).trans ?_;rw[HP.o.2.2.1];rfl) ?_
 refine vS ?_;iterate 5 refine vK ?_
 refine qKE (fun w3 X=>?_);have J:Ext w2 w3:=(jak _).trans X;have H3:=Hd (bA (O.o.1.ext J) (bA (O.o.2.1.keeps J (fun h=>h)) (bA (O.o.2.2.1.keeps J (fun h=>h)) (O.o.2.2.2.trans J))));have q2:w3.cell? ⟨b,2,none⟩=some (.slice (some ⟨b1,o1,none⟩) n c):=by rw[HN.o];exact H3.o.1.blk.cellL rfl
 clear X J O;go_wp2_with fail
 have a3:=jmG 65 jxy (fun args w=>by kernel_rfl) w3 D (some ⟨b1,o1,none⟩) c M.all H3.o.1.ver (by have:=HP.o.2.2.2;omega) w.heap.size bk (H3.o.2.1.cell (i:=0) rfl);rw[<-HN.o]at a3;refine a3.mono ?_;rintro e w4 ⟨rfl,K⟩;rw[HP.o.1];have hE:=H3.o.2.2.2.trans K;have H4:=Hd (bA hE (H3.o.2.2.1.keeps K (fun h=>h)));have q2:w4.cell? ⟨b,2,none⟩=some (.slice (some ⟨b1,o1,none⟩) n c):=jaa q2 K;have p0:=jaa HQ.o.1 hE;have p1:=jaa HQ.o.2.1 hE;have p2:=jaa HQ.o.2.2.1 hE;have p3:=jaa HQ.o.2.2.2.1 hE;have b0:(i:Int) < (n:Int):=by have:=HN.o;omega
 have b2:¬(i:Int) < 0:=vO
 unfold idxP;clear hE K a3 a5 H3;go_wp2_with (refine jad (vs:=[.int .i64 (v.block:Int),.slice a1 v.ents.length c1,.slice a2 v.chgs.length c2,.int .i64 (v.pins:Int)]) rfl rfl rfl rfl H4.o.2 rfl Tryz.szVer (by simp[Value.oneCell']) ?_;intro W8 a7 a8)
 refine bodyPost_ret (jbx rfl rfl rfl rfl (jdj W8 (w.heap.size+1) 0 [.int .i64 (v.block:Int),.slice a1 v.ents.length c1,.slice a2 v.chgs.length c2,.int .i64 (v.pins:Int)] rfl (fun j u hu=>by rw[bT];exact a7.cellL hu))) rfl ?_
 exact⟨⟨v,.slice a1 v.ents.length c1,.slice a2 v.chgs.length c2⟩,rfl,rfl,HQ.o.2.2.2.2.1,HQ.o.2.2.2.2.2,H4.o.1.trans' a8 fun x hx e=>by have e:x=w.heap.size+1:=e;omega⟩
end
section
open Go Go.RowKit
attribute [local go_sem] Oper.semAt_some
def jfO:vV:=.iface 27 (.int .i64 4)
theorem jgk:vQ 34 #[.nilIface,jfO] w fun e w'=>e=.returned (.bool false)/\w=w':=by
 unfold jfO;have q:∀ w,(binOp .eql 88 .nilIface (.iface 27 (.int .i64 4))).run Tryz.prog w=.ok (.bool false) w:=fun w=>by kernel_rfl
 unfold vQ;go_in;go_wp2_with fail
 go_ret
 exact⟨rfl,rfl⟩
theorem jzj:vQ 67 #[jfO,jfO,.bool true] w fun e w'=>e=.returned (.bool true)/\w=w':=by
 have q:∀ w,(binOp .eql 88 jfO jfO).run Tryz.prog w=.ok (.bool true) w:=fun w=>by kernel_rfl
 unfold jfO at *;unfold vQ;go_in;go_wp2_with fail
 refine wp_loop_rounds 1 ?_;rw[rounds_succ];go_wp2_with fail
 go_ret
 exact⟨rfl,rfl⟩
theorem jmJ:vQ 34 #[jfO,jfO] w fun e w'=>e=.returned (.bool true)/\w=w':=by
 have q:=Hd (jzj w);have A:∀ w,(binOp .eql 88 jfO .nilIface).run Tryz.prog w=.ok (.bool false) w:=fun w=>by kernel_rfl
 unfold jfO at *;have J:∀ w,(callFunc 66 #[.iface 27 (.int .i64 4)]).run Tryz.prog w=.ok (.value (.iface 216 (.agg #[.pointer (some ⟨3,27,none⟩)]))) w:=fun w=>by kernel_rfl
 have H:∀ w,(callFunc 265 #[.agg #[.pointer (some ⟨3,27,none⟩)]]).run Tryz.prog w=.ok (.value (.bool true)) w:=fun w=>by kernel_rfl
 have K:=Tryz.isMethodComparable 520;unfold vQ;go_in;go_wp2_with fail
 refine q.o.mono ?_;rintro e w1 ⟨rfl,rfl⟩;go_wp2_with fail
 go_ret
 exact⟨rfl,rfl⟩
end
section
open Go Go.RowKit
theorem jps(D:Nat->Prop)(b:Nat)(M:MdN)(a:Option Addr)(c rm sb cb:Nat)(es:List (Ent Int))(ck:Nat)(h:ChM D w b M a c rm sb cb es ck)(bk:Int)(hr:jay es bk=none) :
  vR 33 #[.pointer (some ⟨b,0,none⟩),.int .i64 bk] w (.tuple #[.agg jlX.cells.toArray,.string ⟨#[]⟩,jfO]):=by
 have H:=Hd h;have HP:=Hd hr;clear h hr;go_enter Tryz.func33,Tryz.ntmps33;go_wp2_with fail
 have q:=((ExtR w).alloc (.cells #[.int .i64 bk] 3)).alloc (.cells #[.int .i64 0,.slice none 0 0,.slice none 0 0,.int .i64 0] 86);have K:=(Blk.new w (.cells #[.int .i64 bk] 3)).alloc (.cells #[.int .i64 0,.slice none 0 0,.slice none 0 0,.int .i64 0] 86);have O:Blk ((w.alloc (.cells #[.int .i64 bk] 3)).alloc (.cells #[.int .i64 0,.slice none 0 0,.slice none 0 0,.int .i64 0] 86)) (w.heap.size+1) (.cells #[.int .i64 0,.slice none 0 0,.slice none 0 0,.int .i64 0] 86):=by
  have:=Blk.new (w.alloc (.cells #[.int .i64 bk] 3)) (.cells #[.int .i64 0,.slice none 0 0,.slice none 0 0,.int .i64 0] 86)
  rwa [show (w.alloc (.cells #[.int .i64 bk] 3)).heap.size=w.heap.size+1 from fX _]at this
 generalize (w.alloc (.cells #[.int .i64 bk] 3)).alloc (.cells #[.int .i64 0,.slice none 0 0,.slice none 0 0,.int .i64 0] 86)=w1 at q K O ⊢;refine vC (jgE w1 D b M a c rm sb cb es ck (H.o.ext q)) fun w2 A=>?_;have Z:=Hd (bA (H.o.ext (q.trans A)) (bA (K.keeps A (fun h=>h)) (bA (O.keeps A (fun h=>h)) (q.trans A))));clear q K O A;go_wp2_with fail
 refine jaj [0,1,2,3,4,5,6,7,8,9,10] Ext ExtR ExtT vY vY vY ?_
 refine vK ?_
 refine qKV _ (.pointer (some ⟨b,0,none⟩)) rfl (fun w1 _=>by kernel_rfl) ?_;refine vS ?_
 refine vK ?_
 refine qKL ⟨b,3,none⟩ (.map (some rm)) rfl (fun w3 J=>jag (fun w=>by kernel_rfl) (jaa (Z.o.1.blk.cellL rfl) ((jak _).trans J))) ?_;refine vS ?_;refine qKL ⟨w.heap.size,0,none⟩ (.int .i64 bk) rfl (fun w3 J=>jag (fun w=>by kernel_rfl) (jaa (Z.o.2.1.cell (i:=0) rfl) ((jak _).trans J))) ?_;refine vS ?_;refine qKV _ (.tuple #[.string ⟨#[]⟩,.bool false]) rfl (fun w3 J=>by
  refine (jep true (Z.o.1.map.keeps ((jak _).trans J) (fun h=>h)) rfl rfl).trans ?_;rw[HP.o];rfl) ?_
 refine vS ?_;iterate 5 refine vK ?_
 refine qKE (fun w3 J=>?_);have X:Ext w2 w3:=(jak _).trans J;have H3:=Hd (bA (Z.o.2.2.1.keeps X (fun h=>h)) (Z.o.2.2.2.trans X));clear J X Z;go_wp2_with (refine jad (vs:=jlX.cells) rfl rfl rfl rfl H3.o.1 rfl Tryz.szVer (by simp[jlX,VX.cells,Value.oneCell']) ?_;intro W8 a0 a1)
 refine bodyPost_ret (jbx rfl rfl rfl rfl (jdj W8 (w.heap.size+1) 0 jlX.cells rfl (fun j u hu=>by rw[bT];exact a0.cellL hu))) rfl ?_
 exact⟨rfl,H3.o.2.trans' a1 fun x hx e=>by have e:x=w.heap.size+1:=e;omega⟩
theorem jmd(D:Nat->Prop)(b:Nat)(M:MdN)(a:Option Addr)(c rm sb cb:Nat)(es:List (Ent Int))(ck:Nat)(h:ChM D w b M a c rm sb cb es ck)(hl:M.all.length<=1000)(bk:Int)(i:Nat)(v:VerN)(r:vB)(hp:jbG M.all bk=some i)(hv:M.all[i]?=some v)(hr:jay es bk=some (.string r)) :
  vR 9 #[.pointer (some ⟨b,0,none⟩),.int .i64 bk] w (.tuple #[.string r,.int .i64 0]):=by
 have Z:=Hd (jin w D b M a c rm sb cb es ck h hl bk i v r hp hv hr);clear h hp hv hr hl;go_enter Tryz.func9,Tryz.ntmps9;go_wp2_with fail
 refine Z.o.mono ?_;rintro e w1 ⟨x,rfl,q,h1,h2,hE⟩
 obtain⟨J,ev,cv⟩:=x
 have q:J=v:=q;subst q
 obtain⟨a1,c1,A⟩:=h1.1.sl
 obtain⟨a2,c2,H⟩:=h2.1.sl
 have A:ev=_:=A;have H:cv=_:=H;subst A H;have HE:=Hd hE;clear h1 h2 hE Z;unfold VX.cells;go_wp2_with (first |(refine jah Tryz.allocVer rfl rfl ?_;intro W2 K O) |(refine jad (vs:=[.int .i64 (J.block:Int),.slice a1 J.ents.length c1,.slice a2 J.chgs.length c2,.int .i64 (J.pins:Int)]) rfl rfl rfl rfl K rfl Tryz.szVer (by simp[Value.oneCell']) ?_;intro W3 a0 X))
 refine (jgk W3).mono ?_;rintro e w4 ⟨rfl,rfl⟩;go_wp2_with fail
 go_ret2
 exact⟨rfl,(HE.o.trans O).trans' X fun x hx e=>by have e:x=w1.heap.size:=e;have:=HE.o.size;omega⟩
theorem jpB(D:Nat->Prop)(b:Nat)(M:MdN)(a:Option Addr)(c rm sb cb:Nat)(es:List (Ent Int))(ck:Nat)(h:ChM D w b M a c rm sb cb es ck)(bk:Int)(hr:jay es bk=none) :
  vR 9 #[.pointer (some ⟨b,0,none⟩),.int .i64 bk] w (.tuple #[.string ⟨#[]⟩,.int .i64 4]):=by
 have J:=Hd (jps w D b M a c rm sb cb es ck h bk hr);clear h hr;go_enter Tryz.func9,Tryz.ntmps9;go_wp2_with fail
 refine J.o.mono ?_;rintro e w1 ⟨rfl,K⟩;have O:=Hd K;clear K J;unfold jfO jlX VX.cells;go_wp2_with (first |(refine jah Tryz.allocVer rfl rfl ?_;intro W2 q A) |(refine jad (vs:=[.int .i64 0,.slice none 0 0,.slice none 0 0,.int .i64 0]) rfl rfl rfl rfl q rfl Tryz.szVer (by simp[Value.oneCell']) ?_;intro X Z H))
 refine (jmJ X).mono ?_;rintro e w4 ⟨rfl,rfl⟩;go_wp2_with fail
 go_ret2
 exact⟨rfl,(O.o.trans A).trans' H fun x hx e=>by have e:x=w1.heap.size:=e;have:=O.o.size;omega⟩
theorem jfm{ops:Array Oper}{rest:List Oper}{a:Act}{w:vW}{T T2:TypeId}{x y:Operand}{b:Nat}(hgd:o.guard=none)(ho:o.op=.store T x y)(hx:a.eval x=.pointer (some ⟨b,0,none⟩))(hy:a.eval y=.agg vs.toArray)
  (hB:Blk w b (.cells old.toArray T2)) (hl:vs.length<=old.length) (hi:(P.info? T).map (·.size)=some vs.length) (h1:∀ v∈vs,v.oneCell'=true)
  (h:∀ W,Blk W b (.cells (vs++old.drop vs.length).toArray T2)->jac (fun z=>z=b) w W->wpList P ops Q rest (a.put o.dst undef) W):wpList P ops Q (o :: rest) a w:=by
 refine wpList_store_mid hgd T x y ho b 0 vs.toArray hx hy (by have:=jg9 hB (o:=0) (n:=vs.length) vO;simpa using this) (by simpa using hi) (all_oneCell_toArray h1) (h _ ?_ (jac.oneSetCells b vs 0 w))
 have:=Blk.setCells vs 0 w old hB vO
 simpa using this
theorem ChM.turn{b:Nat}{c:Nat}(h:ChM D W b M a c rm sb cb es ck)(k:Ext W W')(hv:VRow E W' (.slice a' M'.all.length c') M'.all)
  (hB:Blk W'' b (.cells (([.int .i64 (M'.win:Int),.int .i64 (M'.next:Int),.slice a' M'.all.length c']:List vV)++(chC M a c rm sb cb).drop 3).toArray 81)) (k':jac (fun z=>z=b) W' W'') (hrb:rm≠b) (hE:∀ z,E z->z≠b):ChM E W'' b M' a' c' rm sb cb es ck:=
 ⟨hB,hv.keeps k' hE,(h.map.keeps k (fun e=>e)).keeps k' hrb⟩
theorem jrf{x:Int}:(pinN M x).2.2≠0->(pinN M x).1=M/\(pinN M x).2.1=0:=by
 unfold pinN;split
 ·exact fun _=>⟨rfl,rfl⟩
 ·split
  ·exact fun _=>⟨rfl,rfl⟩
  ·split
   ·exact fun _=>⟨rfl,rfl⟩
   ·exact fun h=>absurd rfl h
theorem ChM.mono{b:Nat}{c:Nat}(h:ChM D W b M a c rm sb cb es ck)(k:∀ z,D z->E z):ChM E W b M a c rm sb cb es ck:=⟨h.blk,h.ver.mono k,h.map⟩
theorem jvk(D:Nat->Prop)(b:Nat)(M:MdN)(a:Option Addr)(c rm sb cb:Nat)(es:List (Ent Int))(ck:Nat)(h:ChM D w b M a c rm sb cb es ck)(hM:MdOk M)(hl:M.all.length<=900)(hb:¬ D b)(hrb:rm≠b)(at':Int) :
  vQ 22 #[.pointer (some ⟨b,0,none⟩),.int .i64 at'] w fun e w'=>e=.returned (.tuple #[.int .i64 ((pinN M at').2.1:Int),.int .i64 (pinN M at').2.2])/\jac (fun z=>z=b) w w'/\∃ a' c',ChM (fun z=>D z\/NewB w w' z) w' b (pinN M at').1 a' c' rm sb cb es ck:=by
 have H:=Hd h;have HP:=Hd (bA hM (bA hl (bA hb hrb)));have b2:=h.blk.lt
 obtain⟨R,hR⟩:=vE (pinN M at')
 have HR:=Hd hR;rw[<-hR]
 obtain⟨n,a7⟩:=vE M.all.length
 have HN:=Hd a7;clear h hM hl hb hrb hR a7;go_enter Tryz.func22,Tryz.ntmps22;go_wp2_with fail
 refine vC (jgE w D b M a c rm sb cb es ck H.o) fun w2 A=>?_;have q0:w2.cell? ⟨b,0,none⟩=some (.int .i64 (M.win:Int)):=(H.o.ext A).blk.cellL rfl;have q1:w2.cell? ⟨b,1,none⟩=some (.int .i64 (M.next:Int)):=(H.o.ext A).blk.cellL rfl;have q2:w2.cell? ⟨b,2,none⟩=some (.slice a n c):=by rw[HN.o];exact (H.o.ext A).blk.cellL rfl
 have q:=Hd A;clear A;go_wp2_with fail
 have hp:=jyo w2 D M _ (H.o.ext q.o).ver HP.o.1 HP.o.2.1 at';rw[<-HN.o, <-HR.o]at hp;refine hp.mono ?_;rintro e X ⟨av,rfl,a8,Z⟩
 obtain⟨a3,c3,a9⟩:=Z.sl
 subst a9;have J:=Hd (bA a8 Z);clear hp a8 Z q0 q1 q2;unfold modV;have b0:=((H.o.ext q.o).ext J.o.1).blk
 by_cases he:R.2.2=0
 ·have e1:(R.2.2 != 0)=false:=by rw[he];rfl
  have a0:=Hd he;rw[he];clear he e1;go_wp2_with (first
   |(refine jah Tryz.allocMod rfl rfl ?_;intro W4 a1 a2)
   |(refine jad (vs:=[.int .i64 (R.1.win:Int),.int .i64 (R.1.next:Int),.slice a3 R.1.all.length c3]) rfl rfl rfl rfl a1 rfl Tryz.szMod (by simp[Value.oneCell']) ?_;intro W5 O a4
     have q0:W5.cell? ⟨X.heap.size,0,none⟩=some (.int .i64 (R.1.win:Int)):=O.cellL rfl;have q1:W5.cell? ⟨X.heap.size,1,none⟩=some (.int .i64 (R.1.next:Int)):=O.cellL rfl;have q2:W5.cell? ⟨X.heap.size,2,none⟩=some (.slice a3 R.1.all.length c3):=O.cellL rfl;have k5:Ext X W5:=a2.trans' a4 fun x hx e=>by have e:x=X.heap.size:=e;omega
     have K:=Hd (bA k5 (b0.keeps k5 (fun h=>h)));clear k5)
   |(refine jfm (old:=chC M a c rm sb cb) (vs:=[.int .i64 (R.1.win:Int),.int .i64 (R.1.next:Int),.slice a3 R.1.all.length c3]) rfl rfl rfl rfl K.o.2 (by show 3<=6;decide) Tryz.szMod (by simp[Value.oneCell']) ?_;intro W6 b1 a5))
  go_ret2
  refine⟨by rw[a0.o];rfl,?_,a3,c3,?_⟩
  ·exact ((q.o.trans (J.o.1.trans K.o.1)).mono (fun _ _ e=>e.elim)).trans' a5 (fun x _ e=>e)
  ·have b3:=a5.size
   have b4:=K.o.1.size;have b5:=q.o.size;have hv:=J.o.2.ext K.o.1;refine (H.o.turn (q.o.trans (J.o.1.trans K.o.1)) hv b1 a5 HP.o.2.2.2 (fun z hz e=>?_)) |>.mono fun z hz=>?_
   ·have:=hz.1;omega
   ·exact .inr ⟨by have:=hz.1;omega,by have:=hz.2;omega⟩
 ·have e1:(R.2.2 != 0)=true:=by simpa using he
  have a0:=Hd he;clear he;go_wp2_with (first
   |(refine jah Tryz.allocMod rfl rfl ?_;intro W4 a1 a2)
   |(refine jad (vs:=[.int .i64 (R.1.win:Int),.int .i64 (R.1.next:Int),.slice a3 R.1.all.length c3]) rfl rfl rfl rfl a1 rfl Tryz.szMod (by simp[Value.oneCell']) ?_;intro W5 O a4))
  go_ret2;have k5:Ext X W5:=a2.trans' a4 fun x hx e=>by have e:x=X.heap.size:=e;omega
  have hk:=q.o.trans (J.o.1.trans k5)
  obtain⟨g1,g2⟩:=jrf (M:=M) (x:=at') (by rw[<-HR.o];exact a0.o)
  rw[<-HR.o]at g1 g2
  refine⟨by rw[g2];rfl,hk.mono (fun _ _ e=>e.elim),a,c,?_⟩
  rw[g1];exact (H.o.ext hk).mono fun z hz=>.inl hz
end
section
open Go Go.RowKit
attribute [local go_sem] Oper.semAt_some
def ju4(W:vW)(b c:Nat):Prop:=∃ rv,W.cell? ⟨b,1,none⟩=some rv/\rv.ownBlock=some c
def RK(w W:vW):Prop:=w.heap.size<=W.heap.size/\∀ b,b < w.heap.size->∀ c,ju4 W b c->ju4 w b c
theorem jj4{b:Nat}(h:W'.heap[b]?=W.heap[b]?):W'.cell? ⟨b,i,none⟩=W.cell? ⟨b,i,none⟩:=by unfold World.cell?;rw[h]
theorem RK.refl:RK w w:=⟨bL _,fun _ _ _ h=>h⟩
theorem RK.trans{a c:vW}(h:RK a b)(k:RK b c):RK a c:=⟨bE h.1 k.1,fun x e y r=>h.2 x e y (k.2 x (bC e h.1) y r)⟩
theorem RK.keeps{w:vW}(h:RK w W)(k:jac F W W')(hF:∀ b,F b->w.heap.size<=b):RK w W':=⟨bE h.1 k.size,fun b hb c r=>by
 obtain⟨q,e,A⟩:=r
 rw[jj4 (k.block b (bC hb h.1) (fun f=>by have:=hF b f;omega))]at e;exact h.2 b hb c ⟨q,e,A⟩⟩
theorem RK.ext{w:vW}(h:RK w W)(e:Ext W W'):RK w W':=h.keeps e (fun _ f=>f.elim)
theorem RK.put{w:vW}{es:Array MapEntry}(h:RK w W)(k:jac (fun z=>z=bm) W W')(hm:Blk W' bm (.map es ck)):RK w W':=⟨bE h.1 k.size,fun b hb c r=>by
 obtain⟨A,q,H⟩:=r
 by_cases e:b=bm
 ·subst e
  unfold World.cell? at q;rw[show W'.heap[b]?=_ from hm]at q;cases q
 ·rw[jj4 (k.block b (bC hb h.1) e)]at q
  exact h.2 b hb c ⟨A,q,H⟩⟩
theorem RK.set{w:vW}(h:RK w W)(zb:Nat)(hf:f=2\/f=3)(v:vV):RK w (W.setCell ⟨zb,f,none⟩ v):=⟨by rw[fC];exact h.1,fun b hb c r=>by
 obtain⟨A,q,H⟩:=r
 rw[World.cell?_setCell_other _ _ _ _ (fun e=>by have:=congrArg Addr.off e;rcases hf with rfl | rfl <;> cases this)]at q;exact h.2 b hb c ⟨A,q,H⟩⟩
def jlb(w W:vW)(G:vT):Prop:=∀ x∈G,∀ c,ju4 W x.2.1 c->w.heap.size<=c
theorem jlb.rk{w:vW}(h:jlb w W G)(hk:RK W W')(hl:∀ x∈G,x.2.1 < W.heap.size):jlb w W' G:=fun x e c r=>h x e c (hk.2 _ (hl x e) c r)
def AnyL(L:vM):Prop:=∀ t∈L,(∃ n,jbd t n)\/GetE t
def jxf(w:vW)(bg:Nat)(L:vM)(iv:vV)(W:vW):Prop:=∃ i:Nat,i<=L.length/\iv=.int .i64 i/\(∀ t∈L.take i,∃ n,jbd t n)/\∃ G,ReS w bg G (L.take i) W/\jlb w W G
def AnyQ(Q:Prop)(L:vM):Prop:=∀ t∈L,(∃ n,jbd t n)\/(GetE t/\Q)
def RdA(Q:Prop)(w:vW)(L:vM)(e:Ending)(w':vW):Prop:=(e=.returned (.tuple #[.map none,.int .i64 2])/\Ext w w'/\Q)\/((∀ t∈L,∃ n,jbd t n)/\∃ bg G,e=.returned (.tuple #[.map (some bg),.int .i64 0])/\ReS w bg G L w'/\jlb w w' G)
theorem jnk{P:vB->Prop}(h:∀ x∈L.take i,P x)(ht:L[i]?=some t)(hp:P t):∀ x∈L.take (i+1),P x:=fun x e=>by
 rw[bX,ht]at e;rcases bQ.1 e with e | e
 ·exact h x e
 ·have e:x∈[t]:=e
  rw[bM.1 e];exact hp
theorem jrH(hc:jbA w)(hGE:ErrT w)(v:vV)(L:vM)(hv:RdS w v L)(hl:L.length<=1000)(h0:L≠[])(Q:Prop)(hN:AnyQ Q L) :
  vQ 58 #[v] w (RdA Q w L):=by
 have g2:0 < L.length:=List.length_pos_iff.2 h0
 obtain⟨a,c,rfl,_⟩:=hv.slice
 have f3:=Hd hv;have HC:=Hd hc;have HN:=Hd hN;have f4:=Hd hGE;have f5:=Tryz.makeMapIt w;clear hv hc hN h0 hGE;have g3:((L.length:Int) == 0)=false:=by simpa using (by omega:L.length≠0)
 go_enter Tryz.func58,Tryz.ntmps58;go_wp2_with fail
 obtain⟨bg,c1⟩:=vE w.heap.size
 have e0:=Hd c1;rw[<-c1];clear c1 f5;go_loopw [16] (fun iv wr=>jxf w bg L iv wr) (fun iv _=>L.length - (intOf iv).toNat)
 case atStart =>
  refine⟨0,cB _,rfl,fun t ht=>(by cases ht),[],⟨(ExtR w).alloc _,⟨⟨[],0,?_,MapV.nil 0⟩,by simp,fun x q=>by cases q⟩,rfl,by rw[e0.o];exact bL _,fun x q=>by cases q⟩,fun x q=>by cases q⟩
  rw[e0.o];exact Blk.new w _
 case round =>
  obtain⟨i,hi,rfl,b0,G,hS,e1⟩:=hrel
  have c2:=Hd e1;clear e1;have b2:=Hd b0;have J:=Hd hS;clear hS b0
  by_cases hlt:i < L.length
  ·have b1:(i:Int) < (L.length:Int):=vO
   obtain⟨t,ht⟩:∃ t,L[i]?=some t:=⟨_,bB hlt⟩
   obtain⟨ax,cx,hh,O⟩:=f3.o.slice
   obtain⟨ba,oa,f6,c3⟩:=O i t ht
   subst f6;cases hh;have q1:=jaa c3 J.o.ext;rcases HN.o t (bG ht)with hnode |⟨hbad,hq⟩
   case inr =>
    have d5:=Hd hbad;have HQ:=Hd hq
    obtain⟨n,hn⟩:=vE jas
    have a5:=Hd (show n.refs.length=16 by rw[hn];rfl);have hg:=d5.o wr (f4.o.ext J.o.ext);unfold jr3 at hg;rw[<-hn]at hg;clear O c3 ht hbad hn hq;go_wp2_with fail
    refine hg.mono ?_;rintro e w4 ⟨rfl,hE⟩;have b7:=Hd (J.o.ext.trans hE);clear hE hg q1;unfold jae.V;go_wp2_with (refine jah Tryz.allocNode rfl rfl ?_;intro W3 b8 b9;refine jad (vs:=n.cells) rfl rfl rfl rfl b8 (by rw[n.cells_len a5.o];rfl) (by rw[n.cells_len a5.o];exact Tryz.szNode) (jae.one _) ?_;intro W4 c4 c0;have X:Ext w4 W4:=b9.trans' c0 (fun x q e=>by have e:x=w4.heap.size:=e;omega))
    go_ret2;exact .inl ⟨rfl,b7.o.trans X,HQ.o⟩
   have a1:=Hd (jnk b2.o ht hnode)
   obtain⟨n0,e2⟩:=hnode
   have c5:=jcc e2;have e3:=Hd (joq ht);have e4:=Hd (show itOf t=⟨t,jaP (nodeOf t),0,0⟩from rfl)
   obtain⟨n,e5⟩:=vE (nodeOf t)
   rw[<-e5]at c5 e4;have g4:=jhx c5
   obtain⟨e6,g,hg⟩:=c5
   have HG:=Hd hg;have a5:=Hd ((hg.one (inlP g)).refs);have e7:=Hd e6;clear O e2 e5 e6 hg c3 ht;go_wp2_with fail
   rw[e7.o];refine vH (jer (inlP g) wr n HG.o) fun w4 b7=>?_;rw[<-e7.o];clear q1;unfold jae.V;go_wp2_with (refine jah Tryz.allocNode rfl rfl ?_;intro W3 b8 b9;refine jad (vs:=n.cells) rfl rfl rfl rfl b8 (by rw[n.cells_len a5.o];rfl) (by rw[n.cells_len a5.o];exact Tryz.szNode) (jae.one _) ?_;intro W4 c4 c0;have X:Ext w4 W4:=b9.trans' c0 (fun x q e=>by have e:x=w4.heap.size:=e;omega))
   have c7:=Hd (b7.o.trans X);have e8:=Hd c4;clear b8 b9 c4 c0 X b7;refine vH (of_t _ _ [t] (by simp) (jeD W4 [t] 9) (HC.o.ext ((J.o.ext.trans c7.o).alloc _))) fun w6 hE=>?_;rw[jdS];have c9:=((ExtR W4).alloc (.cells #[.string t] 9)).trans hE;have d0:=Hd (c7.o.trans c9);have f7:=Hd (e8.o.keeps c9 (fun h=>h));have A:=Hd (J.o.keeps d0.o);have H:=A.o.at'.look (shaB t) false;have d1:=Hd (ju8 (L:=G) (k:=ky t));have a7:Hid ((shaB t).data.toList=ky t):=rfl;have d2:=Hd (show addG (G.map kvI) t=if (G.map kvI).any (fun x=>decide (ky t=x.1))then G.map kvI else G.map kvI++[(ky t,itOf t)]from rfl);rw[a7.o]at H;simp only[cH,if_false]at H
   obtain⟨sh,e9⟩:=vE (shaB t)
   rw[<-e9]at H a7 ⊢
   obtain⟨kt,f0⟩:=vE (ky t)
   rw[<-f0]at H a7 d1 d2;clear c9 c7 e8 e9 f0;cases ha:atL G kt with
   | some x =>
    rw[ha]at H;unfold ptrO at H;simp only at H;have hz:addG (G.map kvI) t=G.map kvI:=by rw[d2.o,d1.o,ha];rfl
    have HZ:=Hd hz;clear ha hz;go_wp2_with fail
    go_roundw
    case rel =>
     exact⟨i+1,by omega,by go_num,a1.o,G,⟨A.o.ext,A.o.at',by rw[e3.o, <-A.o.is,HZ.o],A.o.new,A.o.news⟩,c2.o.rk ((RK.refl _).ext d0.o) (fun x q=>(J.o.at'.items x q).lt)⟩
    case measure=>exact vJ
   | none =>
    rw[ha]at H;unfold ptrO at H;simp only at H;have hz:addG (G.map kvI) t=G.map kvI++[(kt,itOf t)]:=by rw[d2.o,d1.o,ha];rfl
    have HZ:=Hd hz;have HA:=Hd ha;have a4:=jap w6 _ n a5.o f7.o;unfold jae.V at a4;clear ha hz;go_wp2_with (refine jaf 206 (.tmp 7) rfl rfl _ _ rfl a4 ?_)
    refine (jmF g n HG.o w6).mono ?_;rintro e K ⟨v8,rfl,a9,d6⟩;have d3:=a9.ext;have a2:=a9.new;have b3:=a9.own
    obtain⟨a8,c8,rfl⟩:=a9.sl
    have S8:=A.o.keeps d3;have f1:=S8.at'.ext ((ExtR K).alloc (.cells #[.string t,.slice a8 (jaP n).length c8,.int .i64 0,.int .i64 0] 133));have d4:=Blk.new K (.cells #[.string t,.slice a8 (jaP n).length c8,.int .i64 0,.int .i64 0] 133);have f2:jea (K.alloc (.cells #[.string t,.slice a8 (jaP n).length c8,.int .i64 0,.int .i64 0] 133)) K.heap.size (itOf t):=by
     rw[e4.o]
     exact⟨_,d4,jaZ b3 ((ExtR K).alloc _)⟩
    obtain⟨ob,g5,Z⟩:=f1.put sh (by rw[a7.o];exact HA.o) f2 (fun x q e=>by have:=(S8.at'.items x q).lt;omega)
    rw[a7.o]at Z;have b4:Ext w ((K.alloc (.cells #[.string t,.slice a8 (jaP n).length c8,.int .i64 0,.int .i64 0] 133)).putObj bg ob):=(S8.ext.alloc _).putObj (.inr S8.new) _;have d7:=S8.ext.size;have b5:RK wr K:=((RK.refl _).ext d0.o).ext d3;have a0:∃ es ck,Blk ((K.alloc (.cells #[.string t,.slice a8 (jaP n).length c8,.int .i64 0,.int .i64 0] 133)).putObj bg ob) bg (.map es ck):=by
     obtain⟨es,ck,h1,_⟩:=Z.mp
     exact⟨_,ck,h1⟩
    obtain⟨g6,g7,a0⟩:=a0
    have a3:=(b5.ext ((ExtR K).alloc (.cells #[.string t,.slice a8 (jaP n).length c8,.int .i64 0,.int .i64 0] 133))).put (jac.onePut _ bg ob) a0;have b6:=Hd (show jlb w ((K.alloc (.cells #[.string t,.slice a8 (jaP n).length c8,.int .i64 0,.int .i64 0] 133)).putObj bg ob) (G++[(kt,K.heap.size,itOf t)])from fun x q c r=>by
     rcases bQ.1 q with q | q
     ·exact c2.o.rk a3 (fun x q=>(J.o.at'.items x q).lt) x q c r
     ·rw[bM.1 q]at r
      obtain⟨rv,r1,r2⟩:=r
      have f8:K.heap.size≠bg:=fun e=>by
       obtain⟨_,_,h1,_⟩:=S8.at'.mp
       have:=h1.lt;omega
      have hq:((K.alloc (.cells #[.string t,.slice a8 (jaP n).length c8,.int .i64 0,.int .i64 0] 133)).putObj bg ob).cell? ⟨K.heap.size,1,none⟩=some (.slice a8 (jaP n).length c8):=(d4.keeps (jac.onePut _ bg ob) f8).cell (i:=1) vF;have r1:_=some rv:=r1;rw[hq]at r1;have e:=bP r1;rw[<-e]at r2
      have:=a2 c r2
      have:=A.o.ext.size
      omega)
    have d8:=Hd b4;have d9:=Hd Z;have f9:Hid (w.heap.size<=K.heap.size):=S8.ext.size;clear b5 a0 a3 d7 b4 Z f2 d4 f1 S8 b3 a2 d3 a9 d6 a4 H;go_wp2_with fail
    go_roundw
    case rel =>
     refine⟨i+1,by omega,by go_num,a1.o,G++[(kt,K.heap.size,itOf t)],⟨d8.o,d9.o,?_,A.o.new,?_⟩,b6.o⟩
     ·rw[e3.o, <-A.o.is,HZ.o,bY];rfl
     ·intro x q
      rcases bQ.1 q with q | q
      ·exact A.o.news x q
      ·simp only[bM]at q;subst q;exact f9.o
    case measure=>exact vJ
  ·have g0:i=L.length:=vO
   subst g0;have HS:=Hd (show ReS w bg G L wr by have:=J.o;rwa [cG]at this);clear J;go_wp2_with fail
   go_ret2;exact .inr ⟨by have h:=b2.o;rwa [cG]at h,bg,G,rfl,HS.o,c2.o⟩
def okM(S G:vT)(M:vM)(x:vB):Bool:=memB (jb6 M) x ||(atL S x.data.toList).isSome ||(atL G x.data.toList).isSome
theorem jmT(s bm:Nat)(room:Int)(S G:vT)(bg b:Nat)(h:jax w0 s bm room S)(hG:jcj w0 bg G)(W:vW)(M:vM)(hM:Meet w0 s S bg b M W)(x:vB)(hl:M.length<=1000000) :
  vQ 110 #[.string x,.pointer (some ⟨b+4,0,none⟩),.pointer (some ⟨b,0,none⟩),.pointer (some ⟨b+2,0,none⟩),.pointer (some ⟨b+1,0,none⟩)] W fun e w'=>e=.returned (.bool (okM S G M x))/\Meet w0 s S bg b (M++[x]) w':=by
 have HM:=Hd hM;have HS:=Hd h
 obtain⟨es,ck,h5,h6⟩:=hM.tab
 obtain⟨v,n,h1,h2,h3,h4⟩:=hM.var
 obtain⟨ad,cp,rfl⟩:=jaD h2
 obtain⟨cn,a9⟩:=vE (cntB M x)
 have f3:cn<=1000000:=by
  rw[a9];unfold cntB;refine bE List.count_le_length ?_;rw[bS];exact hl
 have e6:=h6 x;rw[<-a9]at e6;have d3:(Instr.lookup 124 (.map (some (b+3))) (.string x) false).run Tryz.prog W=.ok (.int .i64 (cn:Int)) W:=by
  have:=jbQ Tryz.ES Tryz.uMapSI h5 (Tryz.zeroI W) x.data.toList false
  rw[e6]at this;unfold cntV at this
  by_cases h0:cn=0
  ·rw[if_pos h0]at this;rw[h0];exact this
  ·rw[if_neg h0]at this;exact this
 obtain⟨es2,a0⟩:=vE (jba es x.data.toList (.int .i64 ((cn:Int)+1)) ck)
 obtain⟨b5,b1⟩:=vE (if (jay es x.data.toList).isSome then ck else ck+1)
 obtain⟨A,b6⟩:=vE (W.putObj (b+3) (.map (Tryz.ES.arr es2) b5))
 have d4:(Instr.mapUpdate 124 (.map (some (b+3))) (.string x) (.int .i64 ((cn:Int)+1))).run Tryz.prog W=.ok () A:=by
  have:=jbj Tryz.ES Tryz.uMapSI h5 x.data.toList (.int .i64 ((cn:Int)+1))
  rw[<-a0, <-b1, <-b6]at this;exact this
 have B2:Blk A (b+3) (.map (Tryz.ES.arr es2) b5):=by rw[b6];exact h5.put_same _
 have e7:∀ y:vB,jay es2 y.data.toList=cntV (cntB (M++[x]) y):=fun y=>by
  rw[a0,jdD,h6 y,jpE]
  by_cases hxy:y.data.toList=x.data.toList
  ·have e4:y=x:=ByteArray.ext (Array.ext' hxy)
   subst e4;rw[if_pos rfl,if_pos rfl, <-a9];unfold cntV;rw[if_neg vO];simp
  ·rw[if_neg hxy,if_neg (fun e=>hxy e.symm)];rfl
 have b2:(Instr.lookup 124 (.map (some (b+3))) (.string x) false).run Tryz.prog A=.ok (.int .i64 ((cn:Int)+1)) A:=by
  have:=jbQ Tryz.ES Tryz.uMapSI B2 (Tryz.zeroI A) x.data.toList false
  rw[a0,jdD,if_pos rfl]at this;exact this
 have K2:jac (fun z=>z=b+3) W A:=by rw[b6];exact jac.onePut _ _ _
 have q9:W.cell? ⟨b+4,0,none⟩=some (.map (some (b+3))):=hM.c9.cell (i:=0) vF;have E2:Ext w0 A:=hM.ext.trans' K2 (fun y hy e=>by have e:y=_:=e;have:=hM.lo;omega);have C9:=hM.c9.keeps K2 vO;have f4:A.cell? ⟨b+4,0,none⟩=some (.map (some (b+3))):=C9.cell (i:=0) vF;have C3:=hM.c3.keeps K2 vO;have f5:A.cell? ⟨b,0,none⟩=some (.pointer (some ⟨s,0,none⟩)):=C3.cell (i:=0) vF;have C5:=hM.c5.keeps K2 vO;have V2:=h1.keeps K2 vO;have O2:=jaL h2 K2 (fun z O e=>by have:=h4 z O;have e:z=_:=e;omega);have f6:A.cell? ⟨b+2,0,none⟩=some (.slice ad n cp):=V2.cell (i:=0) vF;have f0:A.frozen? ⟨b+2,0,none⟩=false:=V2.frozen;have qs:=(h.st.keeps E2 (fun g=>g)).cell (i:=1) (v:=.map (some bm)) vF;have H:=(h.mp.ext E2).look x false;simp only[cH,if_false]at H;have a4:=Hd (show memB (jb6 M) x=true↔cn≠0 from by
  rw[jfF,jc4,a9];unfold cntB;rw[<-Nat.pos_iff_ne_zero,gK,bD]
  exact⟨fun hm=>⟨x,hm,rfl⟩,fun ⟨y,hy,e⟩=>by rw[<-show y=x from ByteArray.ext (Array.ext' e)];exact hy⟩)
 have b9:=Hd (jmz S M x);have b3:=Hd (show ∃ es ck,Blk A (b+3) (.map (Tryz.ES.arr es) ck)/\∀ y:vB,jay es y.data.toList=cntV (cntB (M++[x]) y)from⟨es2,b5,B2,e7⟩);have d5:Hid (∀ W3:vW,Ext w0 W3->jcj W3 bg G):=fun _ e=>hG.ext e
 obtain⟨ok,q⟩:=vE (okM S G M x)
 rw[<-q];have a5:=Hd q;clear q;have f7:=Hd K2;have d6:=Hd C3;have d7:=Hd C5;have b7:=Hd C9;have b8:=Hd V2;have d8:=Hd O2;have d9:=Hd E2;have H4:=Hd h4;have H3:=Hd h3;have a7:=Hd hM.lo;have b4:Hid (frK S (M++[x])=frK S M->Meet w0 s S bg b (M++[x]) A):=(fun e=>⟨E2,hM.lo,C3,C5,C9,⟨es2,b5,B2,e7⟩,_,n,V2,by rw[e];exact O2,by rw[bI];omega,h4⟩);clear hM h h1 h2 h4 h5 h6 a9 e6 a0 b1 b6 B2 e7 K2 C3 C5 C9 V2 O2 E2 hG
 by_cases hc0:cn=0
 ·subst hc0
  have e0:memB (jb6 M) x=false:=by
   cases hm:memB (jb6 M) x with
   | false=>rfl
   | true=>exact absurd rfl (a4.o.1 hm)
  have c0:=Hd e0;have f1:(Instr.lookup 124 (.map (some (b+3))) (.string x) false).run Tryz.prog W=.ok (.int .i64 0) W:=d3;have f2:(Instr.mapUpdate 124 (.map (some (b+3))) (.string x) (.int .i64 1)).run Tryz.prog W=.ok () A:=d4;have e3:(Instr.lookup 124 (.map (some (b+3))) (.string x) false).run Tryz.prog A=.ok (.int .i64 1) A:=b2;clear e0 d3 d4 b2;cases hs:atL S x.data.toList with
  | some y =>
   rw[hs]at H;unfold ptrO at H;simp only at H;have a8:=Hd (show frK S (M++[x])=frK S M by rw[b9.o,c0.o,hs];rfl);have q:ok=true:=by rw[a5.o];unfold okM;rw[hs];simp
   subst q;clear hs a5;go_enter Tryz.func110,Tryz.ntmps110;go_wp2_with fail
   go_ret
   exact⟨rfl,b4.o a8.o⟩
  | none =>
   rw[hs]at H;unfold ptrO at H;simp only at H;have a8:=Hd (show frK S (M++[x])=frK S M++[x] by rw[b9.o,c0.o,hs];rfl);have q:ok=(atL G x.data.toList).isSome:=by rw[a5.o];unfold okM;rw[hs,c0.o];simp
   have a1:=Hd q;clear hs a5 q;have e1:n+1<=maxLen:=by have:=H3.o;unfold maxLen;omega
   have e2:(n+1) * 16<=140737488355328:=by have:=H3.o;omega
   cases hyg:atL G x.data.toList with
   | some yg =>
    have c1:=Hd hyg;have q:ok=true:=by rw[a1.o,hyg];rfl
    subst q;clear hyg a1;go_enter Tryz.func110,Tryz.ntmps110
    obtain⟨i0,hi,c2,c4,c7⟩:=info_parts Tryz.infoStr
    go_wp2_with (at_builtin;refine jbn _ rfl (.tmp 24) (.tmp 26) 34 rfl 9 i0 _ 1 16 Tryz.uStrs hi c2 c4 c7 rfl vI (.slice ad n cp) n _ rfl (jaZ d8.o ((ExtR A).alloc _)) ⟨A.heap.size,0,none⟩ 1 1 [.string x] rfl rfl (jaN (Blk.new A _)) (by simp[Value.oneCell']) e1 e2 ?_;intro v' X r1 r2 K;obtain⟨Z,a2,rfl⟩:=jaD r1;have K6:jac (fun z=>(Value.slice ad n cp).ownBlock=some z) A X:=((jac.refl _ A).alloc _).trans r2;have nO:∀ z,z < b+5->¬(Value.slice ad n cp).ownBlock=some z:=(fun z O e=>by have:=H4.o z e;omega);have a3:=b8.o.keeps K6 (nO _ vO);have e5:X.cell? ⟨b+2,0,none⟩=some (.slice ad n cp):=a3.cell (i:=0) vF;have e8:X.frozen? ⟨b+2,0,none⟩=false:=a3.frozen;have K7:jac (fun z=>z=b+2) X (X.setCell ⟨b+2,0,none⟩ (.slice Z (n+1) a2)):=jac.oneSet X ⟨b+2,0,none⟩ _;have b0:=(d7.o.keeps K6 (nO _ vO)).keeps K7 vO;have e9:=b0.cell (i:=0) (v:=.map (some bg)) vF;have E7:Ext w0 (X.setCell ⟨b+2,0,none⟩ (.slice Z (n+1) a2)):=(d9.o.trans' K6 (fun y hy e=>by have:=H4.o y e;have:=a7.o;omega)).trans' K7 (fun y hy e=>by have e:y=_:=e;have:=a7.o;omega);have J:=(d5.o _ E7).look x false;rw[c1.o]at J;unfold ptrO at J;simp only[cH,if_false]at J)
    go_ret
    refine⟨rfl,E7,a7.o,(d6.o.keeps K6 (nO _ vO)).keeps K7 vO,b0,(b7.o.keeps K6 (nO _ vO)).keeps K7 vO,?_,.slice Z (n+1) a2,n+1,a3.set_same (i:=0) _,?_,?_,?_⟩
    ·obtain⟨c8,d0,d1,d2⟩:=b3.o
     exact⟨c8,d0,(d1.keeps K6 (nO _ vO)).keeps K7 vO,d2⟩
    ·rw[a8.o,bY]
     refine jaL r1 K7 (fun z O e=>?_);have e:z=b+2:=e;rcases K with K | K
     ·have:=H4.o z (K ▸ O);omega
     ·have h9:=K z O;rw[bF]at h9;have:=b8.o.lt;omega
    ·have:=H3.o;rw[bI];exact Nat.succ_le_succ this
    ·intro z O
     rcases K with K | K
     ·exact H4.o z (K ▸ O)
     ·have h9:=K z O;rw[bF]at h9;have:=b7.o.lt;omega
   | none =>
    have c1:=Hd hyg;have q:ok=false:=by rw[a1.o,hyg];rfl
    subst q;clear hyg a1;go_enter Tryz.func110,Tryz.ntmps110
    obtain⟨i0,hi,c2,c4,c7⟩:=info_parts Tryz.infoStr
    go_wp2_with (at_builtin;refine jbn _ rfl (.tmp 24) (.tmp 26) 34 rfl 9 i0 _ 1 16 Tryz.uStrs hi c2 c4 c7 rfl vI (.slice ad n cp) n _ rfl (jaZ d8.o ((ExtR A).alloc _)) ⟨A.heap.size,0,none⟩ 1 1 [.string x] rfl rfl (jaN (Blk.new A _)) (by simp[Value.oneCell']) e1 e2 ?_;intro v' X r1 r2 K;obtain⟨Z,a2,rfl⟩:=jaD r1;have K6:jac (fun z=>(Value.slice ad n cp).ownBlock=some z) A X:=((jac.refl _ A).alloc _).trans r2;have nO:∀ z,z < b+5->¬(Value.slice ad n cp).ownBlock=some z:=(fun z O e=>by have:=H4.o z e;omega);have a3:=b8.o.keeps K6 (nO _ vO);have e5:X.cell? ⟨b+2,0,none⟩=some (.slice ad n cp):=a3.cell (i:=0) vF;have e8:X.frozen? ⟨b+2,0,none⟩=false:=a3.frozen;have K7:jac (fun z=>z=b+2) X (X.setCell ⟨b+2,0,none⟩ (.slice Z (n+1) a2)):=jac.oneSet X ⟨b+2,0,none⟩ _;have b0:=(d7.o.keeps K6 (nO _ vO)).keeps K7 vO;have e9:=b0.cell (i:=0) (v:=.map (some bg)) vF;have E7:Ext w0 (X.setCell ⟨b+2,0,none⟩ (.slice Z (n+1) a2)):=(d9.o.trans' K6 (fun y hy e=>by have:=H4.o y e;have:=a7.o;omega)).trans' K7 (fun y hy e=>by have e:y=_:=e;have:=a7.o;omega);have J:=(d5.o _ E7).look x false;rw[c1.o]at J;unfold ptrO at J;simp only[cH,if_false]at J)
    go_ret
    refine⟨rfl,E7,a7.o,(d6.o.keeps K6 (nO _ vO)).keeps K7 vO,b0,(b7.o.keeps K6 (nO _ vO)).keeps K7 vO,?_,.slice Z (n+1) a2,n+1,a3.set_same (i:=0) _,?_,?_,?_⟩
    ·obtain⟨c8,d0,d1,d2⟩:=b3.o
     exact⟨c8,d0,(d1.keeps K6 (nO _ vO)).keeps K7 vO,d2⟩
    ·rw[a8.o,bY]
     refine jaL r1 K7 (fun z O e=>?_);have e:z=b+2:=e;rcases K with K | K
     ·have:=H4.o z (K ▸ O);omega
     ·have h9:=K z O;rw[bF]at h9;have:=b8.o.lt;omega
    ·have:=H3.o;rw[bI];exact Nat.succ_le_succ this
    ·intro z O
     rcases K with K | K
     ·exact H4.o z (K ▸ O)
     ·have h9:=K z O;rw[bF]at h9;have:=b7.o.lt;omega
 ·have f8:¬((cn:Int)+1<=1):=vO
  have a8:=Hd (show frK S (M++[x])=frK S M by rw[b9.o,a4.o.2 hc0];rfl);have q:ok=true:=by rw[a5.o];unfold okM;rw[a4.o.2 hc0];simp
  subst q;clear a5;go_enter Tryz.func110,Tryz.ntmps110;go_wp2_with fail
  go_ret
  exact⟨rfl,b4.o a8.o⟩
structure Fair(G:vT):Prop where
 few:G.length<=1000
 refs:∀ y∈G,y.2.2.refs.length<=16
def has2(S G:vT)(x:vB):Prop:=(atL S x.data.toList).isSome=true\/(atL G x.data.toList).isSome=true
structure jec(S G:vT)(root:vB)(M:vM)(i:Nat):Prop where
 is:M=root ::((frK S M).take i).flatMap (jb4 G)
 le:i<=(frK S M).length
 inG:∀ x∈M,has2 S G x
theorem jge{G:vT}(h:Fair G):∀ l:vM,(l.flatMap (jb4 G)).length<=16 * l.length
 | []=>by simp
 | x :: r=>by
  have e:=jge h r
  have:(jb4 G x).length<=16:=by
   unfold jb4;split
   ·rename_i y hy;exact h.refs y (jaF hy).1
   ·simp
  rw[dY,bI,bU];omega
theorem jec.len{M:vM}(h:jec S G root M i)(hs:Fair G):M.length<=1+16 * i:=by
 have:=jge hs ((frK S M).take i)
 rw[cQ]at this;have e:=congrArg List.length h.is;rw[bU]at e;omega
theorem jec.at'{M:vM}(h:jec S G root M i){x:vB}(hx:x∈frK S M):(atL G x.data.toList).isSome=true:=by
 have e:=jgf.1 hx;rcases h.inG x e.1 with h | h
 ·rw[e.2]at h;cases h
 ·exact h
theorem jje{M:vM}(h:∀ x∈frK S M,(atL G x.data.toList).isSome=true):(frK S M).length<=G.length:=by
 have A:((frK S M).map fun x=>x.data.toList).Nodup:=by
  have:=jkn S M
  generalize frK S M=l at this;induction l with
  | nil=>simp
  | cons z r ih =>
   rw[dP]at this;rw[bN,dP]
   exact⟨fun H=>by obtain⟨y,q,e⟩:=bD.1 H;exact this.1 (jo7 e ▸ q),ih this.2⟩
 have:=gZ A (l₂:=G.map (·.1)) (fun k J=>by
  obtain⟨x,K,e⟩:=bD.1 J
  obtain⟨y,q⟩:=dD.1 (h x K)
  exact bD.2 ⟨y,(jaF q).1,by rw[(jaF q).2,e]⟩)
 simpa using this
theorem jec.step{M:vM}(h:jec S G root M i){x:vB}(hx:(frK S M)[i]?=some x)(hr:∀ r∈jb4 G x,has2 S G r):jec S G root (M++jb4 G x) (i+1):=by
 obtain⟨X,A⟩:=jmy S M (jb4 G x)
 have H:i < (frK S M).length:=(bH.1 hx).1
 refine⟨?_,?_,?_⟩
 ·have e:(frK S (M++jb4 G x)).take (i+1)=(frK S M).take i++[x]:=by
   rw[A,List.take_append_of_le_length vO,bX,hx];rfl
  rw[e,dZ]
  have:=h.is
  generalize frK S M=l at this;rw[this]
  simp
 ·rw[A,bI];omega
 ·intro y q
  rcases bQ.1 q with q | q
  ·exact h.inG y q
  ·exact hr y q
theorem jyg{M:vM}{x:vB}(h:okM S G M x=true)(hM:∀ y∈M,has2 S G y):has2 S G x:=by
 unfold okM at h;simp only[Bool.or_eq_true]at h;rcases h with (h | h) | h
 ·exact hM x ((jc4 _ _).1 ((jfF _ _).1 h))
 ·exact .inl h
 ·exact .inr h
theorem jv5{M:vM}{x:vB}(h:okM S G M x=false):¬ has2 S G x:=by
 unfold okM at h;simp only[iQ]at h;rintro (e | e)
 ·rw[h.1.2]at e;cases e
 ·rw[h.2]at e;cases e
def jxi(w0:vW)(s:Nat)(S G:vT)(bg b:Nat)(root:vB)(wv iv:vV)(W:vW):Prop:=wv=.bool true/\∃ (i:Nat) (M:vM),iv=.int .i64 i/\jec S G root M i/\Meet w0 s S bg b M W
def ju1(w0:vW)(s:Nat)(S G:vT)(bg b:Nat)(M R:vM)(wv jv:vV)(W:vW):Prop:=wv=.bool true/\∃ j:Nat,jv=.int .i64 j/\j<=R.length/\Meet w0 s S bg b (M++R.take j) W/\∀ r∈R.take j,has2 S G r
def RhP(w0:vW)(S G:vT)(root:vB)(e:Ending)(w':vW):Prop:=(e=.returned (.tuple #[.slice none 0 0,.int .i64 2])/\Ext w0 w'/\∃ x r,r∈jb4 G x/\¬ has2 S G r)\/∃ v n M,e=.returned (.tuple #[v,.int .i64 0])/\jec S G root M (frK S M).length/\SRow w0 w' v n (frK S M)
theorem jlI(s bm:Nat)(room:Int)(S G:vT)(bg:Nat)(h:jax w0 s bm room S)(hG:jcj w0 bg G)(hs:Fair G)(root:vB)(hr:(atL G root.data.toList).isSome=true) :
  vQ 59 #[.pointer (some ⟨s,0,none⟩),.string root,.map (some bg)] w0 (RhP w0 S G root):=by
 have HS:=Hd h;have HG:=Hd hG;have a3:=Hd hs;have HR:=Hd hr;have c8:=Tryz.makeMapSI;clear h hG hs hr;go_enter Tryz.func59,Tryz.ntmps59;go_wp2_with fail
 go_step3;go_wp2_with fail
 refine vC (jmT w0 s bm room S G bg w0.heap.size HS.o HG.o _ [] (jqL w0 s S bg) root (by simp)) fun w5 J=>?_;rw[show okM S G [] root=true by unfold okM;rw[HR.o];simp];have HM:=Hd J;clear J c8
 obtain⟨b,hb⟩:=vE w0.heap.size
 rw[show w0.heap.size+1+1+1+1=w0.heap.size+4 from rfl,show w0.heap.size+1+1+1=w0.heap.size+3 from rfl,show w0.heap.size+1+1=w0.heap.size+2 from rfl];rw[<-hb]at HM ⊢;clear hb;go_wp2_with fail
 go_step3;go_wp2_with fail
 go_loopw [11,12] (fun wv iv wr=>jxi w0 s S G bg b root wv iv wr) (fun _ iv _=>1001 - (intOf iv).toNat)
 case atStart =>
  refine⟨rfl,0,[root],rfl,⟨by simp,cB _,fun x e=>by simp at e;subst e;exact .inr HR.o⟩,HM.o⟩
 case round =>
  obtain⟨rfl,i,M,rfl,Z,J⟩:=hrel
  obtain⟨v,n,A,h2,h3,h4⟩:=J.var
  obtain⟨ad,cp,rfl⟩:=jaD h2
  have hn:(frK S M).length=n:=by have:=h2.1;simpa using this
  have b4:=jje (S:=S) (M:=M) (fun x e=>Z.at' e);have e0:=a3.o.few;have q8:=A.cell (i:=0) (v:=.slice ad n cp) vF;have a0:=Z.le
  by_cases hlt:i < n
  ·have b1:(i:Int) < (n:Int):=vO
   obtain⟨x,e⟩:∃ x,(frK S M)[i]?=some x:=⟨_,bB vO⟩
   obtain⟨ax,cx,hh,K⟩:=(jiJ h2).slice
   obtain⟨ba,oa,c9,b5⟩:=K i x e
   subst c9;cases hh
   obtain⟨y,O⟩:=dD.1 (Z.at' (bG e))
   have hI:=HG.o.items y (jaF O).1;have a4:=jeX O;have d0:=a3.o.refs y (jaF O).1
   obtain⟨rv,b6,a5⟩:=hI.cells
   obtain⟨ar,cr,rfl⟩:=jaD a5
   obtain⟨R,hR⟩:=vE y.2.2.refs
   have Q5:=Hd (J.c5.cell (i:=0) (v:=.map (some bg)) vF);have Q8:=Hd q8;have QA:=Hd b5;have QR:=Hd ((b6.keeps J.ext (fun g=>g)).cell (i:=1) (v:=.slice ar y.2.2.refs.length cr) vF);have b7:=Hd (HG.o.ext J.ext);have HY:=Hd O;have b8:=Hd (fun hr=>Z.step e hr);have d1:=Hd Z.inG;have d2:=Hd (Z.len a3.o);have b9:=Hd (jiJ a5);have c0:=Hd J;rw[a4, <-hR]at b8;rw[<-hR]at QR b9 d0;have d3:=Hd (show R=jb4 G x by rw[hR,a4]);have b3:i<=1000:=vO
   obtain⟨yb,a7⟩:=vE y.2.1
   rw[<-a7]at QR;have d4:=Hd a7;clear a4 hR a7 a5 b6 hI O e K b5 A h2 Z J hn b4 a0;go_wp2_with fail
   refine jaj [0,1,2,3,4,5,6,7,8,9,10] Ext ExtR ExtT vY vY vY ?_;refine qKL ⟨b+1,0,none⟩ _ rfl (fun w1 A=>jab Tryz.underlying121 rfl (jaa Q5.o ((jak _).trans A))) ?_;refine vS ?_;refine qKL ⟨b+2,0,none⟩ _ rfl (fun w1 A=>jab Tryz.underlying34 rfl (jaa Q8.o ((jak _).trans A))) ?_;refine vS ?_;iterate 2 refine vK ?_
   refine qKL ⟨ba,oa+i,none⟩ _ rfl (fun w1 A=>jab Tryz.underlying9 rfl (jaa QA.o ((jak _).trans A))) ?_;refine vS ?_;refine qKV _ (.pointer (some ⟨yb,0,none⟩)) rfl (fun w1 A=>by
    have e:=(b7.o.ext ((jak _).trans A)).look x false;rw[HY.o]at e;unfold ptrO at e;simp only[cH,if_false]at e;rw[<-d4.o]at e;simp[execOp,Act.eval,e,bK,Result.andThen,cP]) ?_
   refine vS ?_;refine qKV _ (.pointer (some ⟨yb,0,none⟩)) rfl (fun w1 _=>by kernel_rfl) ?_;refine vS ?_
   refine vK ?_
   refine qKL ⟨yb,1,none⟩ _ rfl (fun w1 A=>jab Tryz.underlying34 rfl (jaa QR.o ((jak _).trans A))) ?_;refine vS ?_;iterate 2 refine vK ?_
   refine qKE (fun w3 he=>?_);have d5:=Hd (c0.o.keeps ((jak _).trans he));clear he c0 Q5 Q8 QA QR b7 HY q8;go_wp2_with fail
   go_loopw [11,36] (fun wv jv d6=>ju1 w0 s S G bg b M R wv jv d6) (fun _ jv _=>R.length - (intOf jv).toNat)
   case atStart=>exact⟨rfl,0,rfl,cB _,by rw[gO,cA];exact d5.o,fun r hr=>by cases hr⟩
   case round =>
    obtain⟨rfl,j,rfl,hj,H,c1⟩:=hrel
    have X:=Hd c1;clear c1
    by_cases hlt2:j < R.length
    ·have b2:(j:Int) < (R.length:Int):=vO
     obtain⟨z,hz⟩:∃ z,R[j]?=some z:=⟨_,bB hlt2⟩
     obtain⟨e1,e2,d7,q⟩:=b9.o.slice
     obtain⟨e3,e4,b0,a1⟩:=q j z hz
     subst b0;cases d7;have q2:=jaa a1 H.ext;have c2:=Hd hz;have HT:=Hd (show M++R.take (j+1)=M++R.take j++[z] by rw[bX,hz, <-cE];rfl);have HL:=Hd (show (M++R.take j).length<=1000000 by have:=d2.o;rw[bI,cQ];omega);have c3:=Hd H;clear q a1 H hz;go_wp2_with fail
     refine vC (jmT w0 s bm room S G bg b HS.o HG.o _ _ c3.o z HL.o) fun w9 a8=>?_;rw[<-HT.o]at a8;have a2:=Hd a8
     obtain⟨ok,a9⟩:=vE (okM S G (M++R.take j) z)
     rw[<-a9];have c4:=Hd a9;clear a8 c3 q2 a9;cases ok with
     | false =>
      go_wp2_with fail
      go_ret2;exact .inl ⟨rfl,a2.o.ext,x,z,by rw[<-d3.o];exact bG c2.o,jv5 c4.o.symm⟩
     | true =>
     go_wp2_with fail
     go_roundw
     case rel =>
      refine⟨rfl,j+1,by go_num,by omega,a2.o,jnk X.o c2.o (jyg c4.o.symm fun y O=>?_)⟩
      rcases bQ.1 O with O | O
      ·exact d1.o y O
      ·exact X.o y O
     case measure=>exact vJ
    ·have d8:j=R.length:=vO
     subst d8;rw[cG]at H;have a2:=Hd H;clear H;go_wp2_with fail
     go_roundw
     case rel=>exact⟨rfl,i+1,M++R,by go_num,b8.o (by have h:=X.o;rwa [cG]at h),a2.o⟩
     case measure=>exact vJ
  ·have c7:i=(frK S M).length:=vO
   have HP:=Hd (show jec S G root M (frK S M).length by rw[<-c7];exact Z);have d9:=Hd (show SRow w0 wr (.slice ad n cp) n (frK S M)from⟨⟨_,_,rfl⟩,h2,J.ext,fun z hz=>by have:=h4 z hz;have:=J.lo;omega⟩);have b1:¬(i:Int) < (n:Int):=vO
   clear c7 Z J A h2 h4 hn b4 a0;go_wp2_with fail
   go_ret2;exact .inr ⟨.slice ad n cp,n,M,rfl,HP.o,d9.o⟩
theorem jiz(h:G.map kvI=readG L)(hL:∀ t∈L,∃ n,jbd t n)(hl:L.length<=1000):Fair G:=by
 refine⟨?_,fun y q=>?_⟩
 ·have:=(jfN L).2.2
  rw[<-h,bS]at this;exact bE this hl
 ·obtain⟨t,A,_,e⟩:=jcU h q
  rw[e]
  obtain⟨n,H⟩:=hL t A
  exact jhx (jcc H)
theorem jlK{M:vM}(h:jec S G root M i)(hr:r∈M):(atL (S++jdn G (frK S M)) r.data.toList).isSome=true:=by
 rw[jxz];cases hs:atL S r.data.toList with
 | some y=>rfl
 | none =>
  obtain⟨y,e⟩:=dD.1 (h.at' (jgf.2 ⟨hr,hs⟩))
  have q:y∈jdn G (frK S M):=List.mem_filterMap.2 ⟨r,jgf.2 ⟨hr,hs⟩,e⟩;cases hp:atL (jdn G (frK S M)) r.data.toList with
  | some z=>rfl
  | none=>exact absurd (jaF e).2.symm (jeM.1 hp y q)
structure AddY(w:World)(s bm:Nat)(room:Int)(S:vT)(L:vM)(top:vB)(G:vT)(M:vM)(e:Ending)(w':World):Prop where
 given:G.map kvI=readG L
 nodes:∀ t∈L,∃ n,jbd t n
 news:∀ y∈G,w.heap.size<=y.2.1
 path:jec S G (shaB top) M (frK S M).length
 fits:¬ room - S.length < (frK S M).length
 res:e=.returned (.tuple #[.string (shaB top),.int .i64 0])
 st:jax w' s bm room (jh2 (shaB top).data.toList (jdz ((frK S M).flatMap (jb4 G)) (S++jdn G (frK S M))))
 kp:jac (fun z=>z=bm\/z∈S.map (·.2.1)) w w'
 rk:RK w w'
 rows:jlb w w' G
def joI(Q:Prop)(room:Int)(S:vT)(L:vM)(k:Int):Prop:=(k=2/\Q)\/(k=2/\∃ G,G.map kvI=readG L/\∃ x r,r∈jb4 G x/\¬ has2 S G r)\/(k=3/\∃ top G M,L[0]?=some top/\G.map kvI=readG L/\jec S G (shaB top) M (frK S M).length/\room - S.length < (frK S M).length)
def jwL(Q:Prop)(w:vW)(s bm:Nat)(room:Int)(S:vT)(L:vM)(e:Ending)(w':vW):Prop:=(∃ k:Int,joI Q room S L k/\k≠0/\e=.returned (.tuple #[.string ⟨#[]⟩,.int .i64 k])/\Ext w w')\/∃ top G M,L[0]?=some top/\AddY w s bm room S L top G M e w'
theorem joP(hc:jbA w)(hGE:ErrT w)(s bm:Nat)(room:Int)(S:vT)(h:jax w s bm room S)(v:vV)(L:vM)(hv:RdS w v L)(Q:Prop)(hL:AnyQ Q L)(hll:L.length<=1000)(top:vB)(htop:L[0]?=some top)(hr0:0<=room)(hr1:room<=9223372036854775807)(hS:S.length<=100000)(hSu:∀ x∈S,0<=x.2.2.used/\x.2.2.used<=1000000000)(hSh:∀ x∈S,0<=x.2.2.held/\x.2.2.held<=1000000000) :
  vQ 28 #[.pointer (some ⟨s,0,none⟩),v] w (jwL Q w s bm room S L):=by
 have h0:L≠[]:=fun e=>by subst e;cases htop
 have k5:0 < L.length:=List.length_pos_iff.2 h0
 obtain⟨a,c,rfl,_⟩:=hv.slice
 have HR:=Hd (jrH w hc hGE _ L hv hll h0 Q hL);have HC:=Hd hc;have HV:=Hd hv;have HL:=Hd hL;have HS:=Hd h;have X:=Hd htop;have h3:=Hd hSu;have d5:=Hd hSh;clear hc h hv hL htop h0 hSu hSh;go_enter Tryz.func28,Tryz.ntmps28;go_wp2_with fail
 refine HR.o.mono ?_;rintro e w1 (⟨rfl,hE,hq⟩ |⟨a0,bg,G,rfl,hG,e4⟩)
 ·have HE:=Hd hE
  have HQ:=Hd hq;clear hE HR hq;go_wp2_with fail
  go_ret2;exact .inl ⟨2,.inl ⟨rfl,HQ.o⟩,by decide,rfl,HE.o⟩
 have b5:=Hd a0;have h4:=Hd e4;have h5:Hid (∀ x∈G,x.2.1 < w1.heap.size):=fun x q=>(hG.at'.items x q).lt;have h6:=Hd hG.ext;clear a0 e4
 obtain⟨ax,cx,hh,A⟩:=HV.o.slice
 obtain⟨ba,oa,a8,a9⟩:=A 0 top X.o
 subst a8;cases hh;have q1:=jaa a9 hG.ext;have HG:=Hd hG;rw[gN]at q1;clear A a9 hG HR;go_wp2_with fail
 refine vH (of_t _ _ [top] (by simp) (jeD w1 [top] 9) (HC.o.ext (HG.o.ext.alloc _))) fun w2 hE=>?_;rw[jdS];have d0:=((ExtR w1).alloc (.cells #[.string top] 9)).trans hE;have H:=Hd (HG.o.keeps d0);have h7:=Hd d0
 obtain⟨rt,c0⟩:=vE (shaB top)
 have c1:=Hd c0;have h8:=Hd (show (atL G rt.data.toList).isSome=true by rw[c0];exact jqh HG.o.is (bG X.o));rw[<-c0];clear d0 c0 q1;go_wp2_with fail
 have c2:=Hd (jiz H.o.is b5.o hll);have e5:=Hd (HS.o.ext H.o.ext);refine (jlI w2 s bm room S G bg e5.o H.o.at' c2.o rt h8.o).mono ?_;rintro e w3 (⟨rfl,hE,e6⟩ |⟨v3,n,M,rfl,hP,hF⟩)
 ·have HE:=Hd (H.o.ext.trans hE)
  have h9:=Hd e6;clear hE e6;go_wp2_with fail
  go_ret2;exact .inl ⟨2,.inr (.inl ⟨rfl,G,H.o.is,h9.o⟩),by decide,rfl,HE.o⟩
 have d6:=jje (S:=S) (M:=M) (fun x q=>hP.at' q);have k6:=c2.o.few;have hn:(frK S M).length=n:=by have:=hF.len;simpa using this
 obtain⟨ad,cp,rfl⟩:=hF.sl
 have HP:=Hd hP;have HF:=Hd hF
 obtain⟨F,d1⟩:=vE (frK S M)
 rw[<-d1]at HF hn d6;have O:=Hd d1;have i0:=Hd (H.o.keeps hF.ext);have e7:=Hd (e5.o.ext hF.ext);clear hP hF d1;go_wp2_with fail
 refine vH (jwz w3 s bm room S e7.o hr0 hr1 vO) fun w4 a4=>?_
 obtain⟨m,hm⟩:=vE (room - (S.length:Int))
 rw[<-hm];have HM:=Hd hm;clear hm
 by_cases hfull:m < (n:Int)
 ·go_wp2_with fail
  go_ret2;exact .inl ⟨3,.inr (.inr ⟨rfl,top,G,M,X.o,H.o.is,by rw[<-c1.o];exact HP.o,by rw[<-O.o,hn, <-HM.o];exact hfull⟩),by decide,rfl,(H.o.ext.trans HF.o.ext).trans a4.o⟩
 ·have d7:=Hd (show RK w1 w4 from(((RK.refl w1).ext h7.o).ext HF.o.ext).ext a4.o)
  have e8:Ad1 w4 s bm bg room S G F (.slice ad n cp) 0 w4:=⟨jac.refl _ _,by rw[gO];show jax w4 s bm room (S++[]);rw[cA];exact e7.o.ext a4.o,i0.o.at'.ext a4.o,by rw[hn];exact jaZ HF.o.own a4.o⟩;have e9:=Hd e8;have c3:=HS.o.mp.mp
  obtain⟨_,_,c3,_⟩:=c3
  have h2:=c3.lt;have i1:Hid (∀ z,(Value.slice ad n cp).ownBlock=some z->z≠bm):=(fun z hz e=>by have:=HF.o.new z hz;have:=H.o.ext.size;omega);have i2:Hid (bg≠bm):=(fun e=>by have:=H.o.new;omega);have i3:Hid (∀ x∈S,∀ y∈G,x.2.1≠y.2.1):=(fun x q y hy e=>by have:=(HS.o.mp.items x q).lt;have:=H.o.news y hy;omega);have i4:=Hd (show F.Nodup by rw[O.o];exact jkn S M);have i5:Hid (∀ x∈F,atL S x.data.toList=none):=(fun x q=>by rw[O.o]at q;exact (jgf.1 q).2);have f0:Hid (∀ x∈F,(atL G x.data.toList).isSome=true):=(fun x q=>by rw[O.o]at q;exact HP.o.at' q);have k8:=Hd (HS.o.st);subst hn;clear e8 c3;go_wp2_with fail
  rw[show decide (m < (F.length:Int))=false from decide_eq_false (Int.not_lt.2 hfull)];go_loopw [46] (fun iv wr=>AdR1 w4 s bm bg room S G F (.slice ad F.length cp) iv wr/\RK w1 wr) (fun iv _=>F.length - (intOf iv).toNat)
  case atStart=>exact⟨⟨0,cB _,rfl,e9.o⟩,d7.o⟩
  case round =>
   obtain⟨⟨i,hi,rfl,J⟩,f1⟩:=hrel
   have f2:=Hd f1;clear f1;have HA:=Hd J
   by_cases hlt:i < F.length
   ·have b1:(i:Int) < (F.length:Int):=vO
    obtain⟨x,q⟩:∃ x,F[i]?=some x:=⟨_,bB hlt⟩
    obtain⟨ax,cx,hh,A⟩:=(jiJ J.row).slice
    obtain⟨c4,c5,a8,a9⟩:=A i x q
    subst a8;cases hh
    obtain⟨y,hy⟩:=dD.1 (f0.o x (bG q))
    have Q1:=Hd (J.st.st.cell (i:=1) (v:=.map (some bm)) vF);have f3:=Hd J.gv;have HX:=Hd q;have HY:=Hd hy
    obtain⟨yb,b0⟩:=vE y.2.1
    have f4:=Hd b0;clear A q hy J b0;go_wp2_with fail
    refine jaq [0,1,2,3,4,5,6,7,8] [8] Ext ExtR ExtT vY vY vY ?_
    refine vP ?_
    refine qA _ (.pointer (some ⟨s,0,none⟩)) rfl (fun w1=>by kernel_rfl) ?_;refine vS ?_
    refine vP ?_
    refine qL ⟨s,1,none⟩ _ rfl (fun w1 h1=>jab Tryz.underlying121 rfl (jaa Q1.o ((jak _).trans h1))) ?_;refine vS ?_;iterate 3 refine vP ?_
    refine jqM _ (.pointer (some ⟨yb,0,none⟩)) rfl vY rfl (fun w1 h1=>by
     have q:=(f3.o.ext ((jak _).trans h1)).look x false;rw[HY.o]at q;unfold ptrO at q;simp only[cH,if_false]at q;rw[<-f4.o]at q;simp[execOp,Act.eval,q,bK,Result.andThen,cP]) ?_
    refine vS ?_;refine qH _ rfl (fun w5 he K hK=>?_);have f5:=HA.o.ext ((jak _).trans he)
    obtain⟨ob,f6,d2⟩:=f5.put i3.o i2.o i1.o i4.o i5.o HX.o HY.o
    rw[<-f4.o]at f6;have f7:=Hd d2
    obtain⟨k9,l0,b6,_⟩:=d2.st.mp.mp
    have d8:=Hd ((f2.o.ext ((jak _).trans he)).put (jac.onePut _ bm ob) b6);clear b6;clear f5 d2 he HA Q1 f3 a9;go_simp;refine hK _ _ ?_;clear hK K;refine qE (fun w7 he=>?_);have i6:=Hd (f7.o.ext he);have d9:=Hd (d8.o.ext he);clear he f7 f6;go_wp2_with fail
    go_roundw
    case rel=>exact⟨⟨i+1,by omega,by go_num,i6.o⟩,d9.o⟩
    case measure=>exact vJ
   ·have i7:i=F.length:=vO
    subst i7
    obtain⟨S1,b3⟩:=vE (S++jdn G F)
    have c7:=Hd b3;have b4:=Hd (show Ad2 wr s bm bg room S1 G F (.slice ad F.length cp) [] wr from⟨jac.refl _ _,by have:=J.st;rw[cG]at this;rw[b3];exact this,⟨G,J.gv,fun k=>rfl⟩,J.row⟩);have HU:=Hd (show ∀ x∈S1,0<=x.2.2.used/\x.2.2.used<=1000000000 from fun x q=>by
     rw[b3]at q;rcases bQ.1 q with q | q
     ·exact h3.o x q
     ·obtain⟨t,ht,_,e⟩:=jcU H.o.is (jbO q).1
      rw[e];exact⟨Int.le_refl _,by show (0:Int)<=1000000000;decide⟩)
    have i8:=Hd (show ∀ r∈F.flatMap (jb4 G),(atL S1 r.data.toList).isSome=true from fun r hr=>by
     rw[b3,O.o];refine jlK HP.o ?_
     have:=HP.o.is
     rw[cG, <-O.o]at this;rw[this];exact bW _ hr)
    obtain⟨w5,a5⟩:=vE wr
    have i9:=Hd a5;have e0:=Hd (show RK w1 w5 by rw[a5];exact f2.o);rw[<-a5]at b4;have b4:=Hd (show Ad2 w5 s bm bg room S1 G F (.slice ad F.length cp) [] wr by rw[<-a5];exact b4.o);have f8:=Hd (show jac (fun z=>z=bm) w4 w5 by rw[a5];exact J.kp);clear e9 J HA b3 a5;go_wp2_with fail
    go_loopw [61] (fun iv wr=>AdR2 w5 s bm bg room S1 G F (.slice ad F.length cp) iv wr/\RK w1 wr) (fun iv _=>F.length - (intOf iv).toNat)
    case atStart=>exact⟨⟨0,cB _,rfl,b4.o⟩,by rw[<-i9.o];exact e0.o⟩
    case round =>
     obtain⟨⟨i,l1,rfl,J⟩,b7⟩:=hrel
     have a3:=Hd b7;clear b7
     by_cases hlt2:i < F.length
     ·have b1:(i:Int) < (F.length:Int):=vO
      obtain⟨x,q⟩:∃ x,F[i]?=some x:=⟨_,bB hlt2⟩
      obtain⟨ax,cx,hh,A⟩:=(jiJ J.row).slice
      obtain⟨c4,c5,a8,a9⟩:=A i x q
      subst a8;cases hh
      obtain⟨y,hy⟩:=dD.1 (f0.o x (bG q))
      obtain⟨G',d3,f9⟩:=J.gv
      have hk:=f9 x.data.toList;rw[hy]at hk
      obtain⟨y',d4,hk⟩:=cM.1 hk
      have a7:=d3.look x false;rw[d4]at a7;unfold ptrO at a7;simp only[cH,if_false]at a7
      obtain⟨rv,g0,c8⟩:=(d3.items y' (jaF d4).1).cells
      have g2:y'.2.2.refs=jb4 G x:=by rw[jeX hy];exact congrArg (fun z=>z.2.2) hk
      obtain⟨R,hR⟩:=vE (jb4 G x)
      rw[g2, <-hR]at c8
      obtain⟨ar,cr,rfl⟩:=jaD c8
      have qr:=g0.cell (i:=1) (v:=.slice ar R.length cr) vF
      obtain⟨T,hT⟩:=vE ((F.take i).flatMap (jb4 G))
      have j0:=Hd (show (F.take (i+1)).flatMap (jb4 G)=T++R by rw[bX,q,dZ,hT,hR];simp);have j1:=Hd (show T.length<=16000 by
       have:=jge c2.o (F.take i)
       rw[hT];rw[cQ]at this;omega)
      have g3:=Hd (show R.length<=16 by rw[hR,jeX hy];exact c2.o.refs y (jaF hy).1);have j2:Hid (∀ r∈R,(atL S1 r.data.toList).isSome=true):=(fun r hr=>i8.o r (fI.2 ⟨x,bG q,by rw[<-hR];exact hr⟩));rw[<-hT]at J;have g4:=Hd (show AdR3 w5 s bm bg room S1 G F (.slice (some ⟨c4,c5,none⟩) F.length cp) T R (.slice ar R.length cr) (.int .i64 0) wr from⟨0,cB _,rfl,by rw[gO,cA];exact J,c8⟩)
      obtain⟨yb,b0⟩:=vE y'.2.1
      rw[<-b0]at a7 qr;clear A q hy d3 f9 hk d4 g0 c8 g2 hR hT J b0;go_wp2_with fail
      go_loopw [72] (fun jv g5=>AdR3 w5 s bm bg room S1 G F (.slice (some ⟨c4,c5,none⟩) F.length cp) T R (.slice ar R.length cr) jv g5/\RK w1 g5) (fun jv _=>R.length - (intOf jv).toNat)
      case atStart=>exact⟨g4.o,a3.o⟩
      case round =>
       obtain⟨⟨j,hj,rfl,hB,c9⟩,b8⟩:=hrel
       have b9:=Hd b8;clear b8
       by_cases hlt3:j < R.length
       ·have b2:(j:Int) < (R.length:Int):=vO
        obtain⟨z,hz⟩:∃ z,R[j]?=some z:=⟨_,bB hlt3⟩
        obtain⟨l2,l3,j3,Z⟩:=(jiJ c9).slice
        obtain⟨l4,l5,e1,k7⟩:=Z j z hz
        subst e1;cases j3;have qs:=hB.st.st.cell (i:=1) (v:=.map (some bm)) vF
        obtain⟨zb,u,e2,qu,fu,j4,j5,g6,a1⟩:=hB.bump HU.o (by have:=j1.o;have:=g3.o;rw[bI,cQ];omega) z (j2.o z (bG hz))
        have l6:=g3.o;have j6 : -9223372036854775808<=u+1:=vO
        have j7:u+1<=9223372036854775807:=vO
        have g7:=Hd (bA (show Ad2 w5 s bm bg room S1 G F (.slice (some ⟨c4,c5,none⟩) F.length cp) (T++R.take (j+1)) _ by rw[bX,hz, <-cE];exact g6) (a1 _ _ _ c9));clear Z hz hB c9 g6 a1 a7 qr;go_wp2_with fail
        go_roundw
        case rel=>exact⟨⟨j+1,by omega,by go_num,g7.o.1,g7.o.2⟩,b9.o.set zb (.inl rfl) _⟩
        case measure=>exact vJ
       ·have j8:j=R.length:=vO
        subst j8;rw[cG, <-j0.o]at hB;have j9:=Hd hB;clear hB c9 g4 a7 qr;go_wp2_with fail
        go_roundw
        case rel=>exact⟨⟨i+1,by omega,by go_num,j9.o⟩,b9.o⟩
        case measure=>exact vJ
     ·have e3:i=F.length:=vO
      subst e3;rw[cG]at J;have l7:=Hd J;have a2:(atL S1 rt.data.toList).isSome=true:=by
       rw[c7.o,O.o];exact jlK HP.o (by rw[HP.o.is];exact cJ)
      have k0:=Hd (show ∀ x∈S1,0<=x.2.2.held/\x.2.2.held<=1000000000 from fun x q=>by
       rw[c7.o]at q;rcases bQ.1 q with q | q
       ·exact d5.o x q
       ·obtain⟨t,ht,_,e⟩:=jcU H.o.is (jbO q).1
        rw[e];exact⟨Int.le_refl _,by show (0:Int)<=1000000000;decide⟩)
      have qs:=J.st.st.cell (i:=1) (v:=.map (some bm)) vF
      obtain⟨zb,u,e2,qu,fu,j4,j5,g8,g9⟩:=J.hold k0.o rt a2
      have j6 : -9223372036854775808<=u+1:=vO
      have j7:u+1<=9223372036854775807:=vO
      have k1:=Hd g8;have k2:=Hd (((H.o.ext.trans HF.o.ext).trans a4.o).mono (G:=fun z=>z=bm\/z∈S.map (·.2.1)) (fun _ _ g=>g.elim));have k3:=Hd g9;have k4:=Hd f8.o;clear J b4 f8 g8 g9 a2;go_wp2_with fail
      go_ret2;refine .inr ⟨top,G,M,X.o,H.o.is,b5.o,H.o.news,by rw[<-c1.o];exact HP.o,by rw[<-O.o, <-HM.o];exact Int.not_lt.2 hfull,by rw[c1.o];rfl,?_,?_,((RK.refl w).ext h6.o).trans (a3.o.set zb (.inr rfl) _),h4.o.rk (a3.o.set zb (.inr rfl) _) h5.o⟩
      ·rw[<-O.o, <-c7.o, <-c1.o];exact k1.o
      ·refine (jac.trans' (F:=fun z=>z=bm\/z∈S.map (·.2.1)) k2.o k4.o (fun z hz e=>.inl e)).trans' k3.o (fun z hz e=>?_)
       rw[c7.o,bY]at e;rcases bQ.1 e with e | e
       ·exact .inr e
       ·obtain⟨y,hy,rfl⟩:=bD.1 e
        have:=H.o.news y (jbO hy).1
        omega
end
section
open Go Go.RowKit
theorem jrF(s bm:Nat)(room:Int)(L:vT)(k:vB)(h:jax w s bm room L):vR 121 #[.pointer (some ⟨s,0,none⟩),.string k] w (.int .i64 (jqp (atL L k.data.toList))):=by
 have H:=h.st.cell (i:=1) (v:=.map (some bm)) vF;have e:=h.mp.look k true;have A:=Hd h.mp.items;simp only[if_true]at e;clear h;cases ha:atL L k.data.toList with
 | none =>
  rw[ha]at e;unfold ptrO at e;simp only[Option.isSome]at e;clear ha;unfold vR vQ;go_in;go_wp2_with fail
  go_ret
  exact⟨rfl,ExtR w⟩
 | some x =>
  rw[ha]at e
  obtain⟨J,q,_⟩:=(A.o x (jaF ha).1).cells
  have K:=q.cell (i:=3) (v:=.int .i64 x.2.2.held) vF;unfold ptrO at e;simp only[Option.isSome]at e;clear ha q;unfold vR vQ;go_in;go_wp2_with fail
  go_ret
  exact⟨rfl,ExtR w⟩
theorem jt6(s bm:Nat)(room:Int)(L:vT)(k:vB)(h:jax w s bm room L)(hb:∀ x∈L, -1000000000<=x.2.2.used/\x.2.2.used<=1000000000 /\ -1000000000<=x.2.2.held/\x.2.2.held<=1000000000):vR 122 #[.pointer (some ⟨s,0,none⟩),.string k] w (.int .i64 (jmf (atL L k.data.toList))):=by
 have q1:=h.st.cell (i:=1) (v:=.map (some bm)) vF;have e:=h.mp.look k true;have HI:=Hd h.mp.items;simp only[if_true]at e;clear h;cases ha:atL L k.data.toList with
 | none =>
  rw[ha]at e;unfold ptrO at e;simp only[Option.isSome]at e;clear ha hb;unfold vR vQ;go_in;go_wp2_with fail
  go_ret
  exact⟨rfl,ExtR w⟩
 | some x =>
  rw[ha]at e;have q:=hb x (jaF ha).1
  obtain⟨rv,A,_⟩:=(HI.o x (jaF ha).1).cells
  have J:=Hd (A.cell (i:=2) (v:=.int .i64 x.2.2.used) vF);have K:=Hd (A.cell (i:=3) (v:=.int .i64 x.2.2.held) vF);unfold ptrO at e;simp only[Option.isSome]at e
  obtain⟨ky,b,⟨tx,rf,O,X⟩⟩:=x
  simp only at e J K q;have a0 : -9223372036854775808<=O+X:=vO
  have a1:O+X<=9223372036854775807:=vO
  clear ha A hb;unfold vR vQ;go_in;go_wp2_with fail
  refine jaj [0,1,2,3,4,5,6,7,8,9] Ext ExtR ExtT vY vY vY ?_
  refine vK ?_
  refine qKV _ (.pointer (some ⟨b,0,none⟩)) rfl (fun w1 _=>by kernel_rfl) ?_;refine vS ?_
  refine vK ?_
  refine qKL ⟨b,2,none⟩ _ rfl (fun w1 H=>jab Tryz.underlying3 rfl (jaa J.o ((jak _).trans H))) ?_;refine vS ?_
  refine vK ?_
  refine qKV _ (.pointer (some ⟨b,0,none⟩)) rfl (fun w1 _=>by kernel_rfl) ?_;refine vS ?_
  refine vK ?_
  refine qKL ⟨b,3,none⟩ _ rfl (fun w1 H=>jab Tryz.underlying3 rfl (jaa K.o ((jak _).trans H))) ?_;refine vS ?_;iterate 2 refine vK ?_
  refine qKE (fun w3 Z=>?_);have HE:=Hd ((jak _).trans Z);clear Z;go_wp2_with fail
  go_ret
  exact⟨rfl,HE.o⟩
end
section
open Go Go.RowKit
attribute [local go_sem] Oper.semAt_some
def delL(L:vT)(k:Key):vT:=L.filter fun x => !decide (k=x.1)
theorem jpT(k:Key):∀ L:vT,(L.map (·.1)).Nodup->delV (L.map kvN) k=(delL L k).map kvN
 | [],_=>rfl
 | x :: r,h=>by
  rw[bN,dP]at h;rw[bN,delV];unfold delL
  by_cases e:k=x.1
  ·rw[if_pos (show k=(kvN x).1 from e),gM (by simp[e])]
   congr 1
   symm;rw[fA];intro y q
   have:k≠y.1:=fun A=>h.1 (bD.2 ⟨y,q,by rw[<-A,e]⟩)
   simpa using this
  ·rw[if_neg (show ¬ k=(kvN x).1 from e),gL (by simp[e]),bN,jpT k r h.2];rfl
theorem jcj.del{L:vT}(h:jcj W bm L)(k:vB) :
  ∃ o,(∀ A r,(Builtin.delete_ #[121,A] r #[.map (some bm),.string k]).run Tryz.prog W=.ok (.tuple #[]) (W.putObj bm o))/\jcj (W.putObj bm o) bm (delL L k.data.toList):=by
 obtain⟨Z,ck,H,J⟩:=h.mp
 have q:=J.keys;rw[cW]at q;have q:(L.map (·.1)).Nodup:=q;have K:=J.del k.data.toList;rw[jpT _ L q]at K;have hK:jac (fun z=>z=bm) W (W.putObj bm (.map (Tryz.ES.arr (jbS Z k.data.toList)) ck)):=jac.onePut W bm _;have O:(delL L k.data.toList).Sublist L:=List.filter_sublist
 refine⟨_,fun A r=>jgu Tryz.ES Tryz.uMapIt H k.data.toList A r,⟨_,_,H.put_same _,K⟩,h.blks.sublist (O.map _),fun x hx=>?_⟩
 have hi:=h.items x (O.subset hx);refine hi.keeps hK (fun e=>?_) h.notRow
 obtain⟨_,X,_⟩:=hi.cells
 have e:x.2.1=bm:=e;rw[e]at X
 have:=H.uniq X;cases this
def jce(S:vT):vM:=S.flatMap fun y=>y.2.2.refs
structure Cnt(S:vT):Prop where
 used:∀ x∈S,x.2.2.used=(cK (jce S) x.1:Int)
 shut:∀ r∈jce S,r.data.toList∈S.map (·.1)
 held:∀ x∈S,0<=x.2.2.held
 r16:∀ x∈S,x.2.2.refs.length<=16
def jdZ(S:vT):Int:=(S.map fun x=>x.2.2.held).sum
theorem Cnt.none:Cnt []:=⟨by simp,by simp[jce],by simp,by simp⟩
theorem jkT(h:∀ x∈S,x.2.2.refs.length<=16):(jce S).length<=16 * S.length:=by
 induction S with
 | nil=>simp[jce]
 | cons x r ih =>
  have A:=ih fun y q=>h y (bW _ q);have H:=h x cJ;have e:jce (x :: r)=x.2.2.refs++jce r:=by simp[jce]
  rw[e,bI,bU];omega
theorem jsz(T:vM)(k:Key):cK T k<=T.length:=by
 unfold cK;have:=List.count_le_length (a:=k) (l:=T.map (·.data.toList));rwa [bS]at this
theorem jxC{T:vM}(h:0 < cK T k):∃ r∈T,r.data.toList=k:=by
 unfold cK at h
 obtain⟨r,q,e⟩:=bD.1 (gK.1 h)
 exact⟨r,q,e⟩
theorem Cnt.bd(h:Cnt S)(hl:S.length<=20000):∀ x∈S,0<=x.2.2.used/\x.2.2.used<=320000:=fun x e=>by
 have q:=h.used x e;have A:=jsz (jce S) x.1;have H:=jkT h.r16;omega
def jcO(T:vM)(x:Nd5):Nd5:=(x.1,x.2.1,⟨x.2.2.text,x.2.2.refs,x.2.2.used - (cK T x.1:Int),x.2.2.held⟩)
def decU(k:Key)(L:vT):vT:=L.map fun x=>if x.1=k then (x.1,x.2.1,putF 2 (x.2.2.used - 1) x.2.2)else x
theorem jqB(S:vT):S.map (jcO [])=S:=by
 have:(jcO []:Nd5->Nd5)=id:=funext fun x=>by
  unfold jcO cK;simp
 rw[this,List.map_id]
theorem jog(T:vM)(r:vB)(S:vT):S.map (jcO (T++[r]))=decU r.data.toList (S.map (jcO T)):=by
 unfold decU;rw[cW];refine dF fun x _=>?_;simp only[Function.comp];have q:cK (T++[r]) x.1=cK T x.1+(if x.1=r.data.toList then 1 else 0):=by
  rw[jl8]
  congr 1
  have:=jlg r [] x.1
  rw[this];simp[cK]
 by_cases e:x.1=r.data.toList
 ·rw[if_pos e]at q
  rw[if_pos (show (jcO T x).1=r.data.toList from e)];unfold jcO putF;simp only[if_true];rw[q];refine congrArg (fun z=>(x.1,x.2.1,z)) ?_
  congr 1
  push_cast
  omega
 ·rw[if_neg e]at q
  rw[if_neg (show ¬(jcO T x).1=r.data.toList from e)];unfold jcO;rw[q];simp
theorem jgo(T:vM)(S:vT):(S.map (jcO T)).map (·.1)=S.map (·.1):=by rw[cW];rfl
theorem jiC(T:vM)(S:vT):jce (S.map (jcO T))=jce S:=by
 unfold jce;rw[List.flatMap_map];rfl
theorem jt8{L:vT}(h:jcj W bm L)(hy:atL L k=some y):L.map (setB 2 y.2.1 (y.2.2.used - 1))=decU k L:=by
 obtain⟨K,O,_,H⟩:=h.mp
 have q:=H.keys;rw[cW]at q;have q:(L.map (·.1)).Nodup:=q;unfold decU;refine dF (fun x A=>?_);unfold setB
 by_cases e:x.2.1=y.2.1
 ·have:x=y:=jaG h.blks A (jaF hy).1 e
  subst this;rw[if_pos rfl,if_pos (jaF hy).2]
 ·rw[if_neg e,if_neg]
  intro J
  have:x=y:=jaG q A (jaF hy).1 (J.trans (jaF hy).2.symm)
  subst this;exact e rfl
theorem jsJ(hn:(S.map (·.1)).Nodup)(hy:y∈S)(k:Key):cK (jce S) k=cK y.2.2.refs k+cK (jce (delL S y.1)) k:=by
 induction S with
 | nil=>cases hy
 | cons x r ih =>
  rw[bN,dP]at hn;have e:jce (x :: r)=x.2.2.refs++jce r:=by simp[jce]
  rw[e,jl8];rcases bZ.1 hy with rfl | hy
  ·have:delL (y :: r) y.1=r:=by
    unfold delL;rw[gM (by simp),fA];intro z A
    have:y.1≠z.1:=fun e=>hn.1 (bD.2 ⟨z,A,e.symm⟩)
    simpa using this
   rw[this]
  ·have q:y.1≠x.1:=fun e=>hn.1 (bD.2 ⟨y,hy,e⟩)
   have:delL (x :: r) y.1=x :: delL r y.1:=by unfold delL;rw[gL (by simpa using q)]
   rw[this,ih hn.2 hy];have H:jce (x :: delL r y.1)=x.2.2.refs++jce (delL r y.1):=by simp[jce]
   rw[H,jl8];omega
theorem jeS(T:vM)(S:vT)(k:Key):delL (S.map (jcO T)) k=(delL S k).map (jcO T):=by
 unfold delL;rw[List.filter_map];rfl
theorem jdV{x:Nd5}:x∈delL S k↔x∈S/\x.1≠k:=by
 unfold delL;rw[cI];simp only[gR,decide_eq_false_iff_not]
 exact⟨fun h=>⟨h.1,fun e=>h.2 e.symm⟩,fun h=>⟨h.1,fun e=>h.2 e.symm⟩⟩
theorem jvo(hn:(S.map (·.1)).Nodup)(h:Cnt S)(hy:y∈S)(h0:y.2.2.used=0):Cnt (delL (S.map (jcO y.2.2.refs)) y.1):=by
 rw[jeS];have K:cK (jce S) y.1=0:=by have:=h.used y hy;omega
 refine⟨fun x A=>?_,fun r J=>?_,fun x A=>?_,fun x A=>?_⟩
 ·obtain⟨z,q,rfl⟩:=bD.1 A
  have X:=h.used z (jdV.1 q).1;have Z:=jsJ hn hy z.1;show z.2.2.used - (cK y.2.2.refs z.1:Int)=(cK (jce ((delL S y.1).map (jcO y.2.2.refs))) z.1:Int);rw[jiC];omega
 ·rw[jiC]at J
  rw[jgo];have H:r∈jce S:=by
   obtain⟨z,q,J⟩:=fI.1 J
   exact fI.2 ⟨z,(jdV.1 q).1,J⟩
  obtain⟨z,q,e⟩:=bD.1 (h.shut r H)
  refine bD.2 ⟨z,jdV.2 ⟨q,fun O=>?_⟩,e⟩
  have:=jpo H
  rw[<-e,O]at this;omega
 ·obtain⟨z,q,rfl⟩:=bD.1 A
  exact h.held z (jdV.1 q).1
 ·obtain⟨z,q,rfl⟩:=bD.1 A
  exact h.r16 z (jdV.1 q).1
theorem joa(T:vM)(S:vT):jdZ (S.map (jcO T))=jdZ S:=by
 unfold jdZ;rw[cW];rfl
theorem jqq(hn:(S.map (·.1)).Nodup)(hy:y∈S):jdZ S=y.2.2.held+jdZ (delL S y.1):=by
 induction S with
 | nil=>cases hy
 | cons x r ih =>
  rw[bN,dP]at hn;have e:∀ (a:Nd5) b,jdZ (a :: b)=a.2.2.held+jdZ b:=fun a b=>by unfold jdZ;rw[bN,iS]
  rw[e];rcases bZ.1 hy with rfl | hy
  ·have:delL (y :: r) y.1=r:=by
    unfold delL;rw[gM (by simp),fA];intro z A
    have:y.1≠z.1:=fun e=>hn.1 (bD.2 ⟨z,A,e.symm⟩)
    simpa using this
   rw[this]
  ·have q:y.1≠x.1:=fun e=>hn.1 (bD.2 ⟨y,hy,e⟩)
   have:delL (x :: r) y.1=x :: delL r y.1:=by unfold delL;rw[gL (by simpa using q)]
   rw[this,e,ih hn.2 hy];omega
theorem jqr(hn:(S.map (·.1)).Nodup)(hb:(S.map (·.2.1)).Nodup)(hy:y∈S)(v:Int):jdZ (S.map (setB 3 y.2.1 v))=jdZ S+v - y.2.2.held:=by
 have e:∀ (a:Nd5) b,jdZ (a :: b)=a.2.2.held+jdZ b:=fun a b=>by unfold jdZ;rw[bN,iS]
 clear hn;induction S with
 | nil=>cases hy
 | cons x r ih =>
  rw[bN,dP]at hb;rw[bN,e,e];rcases bZ.1 hy with rfl | hy
  ·have q:(setB 3 y.2.1 v y).2.2.held=v:=by unfold setB putF;simp
   have H:r.map (setB 3 y.2.1 v)=r:=by
    conv=>rhs;rw[<-List.map_id r]
    refine dF fun z J=>?_;unfold setB;rw[if_neg (fun e=>hb.1 (bD.2 ⟨z,J,e⟩))];rfl
   rw[q,H];omega
  ·have A:¬ x.2.1=y.2.1:=fun e=>hb.1 (bD.2 ⟨y,hy,e.symm⟩)
   have q:setB 3 y.2.1 v x=x:=by unfold setB;rw[if_neg A]
   rw[q,ih hb.2 hy];omega
theorem jiT(v:Int)(S:vT):(S.map (setB 3 c v)).map (·.1)=S.map (·.1):=by
 rw[cW];refine dF fun x _=>?_;simp only[Function.comp,setB];split <;> rfl
theorem jdN(v:Int)(x:Nd5):(setB 3 c v x).2.2.used=x.2.2.used/\(setB 3 c v x).2.2.refs=x.2.2.refs/\(setB 3 c v x).1=x.1/\(setB 3 c v x).2.2.text=x.2.2.text/\(setB 3 c v x).2.1=x.2.1:=by
 unfold setB putF;split <;> simp
theorem jiU(v:Int)(S:vT):jce (S.map (setB 3 c v))=jce S:=by
 unfold jce;rw[List.flatMap_map]
 have:(fun x=>(setB 3 c v x).2.2.refs)=fun x:Nd5=>x.2.2.refs:=funext fun x=>(jdN c v x).2.1
 rw[this]
theorem jvp(h:Cnt S)(c:Nat){v:Int}(hv:0<=v):Cnt (S.map (setB 3 c v)):=by
 refine⟨fun x q=>?_,fun r H=>?_,fun x q=>?_,fun x q=>?_⟩
 ·obtain⟨z,A,rfl⟩:=bD.1 q
  rw[jiU,(jdN c v z).1,(jdN c v z).2.2.1];exact h.used z A
 ·rw[jiU]at H;rw[jiT];exact h.shut r H
 ·obtain⟨z,A,rfl⟩:=bD.1 q
  unfold setB putF
  by_cases e:z.2.1=c
  ·rw[if_pos e];exact hv
  ·rw[if_neg e];exact h.held z A
 ·obtain⟨z,A,rfl⟩:=bD.1 q
  rw[(jdN c v z).2.1];exact h.r16 z A
def jlY(z:Nat)(W:vW)(b:Nat)(it:It):Prop:=b < z/\∃ rv,Blk W b (.cells #[.string it.text,rv,.int .i64 it.used,.int .i64 it.held] 133)/\W.ownsRow 0 9 1 rv it.refs.length (it.refs.map Value.string)/\∀ c,rv.ownBlock=some c->c < z
structure jb7(z:Nat)(W:World)(s bm:Nat)(room:Int)(S:vT):Prop where
 st:jax W s bm room S
 s0:s < z
 b0:bm < z
 lo:∀ x∈S,jlY z W x.2.1 x.2.2
theorem jax.low(h:jax W s bm room S):jb7 W.heap.size W s bm room S:=by
 obtain⟨K,O,e,_⟩:=h.mp.mp
 refine⟨h,h.st.lt,e.lt,fun x A=>?_⟩
 obtain⟨H,e,q⟩:=(h.mp.items x A).cells
 exact⟨e.lt,H,e,q,fun c J=>(World.ownsRow.lt q c J).2⟩
theorem jlY.past{b:Nat}{it:It}(h:jlY z W b it)(k:jac F W W')(hF:∀ c,F c->z<=c):jlY z W' b it:=by
 obtain⟨hb,q,A,H,e⟩:=h
 exact⟨hb,q,A.keeps k (fun f=>by have:=hF b f;omega),jaL H k (fun c J f=>by have:=hF c f;have:=e c J;omega),e⟩
theorem jb7.past(h:jb7 z W s bm room S)(k:jac F W W')(hF:∀ c,F c->z<=c):jb7 z W' s bm room S:=by
 have e:=fun x q=>(h.lo x q).past k hF
 obtain⟨A,H,J,K⟩:=h.st.mp.mp
 refine⟨⟨h.st.st.keeps k (fun f=>by have:=hF s f;have:=h.s0;omega),⟨A,H,J.keeps k (fun f=>by have:=hF bm f;have:=h.b0;omega),K⟩,h.st.mp.blks,fun x q=>?_⟩,h.s0,h.b0,e⟩
 obtain⟨_,O,X,Z,_⟩:=e x q
 exact⟨O,X,Z⟩
theorem jb7.ext(h:jb7 z W s bm room S)(k:Ext W W'):jb7 z W' s bm room S:=h.past k (fun _ f=>f.elim)
theorem jb7.set(h:jb7 z W s bm room S)(hy:y∈S)(hf:f=2\/f=3)(v:Int):jb7 z (W.setCell ⟨y.2.1,f,none⟩ (.int .i64 v)) s bm room (S.map (setB f y.2.1 v)):=by
 have hi:=h.st.mp.items y hy
 obtain⟨rv,hb,_⟩:=hi.cells
 have A:jac (fun z=>z=y.2.1) W (W.setCell ⟨y.2.1,f,none⟩ (.int .i64 v)):=jac.oneSet W ⟨y.2.1,f,none⟩ _;have J:jdx W (fun z=>z=y.2.1):=fun z Z fz e hz=>by
  have e:z=y.2.1:=e;subst e
  have:=hb.uniq hz;injection this with _ h2;exact absurd h2 vI
 refine⟨⟨h.st.st.keeps A (fun e=>?_),h.st.mp.setF hi hf v⟩,h.s0,h.b0,fun x hx=>?_⟩
 ·have e:s=y.2.1:=e
  rw[e]at h
  have:=hb.uniq h.st.st;injection this with _ h2;exact absurd h2 vI
 ·obtain⟨u,hu,rfl⟩:=bD.1 hx
  obtain⟨K,q,H,O,X⟩:=h.lo u hu
  unfold setB;split
  ·rename_i e
   refine⟨K,q,?_,?_,X⟩
   ·show Blk _ u.2.1 _
    rw[e]at H ⊢;rcases hf with rfl | rfl
    ·exact H.set_same (i:=2) _
    ·exact H.set_same (i:=3) _
   ·have:=jcp O A J
    rcases hf with rfl | rfl <;> exact this
  ·rename_i e
   exact⟨K,q,H.keeps A e,jcp O A J,X⟩
theorem jb7.del(h:jb7 z W s bm room S)(k:vB) :
  ∃ o,(∀ kt r,(Builtin.delete_ #[121,kt] r #[.map (some bm),.string k]).run Tryz.prog W=.ok (.tuple #[]) (W.putObj bm o))/\jb7 z (W.putObj bm o) s bm room (delL S k.data.toList):=by
 obtain⟨q,A,O⟩:=h.st.mp.del k
 have H:jac (fun z=>z=bm) W (W.putObj bm q):=jac.onePut W bm q
 refine⟨q,A,⟨h.st.st.keeps H (fun e=>?_),O⟩,h.s0,h.b0,fun x X=>?_⟩
 ·have e:s=bm:=e
  obtain⟨Z,ck,J,_⟩:=h.st.mp.mp
  subst e
  have:=J.uniq h.st.st;cases this
 ·obtain⟨l1,rv,K,l3,l4⟩:=h.lo x (jdV.1 X).1
  refine⟨l1,rv,K.keeps H (fun e=>?_),jcp l3 H h.st.mp.notRow,l4⟩
  have e:x.2.1=bm:=e
  obtain⟨Z,ck,J,_⟩:=h.st.mp.mp
  rw[e]at K
  have:=J.uniq K;cases this
theorem jrx{w:vW}{T:vM}(h:w.ownsRow B 9 1 (.slice (some ⟨g,0,none⟩) (n+1) cap) (n+1) ((T++[t]).map Value.string)):w.ownsRow B 9 1 (.slice (some ⟨g,0,none⟩) n cap) n (T.map Value.string):=by
 obtain⟨O,⟨q,_⟩ |⟨X,H,A,q,Z,h4,h5,h6,h7,J⟩⟩:=h
 ·cases q
 ·obtain⟨ha,_,hc⟩:=dC q
  have hg:g=X:=by have:=bP ha;exact congrArg Addr.block this
  subst hg hc;have K:T.length=n:=by simp at O;omega
  refine⟨by simp[K],.inr ⟨g,cap,A,rfl,Z,h4,by omega,h6,h7,?_⟩⟩
  have e:(T++[t]).map Value.string=T.map Value.string++[.string t]:=by simp
  rw[e]at J
  have:=congrArg (List.take n) J
  rw[List.take_take,Nat.min_eq_left vO,List.take_left' (by simp[K])]at this;rw[Nat.mul_one];exact this
def jny(S:vT)(T:vM):Prop:=∀ x∈S,x.2.2.used+x.2.2.held<=0->∃ r∈T,r.data.toList=x.1
def SubS(S0 S:vT):Prop:=∀ x∈S,∃ y∈S0,x.1=y.1/\x.2.1=y.2.1/\x.2.2.text=y.2.2.text/\x.2.2.refs=y.2.2.refs/\x.2.2.held=y.2.2.held
structure DrO(z:Nat)(s bm:Nat)(room:Int)(S0 S:vT)(T:vM)(w3:World)(v:Value)(W:World):Prop where
 st:jb7 z W s bm room S
 cnt:Cnt S
 loose:jny S T
 row:W.ownsRow 0 9 1 v T.length (T.map Value.string)
 new:∀ b,v.ownBlock=some b->z<=b
 sub:SubS S0 S
 sum:jdZ S=jdZ S0
 len:S.length<=S0.length
 tl:T.length+16 * S.length<=1+16 * S0.length
 stay:∀ x∈S0,0 < x.2.2.held->x.1∈S.map (·.1)
 kp:jac (fun b=>b=bm\/b∈S0.map (·.2.1)\/z<=b) w3 W
 rk:RK w3 W
def mapSz(W:vW)(bm:Nat):Nat:=match W.heap[bm]? with | some (.map es _)=>es.size | _=>0
theorem jax.mapSz(h:jax W s bm room S):mapSz W bm=S.length:=by
 obtain⟨A,H,e,q⟩:=h.mp.mp
 have:=q.lenL
 unfold Go.Proofs.YtnkdaacmpceghaaGreatDoor.mapSz;rw[show W.heap[bm]?=_ from e];simp[jaO.arr,this]
theorem jkB{T:vM}(h:jny S (T++[t]))(ht:∀ x∈S,x.1=t.data.toList->0 < x.2.2.used+x.2.2.held):jny S T:=fun x A H=>by
 obtain⟨r,q,e⟩:=h x A H
 rcases bQ.1 q with q | q
 ·exact⟨r,q,e⟩
 ·have:=ht x A (by rw[<-e,bM.1 q]);omega
theorem jqE{T:vM}(h:jny S (T++[t]))(hk:k=t.data.toList):jny (delL (S.map (jcO R)) k) (T++R):=fun x H J=>by
 rw[jeS]at H
 obtain⟨z,A,rfl⟩:=bD.1 H
 have A:=jdV.1 A;have J:z.2.2.used - (cK R z.1:Int)+z.2.2.held<=0:=J
 by_cases hc:0 < cK R z.1
 ·obtain⟨r,q,e⟩:=jxC hc
  exact⟨r,List.mem_append_right _ q,e⟩
 ·obtain⟨r,q,e⟩:=h z A.1 vO
  rcases bQ.1 q with q | q
  ·exact⟨r,List.mem_append_left _ q,e⟩
  ·exact absurd (e.symm.trans (by rw[bM.1 q,hk])) A.2
theorem jwD(h:SubS S0 S)(R:vM)(k:Key):SubS S0 (delL (S.map (jcO R)) k):=fun x e=>by
 rw[jeS]at e
 obtain⟨z,q,rfl⟩:=bD.1 e
 exact h z (jdV.1 q).1
theorem jpU(hy:y∈S)(R:vM):(delL (S.map (jcO R)) y.1).length+1<=S.length:=by
 rw[jeS,bS];unfold delL
 have:=iP (l:=S) (p:=fun x => !decide (y.1=x.1))
 have:=this.2 ⟨y,hy,by simp⟩
 omega
theorem jug(hn:(S0.map (·.1)).Nodup)(hs:SubS S0 S)(h:∀ x∈S0,0 < x.2.2.held->x.1∈S.map (·.1))(hy:y∈S)(h0:y.2.2.held=0)(R:vM):∀ x∈S0,0 < x.2.2.held->x.1∈(delL (S.map (jcO R)) y.1).map (·.1):=fun x A H=>by
 obtain⟨z,J,e⟩:=bD.1 (h x A H)
 rw[jeS,jgo];refine bD.2 ⟨z,jdV.2 ⟨J,fun K=>?_⟩,e⟩
 obtain⟨O,q,X,_,_,_,Z⟩:=hs y hy
 have:x=O:=jaG hn A q (by rw[<-e,K,X])
 subst this;omega
def jjR(S:vT):Prop:=∀ x∈S,0 < x.2.2.used+x.2.2.held
structure juU(w:World)(s bm:Nat)(room:Int)(S S':vT)(y:Nd5)(w':World):Prop where
 st:jax w' s bm room S'
 cnt:Cnt S'
 full:jjR S'
 sum:jdZ S'=jdZ S - 1
 len:S'.length<=S.length
 sub:SubS (S.map (setB 3 y.2.1 (y.2.2.held - 1))) S'
 stay:∀ x∈S.map (setB 3 y.2.1 (y.2.2.held - 1)),0 < x.2.2.held->x.1∈S'.map (·.1)
 kp:jac (fun b=>b=bm\/b∈S.map (·.2.1)) w w'
 rk:RK w w'
def jw0(w:vW)(s bm:Nat)(room:Int)(S:vT)(k:vB)(e:Ending)(w':vW):Prop:=
 (jqp (atL S k.data.toList)=0/\e=.returned (.int .i64 4)/\Ext w w')\/∃ S' y,atL S k.data.toList=some y/\0 < y.2.2.held/\e=.returned (.int .i64 0)/\juU w s bm room S S' y w'
theorem drop_zero(s bm:Nat)(room:Int)(S:vT)(h:jax w s bm room S)(k:vB)(hy:jqp (atL S k.data.toList)=0) :
  vR 75 #[.pointer (some ⟨s,0,none⟩),.string k] w (.int .i64 4):=by
 have q:=jrF w s bm room S k h;rw[hy]at q;have H:Hid (vQ 121 #[.pointer (some ⟨s,0,none⟩),.string k] w fun e w'=>e=.returned (.int .i64 0)/\Ext w w'):=q;clear q h hy;go_enter Tryz.func75,Tryz.ntmps75;go_wp2_with fail
 refine H.o.mono ?_;rintro e w1 ⟨rfl,A⟩;have J:=Hd A;clear A;go_wp2_with fail
 go_ret
 exact⟨rfl,J.o⟩
def jwZ(z s bm:Nat)(room:Int)(S0:vT)(w3:vW)(v:vV)(W:vW):Prop:=∃ S T,DrO z s bm room S0 S T w3 v W
structure DrI(z s bm:Nat)(room:Int)(S0 S:vT)(T R:vM)(rv:Value)(w3:World)(j:Nat)(v:Value)(W:World):Prop where
 st:jb7 z W s bm room (S.map (jcO (R.take j)))
 row:W.ownsRow 0 9 1 v (T.length+j) ((T++R.take j).map Value.string)
 new:∀ b,v.ownBlock=some b->z<=b
 refs:W.ownsRow 0 9 1 rv R.length (R.map Value.string)
 kp:jac (fun b=>b=bm\/b∈S0.map (·.2.1)\/z<=b) w3 W
 rk:RK w3 W
def jwY(z s bm:Nat)(room:Int)(S0 S:vT)(T R:vM)(rv:vV)(w3:vW)(v iv:vV)(W:vW):Prop:=∃ j:Nat,j<=R.length/\iv=.int .i64 j/\DrI z s bm room S0 S T R rv w3 j v W
theorem jkv{G:BSet}{a c:vW}(h:jac F a b)(k:jac G b c)(hG:∀ x,G x->F x):jac F a c:=h.trans (k.mono fun x _ g=>hG x g)
theorem jvm(h:Cnt S)(e:¬ 0 < jmf (atL S k)):atL S k=none\/∃ y,atL S k=some y/\y.2.2.used=0/\y.2.2.held=0:=by
 cases hy:atL S k with
 | none=>exact .inl rfl
 | some y =>
  right;rw[hy]at e;have q:=h.held y (jaF hy).1;have A:=h.used y (jaF hy).1;have e:¬ 0 < y.2.2.used+y.2.2.held:=e
  exact⟨y,rfl,by omega,by omega⟩
theorem jtv(h:Cnt S)(hl:S.length<=20000)(hR:R.length<=16)(j:Nat):∀ x∈S.map (jcO (R.take j)), -16<=x.2.2.used/\x.2.2.used<=320000:=fun x e=>by
 obtain⟨z,q,rfl⟩:=bD.1 e
 have H:=h.bd hl z q;have A:=jsz (R.take j) z.1;rw[cQ]at A;show -16<=z.2.2.used - (cK (R.take j) z.1:Int)/\z.2.2.used - (cK (R.take j) z.1:Int)<=320000;omega
theorem jwt{w:vW}{T:vM}(h:w.ownsRow B 9 1 (.slice (some ⟨g,0,none⟩) (n+1) cap) (n+1) ((T++[t]).map Value.string)):w.cell? ⟨g,n,none⟩=some (.string t):=by
 have e:T.length=n:=by have:=h.1;simp at this;omega
 have:=World.ownsRow.cells (g:=g) h vF n (.string t) (by rw[bY,cO (by simp[e]),bS,e,iK];rfl)
 rw[Addr.add_lit,bT]at this;exact this
theorem jyz{w:vW}{v:vV}(h:w.ownsRow B 9 1 v (n+1) xs):∃ g cap,v=.slice (some ⟨g,0,none⟩) (n+1) cap:=by
 obtain⟨_,⟨_,q⟩ |⟨A,e,H,q,_⟩⟩:=h
 ·omega
 ·exact⟨A,e,q⟩
theorem jws{w:vW}(h:w.ownsRow B 9 1 (.slice a (n+1) cap) (n+1) xs)(hm:m=n):m+1<=cap:=by
 subst hm
 obtain⟨_,⟨_,q⟩ |⟨J,A,H,q,_,_,K,_⟩⟩:=h
 ·omega
 ·obtain⟨_,_,e⟩:=dC q;omega
theorem jva(hn:(S.map (·.1)).Nodup){x:Nd5}(hx:x∈S)(e:x.1=k):atL S k=some x:=by
 obtain⟨y,q⟩:=dD.1 (jjf.2 (bD.2 ⟨x,hx,e⟩))
 rw[q,jvb hn hx e q]
theorem jpZ(s bm:Nat)(room:Int)(S:vT)(h:jax w s bm room S)(b4:Cnt S)(hfl:jjR S)(hl:S.length<=20000)(hh:∀ x∈S,x.2.2.held<=1000000)(k:vB)(y:Nd5)(hy:atL S k.data.toList=some y)(h1:0 < y.2.2.held) :
  vQ 75 #[.pointer (some ⟨s,0,none⟩),.string k] w (jw0 w s bm room S k):=by
 have HS:=Hd h;have i6:=Hd b4;have g8:=Hd hfl;have HY:=Hd hy;have HH:=Hd hh;have H:=(jaF hy).1;have m2:=b4.bd hl y H;have g2:=hh y H;have hc:=jrF w s bm room S k h;rw[hy]at hc
 obtain⟨yb,J⟩:=vE y.2.1
 obtain⟨hd,b5⟩:=vE y.2.2.held
 have g9:jqp (some y)=hd:=b5.symm;rw[g9]at hc;rw[<-b5]at h1 g2;have e6:=Hd J;have d3:=Hd b5;have HC:=Hd hc;have H1:=Hd h1;have m3:(hd == 0)=false:=by simp;omega
 clear h b4 hfl hh hy H hc J b5 g9;go_enter Tryz.func75,Tryz.ntmps75;go_wp2_with fail
 refine HC.o.mono ?_;rintro e w1 ⟨rfl,hE⟩;have h:=HS.o.ext hE;have J:=e6.o;have b5:=d3.o;have hy:=HY.o;have H:=(jaF hy).1;have c0:=h.low.set H (.inr rfl) (hd - 1);rw[<-J]at c0
 obtain⟨z,hz⟩:=vE w1.heap.size
 rw[<-hz]at c0;have HZ:=Hd hz;have hK:jac (fun z=>z=yb) w1 (w1.setCell ⟨yb,3,none⟩ (.int .i64 (hd - 1))):=jac.oneSet w1 ⟨yb,3,none⟩ _;have A:=h.mp.look k false;rw[hy]at A;unfold ptrO at A;simp only[cH,if_false]at A;rw[<-J]at A
 obtain⟨S0,O⟩:=vE (S.map (setB 3 yb (hd - 1)))
 rw[<-O]at c0;have e7:=Hd O
 obtain⟨rv,d4,_⟩:=(h.mp.items y H).cells
 rw[<-J, <-b5]at d4;have qs:=h.st.cell (i:=1) (v:=.map (some bm)) vF;have qh:=d4.cell (i:=3) (v:=.int .i64 hd) vF;have fh:w1.frozen? ⟨yb,3,none⟩=false:=d4.frozen;have h3:Cnt S0:=by rw[O];exact jvp i6.o yb vO
 have h4:S0.length=S.length:=by rw[O,bS]
 have c3:jdZ S0=jdZ S - 1:=by rw[O,J,jqr h.nd h.mp.blks H];omega
 have c4:(S0.map (·.1)).Nodup:=by rw[O,jiT];exact h.nd
 have c7:jny S0 [k]:=by
  rw[O];intro x hx h0
  obtain⟨u,hu,rfl⟩:=bD.1 hx
  refine⟨k,by simp,?_⟩
  by_cases e:u.2.1=yb
  ·have:u=y:=jaG h.mp.blks hu H (by rw[e,J])
   rw[(jdN yb (hd - 1) u).2.2.1,this,(jaF hy).2]
  ·unfold setB at h0
   rw[if_neg e]at h0
   have:=g8.o u hu;omega
 have h6:=Hd c0;have i7:=Hd h3;have g3:=Hd c3;have g4:=Hd c4;have i8:=Hd c7;have e8:=Hd h4;have h7:=Hd (show S0.map (·.2.1)=S.map (·.2.1) by rw[O,jne]);have HK:=Hd (bA hE hK);have i9:=Hd (show yb∈S.map (·.2.1) by rw[J];exact bD.2 ⟨y,H,rfl⟩);have j0 : -9223372036854775808<=hd - 1:=vO
 have j1:hd - 1<=9223372036854775807:=vO
 clear h hy H J b5 c0 hK O d4 HS h3 h4 c3 c4 c7 HC hE g8
 obtain⟨w2,a0⟩:∃ w2,w2=w1.setCell ⟨yb,3,none⟩ (.int .i64 (hd - 1)):=⟨_,rfl⟩
 rw[<-a0]at h6 HK;have j2:=Hd (show w2.heap.size=z by rw[a0,hz];simp);have g5:=Hd (show RK w1 w2 by rw[a0];exact (RK.refl w1).set yb (.inr rfl) _);go_wp2_with fail
 rw[<-a0, <-hz];clear a0 qs qh fh A hz
 obtain⟨w3,d5⟩:=vE (w2.alloc (.cells #[.string k] 9))
 rw[<-d5];have h8:ORow 9 1 w2 w3 (.slice (some ⟨w2.heap.size,0,none⟩) 1 1) 1 [.string k]:=by rw[d5];exact ORow.lit #[.string k] (ExtR w2) vI rfl
 have e9:=Hd (show w3.ownsRow 0 9 1 (.slice (some ⟨z,0,none⟩) 1 1) 1 [.string k] by have h:=h8.own;rw[j2.o]at h;exact h);have f0:=Hd (show Ext w2 w3 by rw[d5];exact (ExtR w2).alloc _);clear d5 h8;go_loopw [5] (fun v wr=>jwZ z s bm room S0 w1 v wr) (fun v wr=>17 * mapSz wr bm+slN v)
 case atStart =>
  refine⟨S0,[k],h6.o.ext f0.o,i7.o,i8.o,e9.o,fun b hb=>?_,fun x hx=>⟨x,hx,rfl,rfl,rfl,rfl,rfl⟩,rfl,bL _,bL _,fun x hx _=>bD.2 ⟨x,hx,rfl⟩,jkv (F:=fun b=>b=bm\/b∈S0.map (·.2.1)\/z<=b) (HK.o.2.mono fun x _ e=>.inr (.inl (by rw[show x=yb from e,h7.o];exact i9.o))) f0.o (fun x e=>e.elim),g5.o.ext f0.o⟩
  have e:some z=some b:=hb
  have:=bP e;omega
 case round =>
  obtain⟨S1,T,hD⟩:=hrel
  have q:=Hd hD;rcases List.eq_nil_or_concat T with hT |⟨T',t,hT⟩
  ·subst hT
   obtain⟨a,c,rfl⟩:=jaD hD.row
   clear hD;go_wp2_with fail
   go_ret;refine .inr ⟨S1,y,HY.o,by rw[<-d3.o];exact H1.o,rfl,q.o.st.st,q.o.cnt,fun x hx=>?_,?_,?_,?_,?_,?_,?_⟩
   ·by_cases h0:x.2.2.used+x.2.2.held<=0
    ·obtain⟨r,hr,_⟩:=q.o.loose x hx h0
     cases hr
    ·omega
   ·rw[q.o.sum,g3.o]
   ·have:=q.o.len;rw[e8.o]at this;exact this
   ·rw[<-e6.o, <-d3.o, <-e7.o];exact q.o.sub
   ·rw[<-e6.o, <-d3.o, <-e7.o];exact q.o.stay
   ·have hz:=HZ.o
    refine jac.trans' (F:=fun b=>b=bm\/b∈S.map (·.2.1)) (HK.o.1.mono fun _ _ g=>g.elim) q.o.kp (fun x hx e=>?_);rcases e with e | e | e
    ·exact .inl e
    ·rw[h7.o]at e;exact .inr e
    ·have:=HK.o.1.size;omega
   ·exact ((RK.refl w).ext HK.o.1).trans q.o.rk
  ·have hT:T=T'++[t]:=by rw[hT];simp
   subst hT;have K:=hD.row;rw[show (T'++[t]).length=T'.length+1 by simp]at K
   obtain⟨g,cp,rfl⟩:=jyz K
   have q1:=jwt K;have c8:=Hd (jrx K)
   obtain⟨n,hn⟩:=vE T'.length
   rw[<-hn]at c8 q1 ⊢;have X:=Hd hn;have j3:=hD.len;have h9:=Hd (show S1.length<=20000 by have:=e8.o;omega);have hm:=hD.st.st.mapSz;have f1:=Hd hm;have j4:Hid (z<=g):=hD.new g rfl;have m0:n+1<=cp:=jws K hn;have HB:=Hd (show ∀ x∈S1, -1000000000<=x.2.2.used/\x.2.2.used<=1000000000 /\ -1000000000<=x.2.2.held/\x.2.2.held<=1000000000 from fun x hx=>by
    have:=hD.cnt.bd h9.o x hx
    have:=hD.cnt.held x hx
    obtain⟨u,hu,_,_,_,_,e5⟩:=hD.sub x hx
    have h5:u.2.2.held<=1000000:=by
     rw[e7.o]at hu
     obtain⟨v,hv,rfl⟩:=bD.1 hu
     have:=HH.o v hv
     unfold setB putF;split
     ·show hd - 1<=1000000;omega
     ·exact this
    omega)
   have b8:=Hd (show n+1+16 * S1.length<=1+16 * S0.length by have h:=hD.tl;rw[bI, <-hn]at h;exact h);have m1:n<=400000:=by have:=b8.o;have:=e8.o;omega
   clear hD K hn j3 hm;go_wp2_with fail
   refine vC (jt6 wr s bm room S1 t q.o.st.st HB.o) fun w5 hE=>?_
   obtain⟨cn,b4⟩:=vE (jmf (atL S1 t.data.toList))
   rw[<-b4];have c9:=Hd b4;have a1:=q.o.st.ext hE;have b2:=Hd a1;have a8:=Hd (jaZ c8.o hE);have f2:=Hd (q.o.kp.trans (hE.mono (fun _ _ g=>g.elim)));have b6:=Hd (q.o.rk.ext hE);have qs:=a1.st.st.cell (i:=1) (v:=.map (some bm)) vF;have A:=a1.st.mp.look t false;simp only[cH,if_false]at A;have d0:=Hd a1.st.mapSz;have b7:=Hd (show ∀ b c m,(Value.slice (some ⟨g,0,none⟩) m c).ownBlock=some b->z<=b from fun b c m hb=>by
    have e:some g=some b:=hb
    have:=bP e;have:=j4.o;omega)
   clear hE b4 a1 q1
   by_cases hp:0 < cn
   ·go_wp2_with fail
    go_roundw
    case rel =>
     refine⟨S1,T',b2.o,q.o.cnt,jkB q.o.loose (fun x hx e=>?_),by rw[<-X.o];exact a8.o,fun b hb=>b7.o b _ _ hb,q.o.sub,q.o.sum,q.o.len,by have:=b8.o;have:=X.o;omega,q.o.stay,f2.o,b6.o⟩
     have h1:=c9.o;rw[show atL S1 t.data.toList=some x from jva q.o.st.st.nd hx e]at h1;have h1:cn=x.2.2.used+x.2.2.held:=h1;omega
    case measure=>rw[d0.o,f1.o];simp[slN]
   have f3:¬ 0 < jmf (atL S1 t.data.toList):=by rw[<-c9.o];exact hp
   rcases jvm q.o.cnt f3 with hno |⟨y1,hy1,d6,hh0⟩
   ·rw[hno]at A
    unfold ptrO at A;simp only at A;have j5:=Hd hno;clear f3 hno;go_wp2_with fail
    go_roundw
    case rel =>
     exact⟨S1,T',b2.o,q.o.cnt,jkB q.o.loose (fun x hx e=>absurd e.symm (jeM.1 j5.o x hx)),by rw[<-X.o];exact a8.o,fun b hb=>b7.o b _ _ hb,q.o.sub,q.o.sum,q.o.len,by have:=b8.o;have:=X.o;omega,q.o.stay,f2.o,b6.o⟩
    case measure=>rw[d0.o,f1.o];simp[slN]
   ·rw[hy1]at A
    unfold ptrO at A;simp only at A;have a2:=(jaF hy1).1
    obtain⟨_,rv,i1,d7,i2⟩:=b2.o.lo y1 a2
    obtain⟨R,hR⟩:=vE y1.2.2.refs
    rw[<-hR]at d7
    obtain⟨ar,cr,rfl⟩:=jaD d7
    have qr:=i1.cell (i:=1) (v:=.slice ar R.length cr) vF;have a3:=Hd (show R.length<=16 by rw[hR];exact q.o.cnt.r16 y1 a2);have j6:=Hd (show ∀ r∈R,r.data.toList∈S1.map (·.1)from fun r hr=>q.o.cnt.shut r (fI.2 ⟨y1,a2,by rw[<-hR];exact hr⟩));have j7:=Hd (show DrI z s bm room S0 S1 T' R (.slice ar R.length cr) w1 0 (.slice (some ⟨g,0,none⟩) n cp) w5 from⟨by rw[gO,jqB];exact b2.o,by rw[gO,cA,gN, <-X.o];exact a8.o,fun b hb=>b7.o b _ _ hb,d7,f2.o,b6.o⟩);have m4:=Hd hy1;have j8:=Hd hR;have j9:=Hd i2;have d8:=Hd (bA a2 (jaF hy1).2);have f4:=Hd (bA d6 hh0)
    obtain⟨m5,d1⟩:=vE y1.2.1
    rw[<-d1]at A qr;clear f3 hy1 d6 hh0 a2 i1 d7 i2 hR d1;go_wp2_with fail
    go_loopw [5,65] (fun v5 iv k0=>jwY z s bm room S0 S1 T' R (.slice ar R.length cr) w1 v5 iv k0) (fun _ iv _=>R.length - (intOf iv).toNat)
    case atStart=>exact⟨0,cB _,rfl,j7.o⟩
    case round =>
     obtain⟨j,hj,rfl,Z⟩:=hrel
     have HI:=Hd Z
     obtain⟨a5,c5,rfl⟩:=jaD Z.row
     by_cases hlt:j < R.length
     ·have b1:(j:Int) < (R.length:Int):=vO
      obtain⟨r,hr⟩:∃ r,R[j]?=some r:=⟨_,bB hlt⟩
      obtain⟨ax,cx,k1,b3⟩:=(jiJ Z.refs).slice
      obtain⟨ba,oa,k2,m6⟩:=b3 j r hr
      subst k2;cases k1;have k3:=Z.st.st.st.cell (i:=1) (v:=.map (some bm)) vF;have a4:=Z.st.st.mp.look r false;simp only[cH,if_false]at a4
      obtain⟨x1,d9⟩:=dD.1 (jjf.2 (show r.data.toList∈(S1.map (jcO (R.take j))).map (·.1) by rw[jgo];exact j6.o r (bG hr)))
      rw[d9]at a4;unfold ptrO at a4;simp only at a4;have a7:=(jaF d9).1;have k4:=jtv q.o.cnt h9.o a3.o j x1 a7
      obtain⟨rx,e0,_⟩:=(Z.st.st.mp.items x1 a7).cells
      have c1:=Z.st.set a7 (.inl rfl) (x1.2.2.used - 1);rw[jt8 Z.st.st.mp d9, <-jog]at c1;have b9:jac (fun z=>z=x1.2.1) wr (wr.setCell ⟨x1.2.1,2,none⟩ (.int .i64 (x1.2.2.used - 1))):=jac.oneSet wr ⟨x1.2.1,2,none⟩ _;have f5:jdx wr (fun z=>z=x1.2.1):=fun z m7 fz e hz=>by
       have e:z=x1.2.1:=e;subst e
       have:=e0.uniq hz;injection this with _ h2;exact absurd h2 vI
      have f6:=Hd (jcp Z.row b9 f5);have f7:=Hd (jcp Z.refs b9 f5);have i3:=Hd (show x1.2.1∈S0.map (·.2.1)from by
       obtain⟨u,hu,e⟩:=bD.1 a7
       obtain⟨u0,d6,_,e2,_⟩:=q.o.sub u hu
       exact bD.2 ⟨u0,d6,by rw[<-e];exact e2.symm⟩)
      have qx:=e0.cell (i:=2) (v:=.int .i64 x1.2.2.used) vF;have fx:wr.frozen? ⟨x1.2.1,2,none⟩=false:=e0.frozen
      obtain⟨u,hu⟩:=vE x1.2.2.used
      obtain⟨xb,i4⟩:=vE x1.2.1
      rw[<-hu]at k4 c1 qx f6 f7 b9;rw[<-i4]at a4 qx fx c1 f6 f7 b9 i3;have k5:=Hd b9;have k6:=Hd (show jb7 z (wr.setCell ⟨xb,2,none⟩ (.int .i64 (u - 1))) s bm room (S1.map (jcO (R.take (j+1)))) by rw[bX,hr];exact c1);have k7:=Hd (show T'++R.take (j+1)=(T'++R.take j)++[r] by rw[bX,hr, <-cE];rfl);have f8:=jaN (Blk.new (wr.setCell ⟨xb,2,none⟩ (.int .i64 (u - 1))) (.cells #[.string r] 9));rw[fC]at f8;have k8:=Hd f8;have j0 : -9223372036854775808<=u - 1:=vO
      have j1:u - 1<=9223372036854775807:=vO
      have k9:T'.length+j+1<=maxLen:=by have:=b8.o;have:=X.o;have:=a3.o;unfold maxLen;omega
      have l0:(T'.length+j+1) * 16<=140737488355328:=by have:=b8.o;have:=X.o;have:=a3.o;omega
      clear Z hr b3 d9 a7 e0 c1 b9 f5 hu i4 f8 A qr qs
      obtain⟨i0,hi,l1,l2,l3⟩:=info_parts Tryz.infoStr
      go_wp2_with (at_builtin;refine jbn _ rfl (.tmp 84) (.tmp 86) 34 rfl 9 i0 _ 1 16 Tryz.uStrs hi l1 l2 l3 rfl vI (.slice a5 (T'.length+j) c5) (T'.length+j) _ rfl (jaZ f6.o ((ExtR _).alloc _)) ⟨wr.heap.size,0,none⟩ 1 1 [.string r] rfl rfl k8.o (by simp[Value.oneCell']) k9 l0 ?_;intro v' w6 r1 r2 r3;have l4:=Hd r1;have e1:=Hd r2;have e9:=Hd r3;obtain⟨a6,c6,rfl⟩:=jaD r1;clear r1 r2 r3)
      go_roundw
      case rel =>
       have m8:z<=wr.heap.size:=by have:=HI.o.kp.size;have:=HZ.o;omega
       have e3:=(ExtR (wr.setCell ⟨xb,2,none⟩ (.int .i64 (u - 1)))).alloc (.cells #[.string r] 9)
       refine⟨j+1,by omega,by go_num,(k6.o.ext e3).past e1.o (fun c hc=>HI.o.new c hc),?_,fun b hb=>?_,jaL (jaZ f7.o e3) e1.o (fun c hc f=>by have:=j9.o c hc;have:=HI.o.new c f;omega),?_,((HI.o.rk.set xb (.inl rfl) _).ext e3).keeps e1.o (fun c hc=>by have:=HI.o.new c hc;have:=HZ.o;omega)⟩
       ·have h:=l4.o
        rw[k7.o,bY];exact h
       ·rcases e9.o with h | h
        ·exact HI.o.new b (h ▸ hb)
        ·have:=h b hb
         rw[bF,fC]at this;omega
       ·refine jkv (jkv (jkv HI.o.kp k5.o (fun x e=>.inr (.inl ?_))) e3 (fun x e=>e.elim)) e1.o (fun x e=>.inr (.inr (HI.o.new x e)))
        rw[show x=xb from e];exact i3.o
      case measure=>exact vJ
     ·have l5:j=R.length:=vO
      subst l5;have c2:=Z.st;rw[cG]at c2;have a9:=Z.row;rw[cG]at a9
      obtain⟨ob,m9,f9⟩:=c2.del t
      have k3:=c2.st.st.cell (i:=1) (v:=.map (some bm)) vF;have e4:jac (fun z=>z=bm) wr (wr.putObj bm ob):=jac.onePut wr bm ob;have i5:=Hd f9;have l6:=Hd (jaL a9 e4 (fun b hb e=>by have:=Z.new b hb;have:=c2.b0;have e:b=bm:=e;omega));have l7:=Hd Z.new;have l8:=Hd (jkv Z.kp e4 (fun x e=>.inl e))
      obtain⟨n0,n1,d2,_⟩:=f9.st.mp.mp
      have g6:=Hd (Z.rk.put e4 d2);clear d2;clear c2 a9 f9 e4 Z HI A qr qs;go_wp2_with fail
      go_roundw
      case rel =>
       have H:=d8.o.1;have hk:=d8.o.2;have g0:=jpU H R;rw[hk]at g0;have n2:=q.o.len;have n3:=b8.o;have l9:=X.o;have g7:=a3.o
       refine⟨delL (S1.map (jcO R)) t.data.toList,T'++R,i5.o,?_,jqE q.o.loose rfl,by rw[bI];exact l6.o,l7.o,jwD q.o.sub R _,?_,by omega,by rw[bI];omega,?_,l8.o,g6.o⟩
       ·have:=jvo q.o.st.st.nd q.o.cnt H f4.o.1
        rw[hk, <-j8.o]at this;exact this
       ·rw[jeS,joa, <-q.o.sum,jqq q.o.st.st.nd H,hk,f4.o.2];omega
       ·have:=jug g4.o q.o.sub q.o.stay H f4.o.2 R
        rw[hk]at this;exact this
      case measure =>
       have g0:=jpU d8.o.1 R;rw[d8.o.2]at g0;have g7:=a3.o;have l9:=X.o;rw[i5.o.st.mapSz,f1.o];simp only[slN];omega
theorem jsO(s bm:Nat)(room:Int)(S:vT)(h:jax w s bm room S)(hcn:Cnt S)(hfl:jjR S)(hl:S.length<=20000)(hh:∀ x∈S,x.2.2.held<=1000000)(k:vB) :
  vQ 75 #[.pointer (some ⟨s,0,none⟩),.string k] w (jw0 w s bm room S k):=by
 by_cases q:jqp (atL S k.data.toList)=0
 ·exact (drop_zero w s bm room S h k q).mono fun e w' ⟨A,H⟩=>.inl ⟨q,A,H⟩
 ·cases hy:atL S k.data.toList with
  | none=>rw[hy]at q;exact absurd rfl q
  | some y =>
   rw[hy]at q;have q:¬ y.2.2.held=0:=q
   have:=hcn.held y (jaF hy).1
   exact jpZ w s bm room S h hcn hfl hl hh k y hy vO
end
section
open Go Go.RowKit
theorem jjV{M:vM}:jce (addS S G M top)=jce S++(frK S M).flatMap (jb4 G):=by
 rw[jdt];have h:=jpf ((frK S M).flatMap (jb4 G)) (shaB top) (S++jdn G (frK S M));unfold jce;rw[h,dZ, <-jiL]
theorem jnB{M:vM}:(addS S G M top).map (·.1)=(S++jdn G (frK S M)).map (·.1):=by rw[jdt,jpe]
theorem jvn{M:vM}(hc:Cnt S)(hG:G.map kvI=readG L)(hf:Fair G)(hP:jec S G (shaB top) M (frK S M).length):Cnt (addS S G M top):=by
 have J:∀ r∈(frK S M).flatMap (jb4 G),r∈M:=fun r A=>by
  have:=hP.is
  rw[cG]at this;rw[this];exact bW _ A
 refine⟨fun x H=>?_,fun r A=>?_,fun x H=>?_,fun x H=>?_⟩
 ·rw[jjV,jl8]
  rw[jdt]at H
  obtain⟨z,q,rfl⟩:=bD.1 H
  show z.2.2.used+((cK ((frK S M).flatMap (jb4 G)) z.1:Nat):Int)=((cK (jce S) z.1+cK ((frK S M).flatMap (jb4 G)) z.1:Nat):Int);rcases bQ.1 q with q | q
  ·have:=hc.used z q;omega
  ·obtain⟨K,f,O,X⟩:=jbO q
   obtain⟨t,Z,_,e⟩:=jcU hG K
   have h0:cK (jce S) z.1=0:=jvh fun r A er=>by
    have:=hc.shut r A
    rw[er,X, <-jjf,(jgf.1 O).2]at this;cases this
   have hu:z.2.2.used=0:=by rw[e];rfl
   omega
 ·rw[jnB]
  rw[jjV]at A;rcases bQ.1 A with A | A
  ·rw[bY];exact List.mem_append_left _ (hc.shut r A)
  ·exact jjf.1 (jlK hP (J r A))
 ·rw[jdt]at H
  obtain⟨z,q,rfl⟩:=bD.1 H
  show 0<=z.2.2.held+((cK [shaB top] z.1:Nat):Int);rcases bQ.1 q with q | q
  ·have:=hc.held z q;omega
  ·obtain⟨t,Z,_,e⟩:=jcU hG (jbO q).1
   have hu:z.2.2.held=0:=by rw[e];rfl
   omega
 ·rw[jdt]at H
  obtain⟨z,q,rfl⟩:=bD.1 H
  show z.2.2.refs.length<=16;rcases bQ.1 q with q | q
  ·exact hc.r16 z q
  ·exact hf.refs z (jbO q).1
theorem js7{M:vM}(hc:Cnt S)(hfl:jjR S)(hG:G.map kvI=readG L)(hP:jec S G (shaB top) M (frK S M).length):jjR (addS S G M top):=fun x J=>by
 rw[jdt]at J
 obtain⟨z,q,rfl⟩:=bD.1 J
 show 0 < z.2.2.used+((cK ((frK S M).flatMap (jb4 G)) z.1:Nat):Int)+(z.2.2.held+((cK [shaB top] z.1:Nat):Int));rcases bQ.1 q with q | q
 ·have:=hfl z q;omega
 ·obtain⟨A,f,H,K⟩:=jbO q
  obtain⟨t,X,_,e⟩:=jcU hG A
  have Z:z.2.2.used=0:=by rw[e];rfl
  have hh:z.2.2.held=0:=by rw[e];rfl
  have O:=(jgf.1 H).1
  have:=hP.is
  rw[cG]at this;rw[this]at O;rcases bZ.1 O with h | h
  ·have:1<=cK [shaB top] z.1:=by rw[K,h];exact jpo (by simp)
   omega
  ·have:1<=cK ((frK S M).flatMap (jb4 G)) z.1:=by rw[K];exact jpo h
   omega
theorem jqA{M:vM}:(addS S G M top).length<=S.length+(frK S M).length:=by
 rw[jdt,bS,bI]
 have:(jdn G (frK S M)).length<=(frK S M).length:=List.length_filterMap_le _ _
 omega
theorem jtf{M:vM}{n:Int}(h:∀ x∈S,x.2.2.held<=n)(h0:0<=n)(hG:G.map kvI=readG L):∀ x∈addS S G M top,x.2.2.held<=n+1:=fun x A=>by
 rw[jdt]at A
 obtain⟨z,q,rfl⟩:=bD.1 A
 show z.2.2.held+((cK [shaB top] z.1:Nat):Int)<=n+1;have H:=jsz [shaB top] z.1;rw[List.length_singleton]at H;rcases bQ.1 q with q | q
 ·have:=h z q;omega
 ·obtain⟨t,J,_,e⟩:=jcU hG (jbO q).1
  have K:z.2.2.held=0:=by rw[e];rfl
  omega
end
section
open Go Go.RowKit
section
variable {w:vW} {s bm:Nat} {room:Int} {S:vT} {L:vM} {top:vB} {G:vT} {M:vM} {e:Ending} {w':vW}
theorem AddY.nodesS(h:AddY w s bm room S L top G M e w')(hN:∀ x∈S,∃ n,jbd x.2.2.text n):∀ x∈addS S G M top,∃ n,jbd x.2.2.text n:=fun x A=>by
 rw[jdt]at A
 obtain⟨z,q,rfl⟩:=bD.1 A
 rcases bQ.1 q with q | q
 ·exact hN z q
 ·obtain⟨t,H,_,e⟩:=jcU h.given (jbO q).1
  obtain⟨n,J⟩:=h.nodes t H
  refine⟨n,?_⟩
  show jbd z.2.2.text n;rw[e];exact J
theorem AddY.lenS(h:AddY w s bm room S L top G M e w')(hr:(S.length:Int)<=room):((addS S G M top).length:Int)<=room:=by
 have q:=h.fits;have A:=jqA (S:=S) (G:=G) (M:=M) (top:=top);omega
theorem AddY.len2(h:AddY w s bm room S L top G M e w'):(addS S G M top).length<=S.length+L.length:=by
 have H:=jqA (S:=S) (G:=G) (M:=M) (top:=top);have J:=jje (S:=S) (M:=M) (fun x q=>h.path.at' q);have A:=(jfN L).2.2;rw[<-h.given,bS]at A;omega
theorem AddY.newS(h:AddY w s bm room S L top G M e w'):∀ x∈addS S G M top,x.2.1∈S.map (·.2.1)\/w.heap.size<=x.2.1:=fun x A=>by
 rw[jdt]at A
 obtain⟨z,q,rfl⟩:=bD.1 A
 rcases bQ.1 q with q | q
 ·exact .inl (bD.2 ⟨z,q,rfl⟩)
 ·exact .inr (h.news z (jbO q).1)
theorem AddY.cntS(h:AddY w s bm room S L top G M e w')(hl:L.length<=1000)(hc:Cnt S)(hf:jjR S):Cnt (addS S G M top)/\jjR (addS S G M top):=
 ⟨jvn hc h.given (jiz h.given h.nodes hl) h.path,js7 hc hf h.given h.path⟩
end
end
section
open Go Go.RowKit
structure ChS(w0:World)(s bm:Nat)(room:Int)(S:vT)(W:World)(n:Nat):Prop where
 st:jax W s bm room S
 all:AllN S
 bnew:w0.heap.size<=bm
 new:∀ x∈S,w0.heap.size<=x.2.1
 cnt:Cnt S
 full:jjR S
 len:S.length<=n
 fit:(S.length:Int)<=room
 held:∀ x∈S,x.2.2.held<=n
theorem ChS.ext{w0:vW}(h:ChS w0 s bm room S W n)(e:Ext W W'):ChS w0 s bm room S W' n:=
 ⟨h.st.ext e,h.all,h.bnew,h.new,h.cnt,h.full,h.len,h.fit,h.held⟩
theorem ChS.mono{w0:vW}(h:ChS w0 s bm room S W n)(e:n<=m):ChS w0 s bm room S W m:=
 ⟨h.st,h.all,h.bnew,h.new,h.cnt,h.full,bE h.len e,h.fit,fun x q=>by have:=h.held x q;omega⟩
theorem ChS.bds{w0:vW}(h:ChS w0 s bm room S W n)(hn:n<=20000):S.length<=100000/\(∀ x∈S,0<=x.2.2.used/\x.2.2.used<=1000000000)/\(∀ x∈S,0<=x.2.2.held/\x.2.2.held<=1000000000):=
 ⟨by have:=h.len;omega,fun x e=>by
  have q:=h.cnt.used x e;have A:=jsz (jce S) x.1;have H:=jkT h.cnt.r16
  have:=h.len
  omega,fun x e=>⟨h.cnt.held x e,by have:=h.held x e;omega⟩⟩
theorem ChS.none{w0:vW}(h:jax W' s bm (max room 0) [])(hb:W.heap.size<=bm)(hw:w0.heap.size<=W.heap.size):ChS w0 s bm (max room 0) [] W' 0:=
 ⟨h,fun x e=>(by cases e),bE hw hb,fun x e=>(by cases e),Cnt.none,fun x e=>(by cases e),bL _,by show (0:Int)<=_;omega,fun x e=>(by cases e)⟩
theorem ChS.add{w0:vW}{M:vM}{e:Ending}(h:ChS w0 s bm room S W n)(hw:w0.heap.size<=W.heap.size)(hl:L.length<=1000)(h1:1<=L.length)(hY:AddY W s bm room S L top G M e W'):ChS w0 s bm room (addS S G M top) W' (n+L.length):=by
 obtain⟨A,H⟩:=hY.cntS hl h.cnt h.full
 refine⟨hY.st,hY.nodesS h.all,h.bnew,fun x q=>?_,A,H,bE hY.len2 (by have:=h.len;omega),hY.lenS h.fit,fun x q=>?_⟩
 ·rcases hY.newS x q with e | e
  ·obtain⟨y,J,e⟩:=bD.1 e
   rw[<-e];exact h.new y J
  ·exact bE hw e
 ·have:=jtf (top:=top) (M:=M) h.held vO hY.given x q
  omega
theorem ChS.drop{w0:vW}(h:ChS w0 s bm room S W n)(hy:y∈S)(hD:juU W s bm room S S' y W'):ChS w0 s bm room S' W' n:=by
 have q:∀ x∈S',∃ z∈S,x.2.1=z.2.1/\x.2.2.text=z.2.2.text/\x.2.2.held<=n:=fun x A=>by
  obtain⟨v,J,_,K,O,_,X⟩:=hD.sub x A
  obtain⟨z,H,rfl⟩:=bD.1 J
  have hb:=h.held z H
  refine⟨z,H,?_⟩
  rw[K,O,X];unfold setB
  by_cases hc:z.2.1=y.2.1
  ·rw[if_pos hc]
   refine⟨rfl,rfl,?_⟩
   show y.2.2.held - 1<=(n:Int)
   have:=h.held y hy;omega
  ·rw[if_neg hc]
   exact⟨rfl,rfl,hb⟩
 refine⟨hD.st,fun x A=>?_,h.bnew,fun x A=>?_,hD.cnt,hD.full,bE hD.len h.len,?_,fun x A=>(q x A).choose_spec.2.2.2⟩
 ·obtain⟨z,H,_,e,_⟩:=q x A
  rw[e];exact h.all z H
 ·obtain⟨z,H,e,_⟩:=q x A
  rw[e];exact h.new z H
 ·have Z:=hD.len
  have:=h.fit
  omega
theorem jax.keeps{L:vT}(h:jax W s bm room L)(k:jac F W W')(hs:¬ F s)(hm:¬ F bm)(hL:∀ x∈L,¬ F x.2.1)(hF:jdx W F):jax W' s bm room L:=⟨h.st.keeps k hs,h.mp.keeps k hm hL hF⟩
theorem ChS.keeps{w0:vW}(h:ChS w0 s bm room S W n)(k:jac F W W')(hs:¬ F s)(hm:¬ F bm)(hL:∀ x∈S,¬ F x.2.1)(hF:jdx W F):ChS w0 s bm room S W' n:=
 ⟨h.st.keeps k hs hm hL hF,h.all,h.bnew,h.new,h.cnt,h.full,h.len,h.fit,h.held⟩
theorem jsQ{w:vW}(h:juU w s bm room S S' y w'):∀ x∈S',∃ z∈S,x.2.1=z.2.1:=fun x e=>by
 obtain⟨v,q,_,A,_⟩:=h.sub x e
 obtain⟨z,H,rfl⟩:=bD.1 q
 refine⟨z,H,?_⟩
 rw[A];unfold setB;split <;> rfl
def jdQ(s:List (Ent Int)):Array Nat:=(s.map (·.2.2)).toArray
theorem jtu{s:List (Ent Int)}(hx:x∈jaA es (jdQ s)):(jaA es (jdQ (s++[x]))).length < (jaA es (jdQ s)).length:=by
 have e:jaA es (jdQ (s++[x]))=(jaA es (jdQ s)).filter (fun y => !(y.2.2 == x.2.2)):=by
  unfold jaA jdQ;rw[List.filter_filter];refine iH (fun y _=>?_);simp only[List.contains_toArray,bY,bN,fT,List.contains_append]
  by_cases h1:y.2.2=x.2.2 <;> simp[h1]
 rw[e,iP]
 exact⟨x,hx,by simp⟩
def jbz(l:List VerN)(sn:List (Ent Int))(x:Ent Int):Bool:=hasB l x.1 || !(sn.map (·.2.2)).contains x.2.2
theorem jfx{k:Int}:∀ {l:List (Ent Int)},(l.map (·.1)).Nodup->jbS l k=l.filter fun x => !decide (k=x.1)
 | [],_=>rfl
 | x :: r,h=>by
  have q:x.1 ∉ r.map (·.1)/\(r.map (·.1)).Nodup:=dP.1 h;unfold jbS
  by_cases hk:k=x.1
  ·rw[if_pos hk,gM (by simp[hk])]
   refine (fA.2 fun y A=>?_).symm
   have:k≠y.1:=fun e=>q.1 (bD.2 ⟨y,A,by rw[<-e,hk]⟩)
   simp[this]
  ·rw[if_neg hk,gL (by simp[hk]),jfx q.2]
theorem jl4{y:Ent Int}(h:y.2.2≠x.2.2):((sn++[x]).map (·.2.2)).contains y.2.2=(sn.map (·.2.2)).contains y.2.2:=by
 simp only[bY,bN,fT,List.contains_append]
 have:[x.2.2].contains y.2.2=false:=by
  rw[dM];intro e
  have:=cL.1 e
  exact h (bM.1 this)
 rw[this,Bool.or_false]
theorem jru(hst:(es.map (·.2.2)).Nodup)(hx:x∈es)(hb:hasB l x.1=true):es.filter (jbz l (sn++[x]))=es.filter (jbz l sn):=by
 refine iH fun y q=>?_;unfold jbz
 by_cases h1:hasB l y.1=true
 ·rw[h1];rfl
 ·have:y.2.2≠x.2.2:=fun e=>h1 (by rw[jaG hst q hx e];exact hb)
  rw[jl4 this]
theorem jt1(hst:(es.map (·.2.2)).Nodup)(hkn:(es.map (·.1)).Nodup)(hx:x∈es)(hb:hasB l x.1=false):jbS (es.filter (jbz l sn)) x.1=es.filter (jbz l (sn++[x])):=by
 rw[jfx ((List.filter_sublist.map _).nodup hkn),List.filter_filter];refine iH fun y q=>?_;unfold jbz
 by_cases h1:x.1=y.1
 ·have:y=x:=jaG hkn q hx h1.symm
  subst this;simp[hb]
 ·have:y.2.2≠x.2.2:=fun e=>h1 (by rw[jaG hst q hx e])
  rw[jl4 this];simp[h1]
theorem jt2(h:jaA (es.filter (jbz l sn)) (jdQ sn)=[]):es.filter (jbz l sn)=es.filter fun x=>hasB l x.1:=by
 refine iH fun y q=>?_
 by_cases e:hasB l y.1=true
 ·unfold jbz;rw[e];rfl
 ·have e:hasB l y.1=false:=dM.2 e
  unfold jbz;rw[e];cases hc:(sn.map (·.2.2)).contains y.2.2 with
  | true=>rfl
  | false =>
   have:y∈jaA (es.filter (jbz l sn)) (jdQ sn):=by
    unfold jaA jdQ;refine cI.2 ⟨cI.2 ⟨q,by unfold jbz;rw[hc];simp⟩,by simpa using hc⟩
   rw[h]at this;cases this
def jt7(w:vW)(r:Nat):Array Nat:=match w.heap[r]? with | some (.mapIter _ _ s _)=>s | _=>#[]
theorem jfQ{w:vW}{r:Nat}{m:Option Nat}{a b:Nat}{s:Array Nat}(h:Blk w r (.mapIter m a s b)):jt7 w r=s:=by
 unfold jt7;rw[show w.heap[r]?=_ from h]
theorem jwJ{a:Act}{w:vW}(x y:Operand)(hx:a.eval x=.map (some rm))(hy:a.eval y=.int .i64 bk)
  (ho:o.op=Op.call { callee:=Callee.builtin Builtin.delete,args:=#[x,y],argTypes:=#[75,3] }) (hb:Blk w rm (.map (EB.arr es) ck))
  (h:∀ W,Blk W rm (.map (EB.arr (jbS es bk)) ck)->jac (fun z=>z=rm) w W->K (a.put o.dst (.tuple #[])) W):o.wp Tryz.prog a w K Q:=by
 have q:=jgu EB Tryz.uRoots hb bk 3 o.type;have e:EB.κ bk=.int .i64 bk:=rfl;rw[e]at q;unfold Oper.wp;simp[execOp,ho,resolve,invoke,builtin,hx,hy,q,Result.andThen];exact h _ (hb.put_same _) (jac.onePut w rm _)
def ClF(rm bm:Nat)(S:vT):BSet:=fun z=>z=rm\/z=bm\/z∈S.map (·.2.1)
def jyP(w w0:vW)(D:Nat->Prop)(b:Nat)(M:MdN)(a:Option Addr)(c rm sb cb:Nat)(es:List (Ent Int))(ck bm:Nat)(room:Int)(S:vT)(n r:Nat)(wr:vW):Prop:=
 ∃ sn S',Blk wr r (.mapIter (some rm) ck (jdQ sn) ck)/\ChM D wr b M a c rm sb cb (es.filter (jbz M.all sn)) ck/\ChS w0 sb bm room S' wr n/\jac (ClF rm bm S) w wr/\(∀ x∈S',∃ z∈S,x.2.1=z.2.1)/\((∀ x∈es,hasB M.all x.1=true)->S'=S/\Ext w wr)
theorem jpt(D:Nat->Prop)(b:Nat)(M:MdN)(a:Option Addr)(c rm sb cb:Nat)(es:List (Ent Int))(ck bm:Nat)(room:Int)(S:vT)(n:Nat)(h:ChM D w b M a c rm sb cb es ck)(hs:ChS w0 sb bm room S w n)(hn:n<=20000)
  (X:∀ z,z=b\/z=rm\/D z->z≠bm/\z≠sb/\z ∉ S.map (·.2.1)) (a5:rm≠b) (a0:∀ z,D z->z≠rm/\z < w.heap.size) (hl:M.all.length<=1000)
  (a2:(es.map (·.2.2)).Nodup) (a7:(es.map (·.1)).Nodup) (a8:∀ x∈es,x.2.2 < ck) (J:∀ x∈es,∃ r,x.2.1=.string r) :
  vQ 39 #[.pointer (some ⟨b,0,none⟩)] w fun e w'=>e=.returned (.tuple #[])/\∃ S',ChM D w' b M a c rm sb cb (es.filter fun x=>hasB M.all x.1) ck/\ChS w0 sb bm room S' w' n/\jac (ClF rm bm S) w w'/\(∀ x∈S',∃ z∈S,x.2.1=z.2.1)/\((∀ x∈es,hasB M.all x.1=true)->S'=S/\Ext w w'):=by
 have g4:∀ (fn:Fn) (first cap:Array vV) (w:vW),(Instr.makeFunc fn first cap).run Tryz.prog w=.ok (.func fn first cap) w:=fun _ _ _ _=>rfl;have e3:=jhS EB Tryz.uRoots h.map;have q3:w.cell? ⟨b,3,none⟩=some (.map (some rm)):=h.blk.cellL rfl;have H:=Hd (bA h (bA hs (bA hn (bA X (bA a5 (bA a0 hl))))));have HE:=Hd (bA a2 (bA a7 (bA a8 J)))
 obtain⟨nl,e4⟩:=vE M.all.length
 have e5:=Hd e4;clear h hs hn X a5 a0 hl a2 a7 a8 J e4;go_enter Tryz.func39,Tryz.ntmps39;go_wp2_with fail
 go_loopw [] (fun wr=>jyP w w0 D b M a c rm sb cb es ck bm room S n w.heap.size wr) (fun wr=>(jaA es (jt7 wr w.heap.size)).length)
 case atStart =>
  have hE:=(ExtR w).alloc (.mapIter (some rm) ck #[] ck);have hf:es.filter (jbz M.all [])=es:=fA.2 fun y _=>by unfold jbz;simp
  refine⟨[],S,Blk.new w _,?_,H.o.2.1.ext hE,hE.mono (fun _ _ e=>e.elim),fun x hx=>⟨x,hx,rfl⟩,fun _=>⟨rfl,hE⟩⟩
  rw[hf];exact H.o.1.ext hE
 case round =>
  obtain⟨sn,S',hB,hM,hS,hK,q,A⟩:=hrel
  obtain⟨a2,a7,a8,J⟩:=HE.o
  have HR:=Hd (bA hB (bA hM (bA hS (bA hK (bA q A)))));rcases jjH EB hM.map hB (fun x hx=>a8 x (cI.1 hx).1) 0 with⟨hl0,hnx⟩ |⟨x,b5,w2,hnx,b6,O⟩
  ·have b7:=jt2 hl0
   have f3:=Hd b7;clear b7 hl0 hB hM hS hK q A a2 a7 a8 J e3 q3;go_wp2_with fail
   refine bodyPost_end (results_none rfl _ _ _) rfl ?_
   obtain⟨hB,hM,hS,hK,q,A⟩:=HR.o
   rw[f3.o]at hM
   exact⟨rfl,S',hM,hS,hK,q,A⟩
  ·have b8:=(cI.1 b5).1
   have a9:=(cI.1 b8).1
   obtain⟨rr,c3⟩:=J x a9
   have c9:rm≠w.heap.size:=by have:=H.o.1.map.lt;omega
   have e6:=hM.map.keeps O c9;have b7:=jhQ EB e6 b8 b6 ((List.filter_sublist.map _).nodup a2)
   obtain⟨kx,a3⟩:=vE x.1
   rw[c3]at b7 hnx;have e0:(Instr.entry (.pointer (some ⟨w.heap.size,0,none⟩))).run Tryz.prog w2=.ok (.tuple #[.int .i64 kx,.string rr]) w2:=by rw[a3];exact b7
   have e1:(Instr.next (.pointer (some ⟨w.heap.size,0,none⟩)) false 0).run Tryz.prog wr=.ok (.tuple #[.bool true,.int .i64 kx,.string rr]) w2:=by rw[a3];exact hnx
   have e7:b≠w.heap.size:=by have:=H.o.1.blk.lt;omega
   have f4:∀ z,D z->z < w.heap.size\/True:=fun _ _=>.inr trivial;have q2:(w2.alloc (.cells #[.int .i64 kx] 3)).cell? ⟨b,2,none⟩=some (.slice a nl c):=by rw[e5.o];exact ((hM.blk.keeps O e7).alloc _).cellL rfl
   have f5:=Hd (show jdQ (sn++[x])=(jdQ sn).push x.2.2 by unfold jdQ;simp);have HX:=Hd (bA b5 (bA b8 (bA a9 (bA c3 (bA a3 (bA b6 O))))));clear b7 hnx hB hM hS hK q A a2 a7 a8 J e3 q3 b5 b8 a9 c3 a3 b6 O e6 f5 f4;go_wp2_with fail
   have k3:=(ExtR w2).alloc (.cells #[.int .i64 kx] 3);have d0:=Blk.new w2 (.cells #[.int .i64 kx] 3);generalize w2.alloc (.cells #[.int .i64 kx] 3)=w3 at k3 d0 q2 ⊢
   obtain⟨b5,b8,a9,c3,a3,b6,O⟩:=HX.o
   obtain⟨hB,hM,hS,hK,q,A⟩:=HR.o
   have a0:∀ z,D z->¬ z=w.heap.size:=fun z hz e=>by have:=(H.o.2.2.2.2.2.1 z hz).2;omega
   have e8:=(hM.ver.keeps O a0).ext k3;have d4:=jlk 74 jpC (fun args w=>by kernel_rfl) w3 D a c M.all e8 (by have:=H.o.2.2.2.2.2.2;omega) w2.heap.size kx (d0.cell (i:=0) rfl);rw[<-e5.o]at d4;refine d4.mono ?_;rintro e w4 ⟨rfl,d5⟩;have b9:=k3.trans d5;have a5:b≠w.heap.size:=e7;have c9:rm≠w.heap.size:=by have:=H.o.1.map.lt;omega
   have b0:=(hM.keeps O a5 c9 a0).ext b9;have a4:=H.o.2.1.st;have c4:jdx wr (fun z=>z=w.heap.size):=fun z f6 fz e d6=>by
    have e:z=w.heap.size:=e;subst e;cases hB.uniq d6
   have b1:=(hS.keeps O (by have:=a4.st.lt;show ¬ sb=w.heap.size;omega) (by obtain⟨_,_,h1,_⟩:=a4.mp.mp;have:=h1.lt;show ¬ bm=w.heap.size;omega) (fun y hy e=>by
    obtain⟨z,hz,e2⟩:=q y hy
    have:=(a4.mp.items z hz).lt
    have e:y.2.1=w.heap.size:=e;omega) c4).ext b9
   have b2:jac (ClF rm bm S) w w4:=(hK.trans' (G:=fun z=>z=w.heap.size) O (fun z hz e=>by have e:z=w.heap.size:=e;omega)).trans (b9.mono fun _ _ e=>e.elim);have b3:Blk w4 w.heap.size (.mapIter (some rm) ck (jdQ (sn++[x])) ck):=by
    have e:jdQ (sn++[x])=(jdQ sn).push x.2.2:=by unfold jdQ;simp
    rw[e];exact b6.keeps b9 (fun h=>h)
   have c0:(∀ x∈es,hasB M.all x.1=true)->S'=S/\Ext w w4:=fun ha=>⟨(A ha).1,((A ha).2.trans' (G:=fun z=>z=w.heap.size) O (fun z hz e=>by have e:z=w.heap.size:=e;omega)).trans b9⟩;have c8:x∈jaA es (jdQ sn):=by
    obtain⟨h1,h2⟩:=cI.1 b5
    exact cI.2 ⟨a9,h2⟩
   have HM:=Hd (show (jaA es (jdQ (sn++[x]))).length < (jaA es (jt7 wr w.heap.size)).length by rw[jfQ hB];exact jtu c8);have H4:=Hd (bA b0 (bA b1 (bA b2 (bA b3 (bA c0 (bA q a5))))));have f7:=Hd ((d0.keeps d5 (fun h=>h)));have f8:w2.heap.size≠rm:=by have:=H.o.1.map.lt;have:=hK.size;have:=O.size;omega
   clear b5 b8 a9 c3 b6 O hB hM hS hK q A a0 e8 d4 k3 d0 d5 b9 c9 b0 a4 c4 b1 b2 b3 c0 c8 q2 e0 e1 a5;cases hh:hasB M.all kx with
   | true =>
    have HH:=Hd hh;clear hh;go_wp2_with fail
    go_roundw
    case rel =>
     obtain⟨b0,b1,b2,b3,c0,q,_⟩:=H4.o
     refine⟨sn++[x],S',b3,?_,b1,b2,q,c0⟩
     rw[jru HE.o.1 HX.o.2.2.1 (by rw[<-a3];exact HH.o)];exact b0
    case measure=>rw[jfQ H4.o.2.2.2.1];exact HM.o
   | false =>
    have HH:=Hd hh;clear hh;go_wp2_with fail
    have e9:rm≠b:=H.o.2.2.2.2.1;refine jau [0,1,2,3,4,5] [5] Ext (jac (fun z=>z=rm)) ExtR ExtT (fun x y z h k=>jac.trans h k) (fun x y h=>h.mono (fun _ _ h=>h.elim)) vY vY vY ?_
    refine vD ?_
    refine qDV _ (.pointer (some ⟨b,0,none⟩)) rfl (fun w1 _=>by kernel_rfl) ?_;refine vS ?_
    refine vD ?_
    refine qDL ⟨b,3,none⟩ (.map (some rm)) rfl (fun w5 h5=>jag (fun w=>by kernel_rfl) ((H4.o.1.blk.drew.keeps h5 (fun e=>e9 e.symm)).cellL rfl)) ?_;refine vS ?_;refine qDL ⟨w2.heap.size,0,none⟩ (.int .i64 kx) rfl (fun w5 h5=>jag (fun w=>by kernel_rfl) ((f7.o.drew.keeps h5 f8).cell (i:=0) rfl)) ?_;refine vS ?_;refine qDH _ rfl (fun wb hb K hK=>?_);have kb:Ext w4 wb:=(jak _).trans hb;refine jwJ _ _ rfl rfl rfl (H4.o.1.map.keeps kb (fun h=>h)) (fun W5 c5 a1=>hK _ _ a1 ?_);have HS:=Hd (bA kb (bA c5 a1));clear hK K hb kb c5 a1;refine vS ?_;refine qDE (fun w6 h6=>?_)
    obtain⟨kb,c5,a1⟩:=HS.o
    obtain⟨b0,b1,b2,b3,c0,q,a5⟩:=H4.o
    obtain⟨d7,d1,hn,X,_,a0,hl⟩:=H.o
    obtain⟨a2,a7,a8,J⟩:=HE.o
    have a9:=HX.o.2.2.1;have a3:=HX.o.2.2.2.2.1;have f9:=d7.map.lt;have d2:=X rm (.inr (.inl rfl));have d3:=b0.ext kb;have b4:ChM D w6 b M a c rm sb cb (es.filter (jbz M.all (sn++[x]))) ck:=by
     have h5:=c5.keeps h6 (fun h=>h);rw[<-jt1 a2 a7 a9 (by rw[<-a3];exact HH.o), <-a3]
     exact⟨(d3.blk.keeps a1 (fun e=>e9 e.symm)).keeps h6 (fun h=>h),(d3.ver.keeps a1 (fun z hz e=>(a0 z hz).1 e)).ext h6,h5⟩
    have c4:jdx wb (fun z=>z=rm):=fun z f6 fz e d6=>by
     have e:z=rm:=e;subst e;cases d3.map.uniq d6
    have Z:=((b1.ext kb).keeps a1 (fun e=>d2.2.1 e.symm) (fun e=>d2.1 e.symm) (fun y hy e=>by
     obtain⟨z,hz,e2⟩:=q y hy
     have e:y.2.1=rm:=e;exact d2.2.2 (bD.2 ⟨z,hz,by rw[<-e2,e]⟩)) c4).ext h6
    have c1:jac (ClF rm bm S) w w6:=((b2.trans (kb.mono fun _ _ e=>e.elim)).trans (a1.mono fun z _ e=>.inl e)).trans (h6.mono fun _ _ e=>e.elim);have c2:=((b3.keeps kb (fun h=>h)).keeps a1 (by show ¬ w.heap.size=rm;omega)).keeps h6 (fun h=>h);have q4:w6.cell? ⟨b,4,none⟩=some (.pointer (some ⟨sb,0,none⟩)):=b4.blk.cellL rfl;have f0:=jsO w6 sb bm room S' Z.st Z.cnt Z.full (by have:=Z.len;omega) (fun y hy=>by have:=Z.held y hy;omega) rr;have H6:=Hd (bA b4 (bA Z (bA c1 (bA c2 q))));have g0:=Hd f0;clear kb c5 a1 b0 b1 b2 b3 c0 q a5 d7 d1 hn X a0 hl a2 a7 a8 J f9 d2 d3 b4 c4 Z c1 c2 f0 h6 HS;go_wp2_with fail
    refine g0.o.mono ?_;rintro e w7 h7;have f1:=Hd (show ¬(∀ x∈es,hasB M.all x.1=true)from fun ha=>by
     have:=ha x HX.o.2.2.1
     rw[<-HX.o.2.2.2.2.1,HH.o]at this;cases this)
    rcases h7 with⟨_,rfl,hE7⟩ |⟨S2,y,hy,_,rfl,hD⟩
    ·have c7:=Hd hE7
     clear hE7;go_wp2_with fail
     go_roundw
     case rel =>
      obtain⟨b4,Z,c1,c2,q⟩:=H6.o
      exact⟨sn++[x],S',c2.keeps c7.o (fun h=>h),b4.ext c7.o,Z.ext c7.o,c1.trans (c7.o.mono fun _ _ e=>e.elim),q,fun ha=>absurd ha f1.o⟩
     case measure=>rw[jfQ (H6.o.2.2.2.1.keeps c7.o (fun h=>h))];exact HM.o
    ·have HD:=Hd (bA hy hD)
     clear hy hD;go_wp2_with fail
     obtain⟨b4,Z,c1,c2,q⟩:=H6.o
     obtain⟨d7,d1,hn,X,_,a0,hl⟩:=H.o
     obtain⟨hy,hD⟩:=HD.o
     have d8:∀ z,(z=bm\/z∈S'.map (·.2.1))->z=bm\/z∈S.map (·.2.1):=fun z hz=>hz.imp id fun h=>by
      obtain⟨u,hu,rfl⟩:=bD.1 h
      obtain⟨v,hv,e⟩:=q u hu
      exact bD.2 ⟨v,hv,e.symm⟩
     have d9:∀ z,(z=b\/z=rm\/D z)->¬(z=bm\/z∈S'.map (·.2.1)):=fun z hz e=>by
      have:=X z hz
      rcases d8 z e with h | h
      ·exact this.1 h
      ·exact this.2.2 h
     have g5:bm < w.heap.size:=by obtain⟨_,_,h1,_⟩:=d1.st.mp.mp;exact h1.lt
     have g2:=c2.keeps hD.kp (fun e=>by
      rcases d8 _ e with h | h
      ·omega
      ·obtain⟨u,hu,e⟩:=bD.1 h
       have:=(d1.st.mp.items u hu).lt
       omega)
     have f2:=Hd g2;go_roundw
     case rel =>
      refine⟨sn++[x],S2,f2.o,b4.keeps hD.kp (d9 b (.inl rfl)) (d9 rm (.inr (.inl rfl))) (fun z hz=>d9 z (.inr (.inr hz))),Z.drop (jaF hy).1 hD,c1.trans (hD.kp.mono fun z _ e=>.inr (d8 z e)),fun u hu=>?_,fun ha=>absurd ha f1.o⟩
      obtain⟨v,hv,e⟩:=jsQ hD u hu
      obtain⟨v2,g3,e2⟩:=q v hv
      exact⟨v2,g3,e.trans e2⟩
     case measure=>rw[jfQ f2.o];exact HM.o
structure ChI(w0:World)(D:Nat->Prop)(W:World)(b:Nat)(M:MdN)(a:Option Addr)(c rm sb cb:Nat)(es:List (Ent Int))(ck bm:Nat)(room:Int)(S:vT)(n:Nat):Prop where
 m:ChM D W b M a c rm sb cb es ck
 s:ChS w0 sb bm room S W n
 sep:∀ z,z=b\/z=rm\/D z->z≠bm/\z≠sb/\z ∉ S.map (·.2.1)
 rb:rm≠b
 db:¬ D b
 dr:∀ z,D z->z≠rm/\z < W.heap.size
 ok:MdOk M
 st:(es.map (·.2.2)).Nodup
 kn:(es.map (·.1)).Nodup
 lt:∀ x∈es,x.2.2 < ck
 val:∀ x∈es,∃ r,x.2.1=.string r
theorem ChI.ext{w0:vW}{b:Nat}{c:Nat}(h:ChI w0 D W b M a c rm sb cb es ck bm room S n)(k:Ext W W'):ChI w0 D W' b M a c rm sb cb es ck bm room S n:=
 ⟨h.m.ext k,h.s.ext k,h.sep,h.rb,h.db,fun z e=>⟨(h.dr z e).1,bC (h.dr z e).2 k.size⟩,h.ok,h.st,h.kn,h.lt,h.val⟩
theorem ChI.lt'{w0:vW}{b:Nat}{c:Nat}(h:ChI w0 D W b M a c rm sb cb es ck bm room S n):b < W.heap.size/\rm < W.heap.size/\sb < W.heap.size/\bm < W.heap.size/\∀ z∈S.map (·.2.1),z < W.heap.size:=
 ⟨h.m.blk.lt,h.m.map.lt,h.s.st.st.lt,by obtain⟨_,_,e,_⟩:=h.s.st.mp.mp;exact e.lt,fun z q=>by
  obtain⟨x,A,rfl⟩:=bD.1 q
  exact (h.s.st.mp.items x A).lt⟩
theorem ChI.turn{w0:vW}{b:Nat}{c:Nat}(h:ChI w0 D W b M a c rm sb cb es ck bm room S n)(k:Ext W W')(hv:VRow (NewB W W') W' (.slice a' M'.all.length c') M'.all)(hM':MdOk M')
  (hB:Blk W'' b (.cells (([.int .i64 (M'.win:Int),.int .i64 (M'.next:Int),.slice a' M'.all.length c']:List vV)++(chC M a c rm sb cb).drop 3).toArray 81)) (k':jac (fun z=>z=b) W' W''):ChI w0 (NewB W W') W'' b M' a' c' rm sb cb es ck bm room S n:=by
 obtain⟨l1,l2,l3,l4,O⟩:=h.lt'
 have H:∀ z,NewB W W' z->W.heap.size<=z/\z < W'.heap.size:=fun z q=>q;have J:=h.s.ext k;have A:=h.sep b (.inl rfl)
 refine⟨h.m.turn k hv hB k' h.rb (fun z q e=>by have:=(H z q).1;omega),J.keeps k' (fun e=>A.2.1 e.symm) (fun e=>A.1 e.symm) (fun x X e=>A.2.2 (bD.2 ⟨x,X,e⟩)) (fun z Z fz e K=>?_),fun z q=>?_,h.rb,fun e=>by have:=(H b e).1;omega,fun z q=>⟨fun e=>by have:=(H z q).1;omega,bC (H z q).2 k'.size⟩,hM',h.st,h.kn,h.lt,h.val⟩
 ·have e:z=b:=e
  subst e
  have:=(h.m.ext k).blk.uniq K
  injection this with _ e _;exact absurd e vI
 ·rcases q with q | q | q
  ·exact h.sep z (.inl q)
  ·exact h.sep z (.inr (.inl q))
  ·have h1:=(H z q).1
   exact⟨by omega,by omega,fun e=>by have:=O z e;omega⟩
theorem jhd(D:Nat->Prop)(b:Nat)(M:MdN)(a:Option Addr)(c rm sb cb:Nat)(es:List (Ent Int))(ck bm:Nat)(room:Int)(S:vT)(n:Nat)(h:ChI w0 D w b M a c rm sb cb es ck bm room S n)(hn:n<=20000)(hl:M.all.length<=1000) :
  vQ 39 #[.pointer (some ⟨b,0,none⟩)] w fun e w'=>e=.returned (.tuple #[])/\∃ H,ChI w0 D w' b M a c rm sb cb (es.filter fun x=>hasB M.all x.1) ck bm room H n/\jac (ClF rm bm S) w w'/\(∀ x∈H,∃ z∈S,x.2.1=z.2.1)/\((∀ x∈es,hasB M.all x.1=true)->H=S/\Ext w w'):=by
 refine (jpt w w0 D b M a c rm sb cb es ck bm room S n h.m h.s hn h.sep h.rb h.dr hl h.st h.kn h.lt h.val).mono ?_;rintro e w' ⟨Z,H,hM,hS,X,A,J⟩;have q:(es.filter fun x=>hasB M.all x.1).Sublist es:=List.filter_sublist
 refine⟨Z,H,⟨hM,hS,fun z O=>?_,h.rb,h.db,fun z O=>⟨(h.dr z O).1,bC (h.dr z O).2 X.size⟩,h.ok,(q.map _).nodup h.st,(q.map _).nodup h.kn,fun x K=>h.lt x (q.subset K),fun x K=>h.val x (q.subset K)⟩,X,A,J⟩
 obtain⟨h1,h2,h3⟩:=h.sep z O
 refine⟨h1,h2,fun e=>?_⟩
 obtain⟨x,K,e⟩:=bD.1 e
 obtain⟨y,hy,e2⟩:=A x K
 exact h3 (bD.2 ⟨y,hy,by rw[<-e,e2]⟩)
theorem jhX{x:Int}:(jbI M x).2≠0->(jbI M x).1=M:=by
 unfold jbI;split
 ·exact fun _=>rfl
 ·split
  ·exact fun _=>rfl
  ·split
   ·exact fun _=>rfl
   ·exact fun h=>absurd rfl h
theorem jk4{x:Int}:(jbI M x).1.all.length<=M.all.length:=by
 unfold jbI;split
 ·exact bL _
 ·split
  ·exact bL _
  ·split
   ·exact bL _
   ·refine bE jcm.length_le ?_
    unfold jcs;rw[iC];exact bL _
theorem jj7(D:Nat->Prop)(b:Nat)(M:MdN)(a:Option Addr)(c rm sb cb:Nat)(es:List (Ent Int))(ck bm:Nat)(room:Int)(S:vT)(n:Nat)(h:ChI w0 D w b M a c rm sb cb es ck bm room S n)(hn:n<=20000)(hl:M.all.length<=900)(at':Int) :
  vQ 23 #[.pointer (some ⟨b,0,none⟩),.int .i64 at'] w fun e w'=>e=.returned (.int .i64 (jbI M at').2)/\jac (fun z=>z=b\/ClF rm bm S z) w w'/\∃ D' a' c' es' S',ChI w0 D' w' b (jbI M at').1 a' c' rm sb cb es' ck bm room S' n/\((jbI M at').2≠0->es'=es/\S'=S)/\((jbI M at').2=0->es'=es.filter fun x=>hasB (jbI M at').1.all x.1)/\(∀ x∈S',∃ z∈S,x.2.1=z.2.1)/\((∀ x∈es,hasB (jbI M at').1.all x.1=true)->S'=S):=by
 have H:=Hd h;have HP:=Hd (bA hn hl);have b7:=h.m.blk.lt
 obtain⟨R,hR⟩:=vE (jbI M at')
 have HR:=Hd hR;rw[<-hR]
 obtain⟨nl,a7⟩:=vE M.all.length
 have HN:=Hd a7;clear h hn hl hR a7;go_enter Tryz.func23,Tryz.ntmps23;go_wp2_with fail
 refine vC (jgE w D b M a c rm sb cb es ck H.o.m) fun w2 q=>?_;have q0:w2.cell? ⟨b,0,none⟩=some (.int .i64 (M.win:Int)):=(H.o.m.ext q).blk.cellL rfl;have q1:w2.cell? ⟨b,1,none⟩=some (.int .i64 (M.next:Int)):=(H.o.m.ext q).blk.cellL rfl;have q2:w2.cell? ⟨b,2,none⟩=some (.slice a nl c):=by rw[HN.o];exact (H.o.m.ext q).blk.cellL rfl
 have A:=Hd q;clear q;go_wp2_with fail
 have hp:=jum w2 D M _ (H.o.m.ext A.o).ver H.o.ok HP.o.2 at';rw[<-HN.o, <-HR.o]at hp;refine hp.mono ?_;rintro e w3 ⟨av,rfl,a8,a1⟩
 obtain⟨a3,c3,b4⟩:=a1.sl
 subst b4;have K:=Hd (bA a8 a1);clear hp a8 a1 q0 q1 q2;unfold modV;have b5:=((H.o.m.ext A.o).ext K.o.1).blk
 by_cases he:R.2=0
 ·have J:=Hd he
  rw[he];clear he;go_wp2_with (first
   |(refine jah Tryz.allocMod rfl rfl ?_;intro W4 a2 a4)
   |(refine jad (vs:=[.int .i64 (R.1.win:Int),.int .i64 (R.1.next:Int),.slice a3 R.1.all.length c3]) rfl rfl rfl rfl a2 rfl Tryz.szMod (by simp[Value.oneCell']) ?_;intro W5 O a5
     have q0:W5.cell? ⟨w3.heap.size,0,none⟩=some (.int .i64 (R.1.win:Int)):=O.cellL rfl;have q1:W5.cell? ⟨w3.heap.size,1,none⟩=some (.int .i64 (R.1.next:Int)):=O.cellL rfl;have q2:W5.cell? ⟨w3.heap.size,2,none⟩=some (.slice a3 R.1.all.length c3):=O.cellL rfl;have k5:Ext w3 W5:=a4.trans' a5 fun x hx e=>by have e:x=w3.heap.size:=e;omega
     have X:=Hd (bA k5 (b5.keeps k5 (fun h=>h)));clear k5)
   |(refine jfm (old:=chC M a c rm sb cb) (vs:=[.int .i64 (R.1.win:Int),.int .i64 (R.1.next:Int),.slice a3 R.1.all.length c3]) rfl rfl rfl rfl X.o.2 (by show 3<=6;decide) Tryz.szMod (by simp[Value.oneCell']) ?_;intro W6 b6 a9))
  have kx:=A.o.trans (K.o.1.trans X.o.1);have hv:=(K.o.2.ext X.o.1).mono (fun z hz=>(show NewB w W5 z from⟨by have:=hz.1;have:=A.o.size;omega,by have:=hz.2;have:=X.o.1.size;omega⟩));have b0:=H.o.turn kx hv (by rw[HR.o];exact jun H.o.ok at') b6 a9;have b1:=jhd W6 w0 _ b R.1 a3 c3 rm sb cb es ck bm room S n b0 HP.o.1 (by rw[HR.o];have:=jk4 (M:=M) (x:=at');have:=HP.o.2;omega);have K6:=Hd (bA kx a9);refine b1.mono ?_;clear b1 b0 hv kx q0 q1 q2;rintro e w7 ⟨rfl,S',b2,b3,Z,a0⟩;have H7:=Hd (bA b2 (bA b3 (bA Z fun h=>(a0 h).1)));clear b2 b3 Z a0;go_wp2_with fail
  go_ret
  refine⟨by rw[J.o];rfl,?_,_,a3,c3,_,S',H7.o.1,fun h=>absurd J.o h,fun _=>rfl,H7.o.2.2⟩
  exact ((K6.o.1.mono (fun _ _ e=>e.elim)).trans (K6.o.2.mono fun z _ e=>.inl e)).trans (H7.o.2.1.mono fun z _ e=>.inr e)
 ·have e1:(R.2 != 0)=true:=by simpa using he
  have J:=Hd he;clear he;go_wp2_with (first
   |(refine jah Tryz.allocMod rfl rfl ?_;intro W4 a2 a4)
   |(refine jad (vs:=[.int .i64 (R.1.win:Int),.int .i64 (R.1.next:Int),.slice a3 R.1.all.length c3]) rfl rfl rfl rfl a2 rfl Tryz.szMod (by simp[Value.oneCell']) ?_;intro W5 O a5))
  go_ret;have k5:Ext w3 W5:=a4.trans' a5 fun x hx e=>by have e:x=w3.heap.size:=e;omega
  have hk:=A.o.trans (K.o.1.trans k5);have g1:=jhX (M:=M) (x:=at') (by rw[<-HR.o];exact J.o);rw[<-HR.o]at g1
  refine⟨rfl,hk.mono (fun _ _ e=>e.elim),D,a,c,es,S,?_,fun _=>⟨rfl,rfl⟩,fun h=>absurd h J.o,fun x hx=>⟨x,hx,rfl⟩,fun _=>rfl⟩
  rw[g1];exact H.o.ext hk
end
section
open Go Go.RowKit
attribute [local go_sem] Oper.semAt_some
theorem jrE(s bm:Nat)(room:Int)(L:vT)(h:jax w s bm room L)(hl:L.length<=1000000):vQ 32 #[.pointer (some ⟨s,0,none⟩)] w fun e w'=>∃ v,e=.returned v/\SRow w w' v L.length (baL (jdo (L.map (·.1)))):=by
 have q1:=h.st.cell (i:=1) (v:=.map (some bm)) vF
 obtain⟨es,ck,hm,a8⟩:=h.mp.mp
 have c9:=jfl Tryz.ES Tryz.uMapIt hm;have a9:es.length=L.length:=a8.lenL;rw[a9]at c9
 obtain⟨i0,hi,b7,b8,b9⟩:=info_parts Tryz.infoS1
 obtain⟨w1,a0,a1,b0⟩:=run_make_own (P:=Tryz.prog) (w:=w) w.heap.size 34 9 i0 _ 1 Tryz.sStrs.ht hi b7 b8 .i64 .i64 L.length (by rw[b9];omega) (by unfold maxLen;omega) (bL _)
 have k1:Ext w w1:=jac.of_grown b0 (fun _ e=>by cases e);have c0:=ORow.made w a1 b0;have d4:=jaa q1 k1;have J:=hm.keeps k1 (fun g=>g);have d5:=jhS Tryz.ES Tryz.uMapIt J;have HM:=Hd a8;have K1:=Hd k1;have c1:=Hd c0;have c2:=Hd hm;clear h a1 b0 hm a8 hi b7 b8 b9 k1 c0 J;unfold vQ;go_in;go_wp2_with fail
 obtain⟨r,hr⟩:=vE w1.heap.size
 have HR:=Hd hr;rw[<-hr];clear hr;go_loopw [3] (fun v wr=>jyU w r bm ck es v wr) (fun v _=>L.length - slN v)
 case atStart =>
  have hz:=K1.o.size
  refine⟨[],⟨c1.o.mono ((ExtR w1).alloc _),?_,fun x hx=>(by cases hx),List.nodup_nil,fun b hb e=>?_⟩⟩
  ·rw[HR.o];exact Blk.new w1 _
  ·have:=c1.o.lt b hb
   rw[HR.o]at e;omega
 case round =>
  obtain⟨q,H⟩:=hrel
  obtain⟨ad,cp,rfl⟩:=H.row.sl
  have a4:=(c2.o).keeps H.row.ext (fun g=>g);have b3:q.length<=es.length:=H.len;rcases jjH Tryz.ES a4 H.it HM.o.lt 0 with⟨hl0,hnx⟩ |⟨x,hxl,w2,hnx,hr2,hk2⟩
  ·have hp:=H.done hl0 HM.o.born
   have a2:q.length=L.length:=by rw[hp.length_eq,a9]
   have c3:jdo (q.map (·.1))=jdo (L.map (·.1)):=by
    rw[jiW (hp.map _),HM.o.keysL]
   have d0:=Hd c3;have K:=Hd (show ORow 9 1 w wr (.slice ad q.length cp) q.length ((q.map (·.1)).map encStr)from H.row);have b1:=Hd a2;clear H a4 hp c3 a2 hl0 a0;go_wp2_with fail
   refine vC (juQ K.o (by rw[b1.o];exact hl)) fun w3 a5=>?_;rw[d0.o]at a5;rw[b1.o]at a5 ⊢;have d1:=Hd a5;clear a5 K b1;go_wp2_with fail
   go_ret
   refine⟨_,rfl,?_⟩
   unfold SRow;rw[jo6];exact d1.o
  ·have d6:w.heap.size<=r:=by rw[HR.o];exact K1.o.size
   have d7:=c2.o.lt;have c4:=a4.keeps hk2 (fun e=>by have e:bm=r:=e;omega);have b2:x∈es:=(cI.1 hxl).1;have c5:x.2.2 ∉ q.map (·.2.2):=by have:=(cI.1 hxl).2;simpa [ji2]using this
   have c7:=jhQ Tryz.ES c4 b2 hr2 HM.o.born;have O:((q++[x]).map (·.2.2)).Nodup:=by
    rw[bY,dR]
    exact⟨H.nd,by simp,fun a ha b hb e=>by simp at hb;subst hb;subst e;exact c5 ha⟩
   have X:∀ y∈q++[x],y∈es:=fun y hy=>by
    rcases bQ.1 hy with hy | hy
    ·exact H.sub y hy
    ·simp at hy;exact hy ▸ b2
   have b4:q.length+1<=L.length:=by
    have:=gZ (jfH _ O) (fun y hy=>X y hy)
    rw[a9]at this;simpa using this
   have A:ORow 9 1 w w2 (.slice ad q.length cp) q.length (keyS q):=H.row.keeps hk2 (fun b hb e=>H.ne b hb e) (fun b hb e=>by have e:b=r:=e;omega);have a3:Blk w2 r (.mapIter (some bm) ck (ji2 (q++[x])) ck):=by
    have e:ji2 (q++[x])=(ji2 q).push x.2.2:=by unfold ji2;simp
    rw[e];exact hr2
   have Z:=Hd (bA O (bA X H.ne));have K:=Hd A;have d2:=Hd a3;have J:q.length+1<=maxLen:=by unfold maxLen;omega
   have c8:(q.length+1) * 16<=140737488355328:=vO
   have d8:=hr2.lt
   obtain⟨kx,a7⟩:=vE x.1
   have d3:=Hd a7;have b5:(Instr.entry (.pointer (some ⟨r,0,none⟩))).run Tryz.prog w2=.ok (.tuple #[encStr kx,x.2.1]) w2:=by rw[a7];exact c7
   have b6:(Instr.next (.pointer (some ⟨r,0,none⟩)) false 0).run Tryz.prog wr=.ok (.tuple #[.bool true,encStr kx,x.2.1]) w2:=by rw[a7];exact hnx
   obtain⟨n,hn⟩:=vE q.length
   have HN:=Hd hn;rw[<-hn]at J c8 b4 A K Z ⊢;clear H a4 c4 hxl hr2 hk2 b2 c5 c7 O X A a3 a0 hnx a7 b3 hn;unfold encStr at b5 b6;go_wp2_with (at_builtin;refine ja0 Tryz.sStrs (K.o.mono ((ExtR w2).alloc _)) (.tmp 20) (.tmp 22) rfl rfl rfl (jaN (Blk.new w2 _)) (news:=[encStr kx]) (by intro u hu;simp at hu;rcases hu with rfl;rfl) rfl rfl J c8 ?_;intro v' w' r1 r2 r3)
   have HX:=Hd (bA r1 (bA r2 r3))
   obtain⟨d9,e0,rfl⟩:=r1.sl
   clear r1 r2 r3;go_wp2_with fail
   go_roundw
   case rel =>
    obtain⟨r1,r2,r3⟩:=HX.o
    have e1:=((ExtR w2).alloc (.cells #[.string ⟨kx.toArray⟩] 9)).size
    refine⟨q++[x],?_,?_,Z.o.2.1,Z.o.1,?_⟩
    ·have e:keyS (q++[x])=keyS q++[encStr kx]:=by unfold keyS;simp[d3.o]
     rw[e,bI, <-HN.o];exact r1
    ·refine (d2.o.alloc _).keeps r2 (fun e=>Z.o.2.2 r e rfl)
    ·intro b hb e
     rcases r3 with r3 | r3
     ·exact Z.o.2.2 b (r3 ▸ hb) e
     ·have:=r3 b hb;omega
   case measure=>simp[slN];omega
end
section
open Go Go.RowKit
theorem jj6(D:Nat->Prop)(b:Nat)(M:MdN)(a:Option Addr)(c rm sb cb:Nat)(es:List (Ent Int))(ck bm:Nat)(room:Int)(S:vT)(n:Nat)(h:ChI w0 D w b M a c rm sb cb es ck bm room S n)(hn:S.length<=100000) :
  vQ 8 #[.pointer (some ⟨b,0,none⟩)] w fun e w'=>∃ v,e=.returned v/\SRow w w' v S.length (baL (jdo (S.map (·.1)))):=by
 have H:=Hd h;have O:=Hd hn;clear h hn;go_enter Tryz.func8,Tryz.ntmps8;go_wp2_with fail
 refine vH (jgE w D b M a c rm sb cb es ck H.o.m) fun J q=>?_;have Z:J.cell? ⟨b,4,none⟩=some (.pointer (some ⟨sb,0,none⟩)):=(H.o.m.ext q).blk.cellL rfl;go_wp2_with fail
 refine (jrE J sb bm room S (H.o.s.st.ext q.o) (by have:=O.o;omega)).mono ?_;rintro e w3 ⟨v,rfl,K⟩;have A:=Hd K;clear K;go_wp2_with fail
 go_ret
 exact⟨v,rfl,A.o.sl,A.o.own,q.o.trans A.o.ext,fun z X=>by have:=A.o.new z X;have:=q.o.size;omega⟩
theorem Tryz.uIntsB:Tryz.prog.underlying 32=some (.slice 3):=vY
theorem Tryz.infoIB:(Tryz.prog.info? 3).map (fun i=>(i.zero,i.size,i.bytes))=some (some (.int .i64 0),1,8):=vY
theorem Tryz.sIntsB:jcw Tryz.prog 32 3 1 8:=jcw.mk' Tryz.uIntsB Tryz.infoIB rfl vI
def bkV(l:List VerN):List vV:=l.map fun v=>.int .i64 (v.block:Int)
def jyO(w:vW)(l:List VerN)(lv iv:vV)(wr:vW):Prop:=∃ i:Nat,i<=l.length/\iv=.int .i64 i/\ORow 3 1 w wr lv i (bkV (l.take i))
theorem jio(D:Nat->Prop)(b:Nat)(M:MdN)(a:Option Addr)(c rm sb cb:Nat)(es:List (Ent Int))(ck bm:Nat)(room:Int)(S:vT)(n:Nat)(h:ChI w0 D w b M a c rm sb cb es ck bm room S n)(hl:M.all.length<=1000) :
  vQ 7 #[.pointer (some ⟨b,0,none⟩)] w fun e w'=>∃ v,e=.returned v/\ORow 3 1 w w' v M.all.length (bkV M.all):=by
 have H:=Hd h
 obtain⟨A,q⟩:=vE M.all.length
 have K:=Hd q;have a0:A<=1000:=by rw[q];exact hl
 rw[<-q];clear h hl q;go_enter Tryz.func7,Tryz.ntmps7;go_wp2_with fail
 refine vC (jgE w D b M a c rm sb cb es ck H.o.m) fun w2 J=>?_;have q2:w2.cell? ⟨b,2,none⟩=some (.slice a A c):=by rw[K.o];exact (H.o.m.ext J).blk.cellL rfl
 have X:=Hd J;clear J;go_wp2_with fail
 go_loopw [3,15] (fun lv Z wr=>jyO w M.all lv Z wr) (fun _ Z _=>A - (intOf Z).toNat)
 case atStart=>exact⟨0,cB _,rfl,ORow.nil _ _ X.o⟩
 case round =>
  obtain⟨i,hi,rfl,O⟩:=hrel
  have HR:=Hd O
  obtain⟨al,cl,rfl⟩:=O.sl
  rw[<-K.o]at hi;have hE:=O.ext;clear O
  by_cases hlt:i < A
  ·obtain⟨x,hx⟩:∃ x,M.all[i]?=some x:=⟨_,bB (by rw[<-K.o];exact hlt)⟩
   obtain⟨b1,o1,a1,c1,a2,c2,rfl,p0,p1,p2,p3,_,_⟩:=(H.o.m.ver.ext hE).at' hx
   have HX:=Hd hx;have a4:(i:Int) < (A:Int):=vO
   have a5:=hi;clear hx hE;go_wp2_with (at_builtin;go_loud (refine ja0 Tryz.sIntsB (news:=[.int .i64 (x.block:Int)]) (HR.o.mono (((ExtR wr).alloc _).alloc _)) (.tmp 19) (.tmp 22) rfl rfl rfl (by have:=jg3 (wr.alloc (.cells #[.int .i64 (x.block:Int),.slice a1 x.ents.length c1,.slice a2 x.chgs.length c2,.int .i64 (x.pins:Int)] 86)) 3 [.int .i64 (x.block:Int)];rw[bF]at this;exact this) (by simp[Value.oneCell']) rfl rfl (by unfold maxLen;omega) vO ?_);intro v' w' r1 r2 r3)
   have R1:=Hd r1
   obtain⟨a3,c3,rfl⟩:=r1.sl
   clear r1 r2 r3;go_wp2_with fail
   go_roundw
   ·refine⟨i+1,by rw[<-K.o];exact hlt,by simp,?_⟩
    have:=R1.o
    unfold bkV at this ⊢;rw[bX,HX.o,bY];exact this
   ·show A - ((i:Int)+1).toNat < A - (i:Int).toNat
    omega
  ·obtain rfl:i=A:=vO
   go_wp2_with fail
   go_ret
   refine⟨_,rfl,?_⟩
   have:=HR.o
   rw[K.o,cG]at this;rw[K.o];exact this
theorem jpy(D:Nat->Prop)(b:Nat)(M:MdN)(a:Option Addr)(c rm sb cb:Nat)(es:List (Ent Int))(ck bm:Nat)(room:Int)(S:vT)(n:Nat)(h:ChI w0 D w b M a c rm sb cb es ck bm room S n)(hl:M.all.length<=900)(at':Int) :
  vQ 22 #[.pointer (some ⟨b,0,none⟩),.int .i64 at'] w fun e w'=>e=.returned (.tuple #[.int .i64 ((pinN M at').2.1:Int),.int .i64 (pinN M at').2.2])/\jac (fun z=>z=b) w w'/\∃ D' H J,ChI w0 D' w' b (pinN M at').1 H J rm sb cb es ck bm room S n:=by
 refine (jvk w D b M a c rm sb cb es ck h.m h.ok hl h.db h.rb at').mono ?_;rintro e w' ⟨X,K,H,J,Z⟩
 obtain⟨l1,l2,l3,l4,l5⟩:=h.lt'
 have A:=h.sep b (.inl rfl)
 refine⟨X,K,_,H,J,Z,h.s.keeps K (fun e=>A.2.1 e.symm) (fun e=>A.1 e.symm) (fun x hx e=>A.2.2 (bD.2 ⟨x,hx,e⟩)) (fun z a0 fz e O=>?_),fun z q=>?_,h.rb,fun e=>?_,fun z q=>?_,jyp h.ok at',h.st,h.kn,h.lt,h.val⟩
 ·have e:z=b:=e
  subst e
  have:=h.m.blk.uniq O
  injection this with _ e _;exact absurd e vI
 ·rcases q with q | q | q | q
  ·exact h.sep z (.inl q)
  ·exact h.sep z (.inr (.inl q))
  ·exact h.sep z (.inr (.inr q))
  ·have h1:=q.1
   exact⟨by omega,by omega,fun e=>by have:=l5 z e;omega⟩
 ·rcases e with e | e
  ·exact h.db e
  ·have:=e.1;omega
 ·rcases q with q | q
  ·exact⟨(h.dr z q).1,bC (h.dr z q).2 K.size⟩
  ·exact⟨by have:=q.1;omega,q.2⟩
theorem jsC(D:Nat->Prop)(b:Nat)(M:MdN)(a:Option Addr)(c rm sb cb:Nat)(es:List (Ent Int))(ck bm:Nat)(room:Int)(S:vT)(n:Nat)(h:ChI w0 D w b M a c rm sb cb es ck bm room S n)(hn:n<=20000)(hl:M.all.length<=1000)(u:FrameMode)(bd bw bc bb:Nat)
  (hd:w.cell? ⟨bd,0,none⟩=some (.bool true)) (hc:w.cell? ⟨bc,0,none⟩=some (.pointer (some ⟨b,0,none⟩))) :
  CallsD Tryz.prog 38 #[.pointer (some ⟨bd,0,none⟩),.pointer (some ⟨bw,0,none⟩),.pointer (some ⟨bc,0,none⟩),.pointer (some ⟨bb,0,none⟩)] u w fun e A w'=>A=u/\e=.returned (.tuple #[])/\∃ S',ChI w0 D w' b M a c rm sb cb (es.filter fun x=>hasB M.all x.1) ck bm room S' n/\jac (ClF rm bm S) w w'/\(∀ x∈S',∃ z∈S,x.2.1=z.2.1)/\((∀ x∈es,hasB M.all x.1=true)->S'=S/\Ext w w'):=by
 have H:=Hd (jhd w w0 D b M a c rm sb cb es ck bm room S n h hn hl);clear h hn hl;go_enter_d Tryz.func38,Tryz.ntmps38;go_wp2_with fail
 refine H.o.mono ?_;rintro e K ⟨rfl,q⟩;have J:=Hd q;clear q hd hc;go_wp2_with fail
 refine bodyPost_end (results_none rfl _ _ _) rfl ?_
 exact⟨rfl,J.o⟩
theorem jvl(D:Nat->Prop)(b:Nat)(M:MdN)(a:Option Addr)(c rm sb cb:Nat)(es:List (Ent Int))(ck bm:Nat)(room:Int)(S:vT)(n:Nat)(hn:n<=20000)(hl:M.all.length<=1000)(u:FrameMode)(bd bw bc bb:Nat)(x1 x2 x3:vV)(v0:vV)
  (hd:w.cell? ⟨bd,0,none⟩=some (.bool false)) (hc:w.cell? ⟨bc,0,none⟩=some (.pointer (some ⟨b,0,none⟩))) (hw:Blk w bw (.cells (modC M (.slice a M.all.length c)).toArray 73)) (hbb:Blk w bb (.cells #[v0] 3)) (hne:bb≠b/\bc≠b/\bc≠bb)
  (hB:Blk w b (.cells ([x1,x2,x3]++(chC M a c rm sb cb).drop 3).toArray 81))
  (hfix:∀ W,jac (fun z=>z=b\/z=bb) w W->Blk W b (.cells (chC M a c rm sb cb).toArray 81)->ChI w0 D W b M a c rm sb cb es ck bm room S n) (q:∀ x∈es,hasB M.all x.1=true) :
  CallsD Tryz.prog 38 #[.pointer (some ⟨bd,0,none⟩),.pointer (some ⟨bw,0,none⟩),.pointer (some ⟨bc,0,none⟩),.pointer (some ⟨bb,0,none⟩)] u w fun e u' w'=>u'=u/\e=.returned (.tuple #[])/\ChI w0 D w' b M a c rm sb cb es ck bm room S n/\jac (fun z=>z=b\/z=bb) w w'/\Blk w' bb (.cells #[.int .i64 0] 3):=by
 have q0:w.cell? ⟨bw,0,none⟩=some (.int .i64 (M.win:Int)):=hw.cellL rfl;have q1:w.cell? ⟨bw,1,none⟩=some (.int .i64 (M.next:Int)):=hw.cellL rfl
 obtain⟨nl,A⟩:=vE M.all.length
 have q2:w.cell? ⟨bw,2,none⟩=some (.slice a nl c):=by rw[A];exact hw.cellL rfl
 have a4:=Hd A;have HB:=Hd (bA hB hbb);have HF:=Hd hfix;have HA:=Hd (bA hn (bA hl q));clear hw hB hfix q A hn hl hbb
 obtain⟨n1,n2,n3⟩:=hne
 go_enter_d Tryz.func38,Tryz.ntmps38;go_wp2_with (first
  |(refine jfm (old:=[x1,x2,x3]++(chC M a c rm sb cb).drop 3) (vs:=[.int .i64 (M.win:Int),.int .i64 (M.next:Int),.slice a nl c]) rfl rfl rfl rfl HB.o.1 (by show 3<=6;decide) Tryz.szMod (by simp[Value.oneCell']) ?_;intro W2 a5 H
    have b2:=HB.o.2.keeps H n1;have p2:=b2.cell (i:=0) (v:=v0) rfl;have f2:W2.frozen? ⟨bb,0,none⟩=false:=b2.frozen;have c2:=jai hc H n2)
  |(refine jc0 rfl bb 0 (.int .i64 0) rfl rfl rfl rfl vY p2 f2 ?_;intro J K
    have c3:J.cell? ⟨bc,0,none⟩=some (.pointer (some ⟨b,0,none⟩)):=by rw[K];exact jai c2 (jac.oneSet W2 ⟨bb,0,none⟩ (.int .i64 0)) n3
    have a0:=Hd K;clear K))
 have k3:jac (fun z=>z=bb) W2 J:=by rw[a0.o];exact jac.oneSet W2 ⟨bb,0,none⟩ (.int .i64 0)
 have O:jac (fun z=>z=b\/z=bb) w J:=(H.mono fun z _ e=>.inl e).trans (k3.mono fun z _ e=>.inr e);have a1:Blk J b (.cells (chC M a c rm sb cb).toArray 81):=by
  have:=a5.keeps k3 (fun e=>n1 e.symm)
  rw[a4.o]at this;exact this
 have a2:Blk J bb (.cells #[.int .i64 0] 3):=by
  have:=b2.set_same (i:=0) (.int .i64 0)
  rw[a0.o];exact this
 have hI:=HF.o J O a1;have a3:=jhd J w0 D b M a c rm sb cb es ck bm room S n hI HA.o.1 HA.o.2.1;refine a3.mono ?_;rintro e w4 ⟨rfl,S',X,_,_,q⟩
 obtain⟨rfl,Z⟩:=q HA.o.2.2
 have hf:es.filter (fun x=>hasB M.all x.1)=es:=fA.2 HA.o.2.2;rw[hf]at X;have HR:=Hd (bA X (bA (O.trans (Z.mono fun _ _ e=>e.elim)) (a2.keeps Z (fun h=>h))));clear k3 O a1 a2 hI a3 X Z hf q;go_wp2_with fail
 refine bodyPost_end (results_none rfl _ _ _) rfl ?_
 exact⟨rfl,HR.o⟩
def ShP:PA->Prop
 | .nil=>True
 | .no=>True
 | .leaf _ v=>v.size<=80
 | .ext _ n=>ShP n
 | .br v ks=>v.size<=80/\∀ i,ShP (ks i)
theorem jgv{a:vB}{P:PA}(h:ShP P):ShP (jbT a P):=by
 unfold jbT
 by_cases h0:a.size=0
 ·rw[if_pos h0];exact h
 rw[if_neg h0];cases P with
 | nil=>trivial
 | no=>trivial
 | leaf q v=>exact h
 | ext q n=>exact h
 | br v ks=>exact h
theorem jnh{v:vB}(hu:u.size<=80)(h:∀ i,ShP (ks i)){i:Nat}{P:PA}(hP:ShP P):ShP (.br u (setK ks i P)):=⟨hu,fun j=>by
 by_cases e:j=i
 ·rw[e,jcr];exact hP
 ·rw[jd3 _ _ e];exact h j⟩
theorem jnf(h:ShP (.br v ks))(p:vB)(hu:u.size<=80):ShP (addK (.br v ks) p u):=by
 rw[jb8];split
 ·exact⟨hu,h.2⟩
 ·exact jnh (v:=v) h.1 h.2 hu
theorem juc:ShP (.br ⟨#[]⟩ fun _=>.nil):=⟨cB _,fun _=>trivial⟩
theorem jrD:∀ (P:PA) (p u:vB),ShP P->u.size<=80->ShP (putP P p u)
 | .nil,p,u,_,hu=>hu
 | .no,p,u,_,hu=>hu
 | .leaf q v,p,u,h,hu=>by
  have h:v.size<=80:=h;unfold putP;split
  ·exact hu
  ·refine jgv ?_
   have e:=jnf juc (q.extract (jar q p) q.size) h;rw[jb8]at e ⊢
   by_cases h0:(q.extract (jar q p) q.size).size=0
   ·rw[if_pos h0]at e ⊢;exact jnf e _ hu
   ·rw[if_neg h0]at e ⊢;exact jnf e _ hu
 | .ext q x,p,u,h,hu=>by
  have h:ShP x:=h;unfold putP;split
  ·exact jgv (jrD x _ u h hu)
  ·exact jgv (jnf (jnh (v:=⟨#[]⟩) (cB _) (ks:=fun _=>PA.nil) (fun _=>trivial) (jgv h)) _ hu)
 | .br v ks,p,u,h,hu=>by
  unfold putP;split
  ·exact⟨hu,h.2⟩
  ·exact jnh (v:=v) h.1 h.2 (jrD (ks (jao p)) _ u (h.2 _) hu)
theorem jng(h:ShP (.br v ks)):ShP (jcG v ks):=by
 unfold jcG;cases e:idxK ks with
 | nil =>
  show ShP (if v.size=0 then PA.no else .leaf ⟨#[]⟩ v);split
  ·trivial
  ·exact h.1
 | cons i r =>
  cases r with
  | nil =>
   show ShP (if v.size=0 then jbT ⟨#[UInt8.ofNat i]⟩ (ks i)else .br v ks);split
   ·exact jgv (h.2 i)
   ·exact h
  | cons j r=>exact h
theorem jlM:∀ (P:PA) (p:vB),ShP P->ShP (jbh P p)
 | .nil,p,_=>trivial
 | .no,p,_=>trivial
 | .leaf q v,p,h=>by
  unfold jbh;split
  ·trivial
  ·exact h
 | .ext q n,p,h=>by
  have h:ShP n:=h;unfold jbh;split
  ·exact jgv (jlM n _ h)
  ·exact h
 | .br v ks,p,h=>by
  unfold jbh;split
  ·exact jng ⟨cB _,h.2⟩
  split
  ·exact h
  refine jng (jnh (v:=v) h.1 h.2 ?_)
  have:=jlM (ks (jao p)) (jbc p) (h.2 _)
  unfold unNo;split
  ·trivial
  ·exact this
theorem jjJ{f g:Nat->Nat}{c j:Nat}(h:∀ i,i≠j->g i<=f i)(hj:g j<=f j+c):∀ n,sumF g n<=sumF f n+(if j < n then c else 0)
 | 0=>cB _
 | n+1=>by
  have q:=jjJ h hj n;show sumF g n+g n<=sumF f n+f n+_
  by_cases e:n=j
  ·subst e
   rw[if_neg (Nat.lt_irrefl n)]at q;rw[if_pos (Nat.lt_succ_self n)];omega
  ·have:=h n e
   by_cases l:j < n
   ·rw[if_pos l]at q;rw[if_pos vO];omega
   ·rw[if_neg l]at q;rw[if_neg vO];omega
theorem jmj{P:PA}{c:Nat}(h:cntP P<=cntP (ks i)+c):cntP (.br u (setK ks i P))<=cntP (.br v ks)+c:=by
 have:=jjJ (f:=fun i=>cntP (ks i)) (g:=fun j=>cntP (setK ks i P j)) (c:=c) (j:=i) (fun j e=>by show cntP (setK ks i P j)<=_;rw[jd3 _ _ e];exact bL _) (by show cntP (setK ks i P i)<=_;rw[jcr];exact h) 16
 show 1+sumF (fun j=>cntP (setK ks i P j)) 16<=1+sumF (fun i=>cntP (ks i)) 16+c;split at this <;> omega
theorem jgd{a:vB}{P:PA}:cntP (jbT a P)<=cntP P+1:=by
 unfold jbT;split
 ·exact dV _
 cases P with
 | nil=>exact bL _
 | no=>exact dV _
 | leaf q v=>exact dV _
 | ext q n=>exact dV _
 | br v ks=>show 1+cntP (.br v ks)<=cntP (.br v ks)+1;omega
theorem jmg(p u:vB):cntP (addK (.br v ks) p u)<=cntP (.br v ks)+1:=by
 rw[jb8];split
 ·exact dV _
 ·exact jmj (show 1<=_ by omega)
theorem jmi:cntP (.br ⟨#[]⟩ fun _=>.nil)=1:=rfl
theorem jpL:∀ (P:PA) (p u:vB),cntP (putP P p u)<=cntP P+3
 | .nil,p,u=>by show 1<=0+3;omega
 | .no,p,u=>by show 1<=1+3;omega
 | .leaf q v,p,u=>by
  unfold putP;split
  ·exact Nat.le_add_right _ _
  ·refine bE jgd ?_
   have e:=jmg (v:=⟨#[]⟩) (ks:=fun _=>.nil) (q.extract (jar q p) q.size) v;rw[jmi]at e;show _<=1+3;rw[jb8]at e ⊢
   by_cases h0:(q.extract (jar q p) q.size).size=0
   ·rw[if_pos h0]at e ⊢
    have:=jmg (v:=v) (ks:=fun _=>.nil) (p.extract (jar q p) p.size) u;omega
   ·rw[if_neg h0]at e ⊢
    have:=jmg (v:=⟨#[]⟩) (ks:=setK (fun _=>.nil) (jao (q.extract (jar q p) q.size)) (.leaf (jbc (q.extract (jar q p) q.size)) v)) (p.extract (jar q p) p.size) u;omega
 | .ext q x,p,u=>by
  unfold putP;split
  ·have H:=jgd (a:=q) (P:=putP x (p.extract (jar q p) p.size) u)
   have A:=jpL x (p.extract (jar q p) p.size) u;show _<=1+cntP x+3;omega
  ·refine bE jgd ?_
   have H:=jgd (a:=q.extract (jar q p+1) q.size) (P:=x);have A:=jmj (u:=⟨#[]⟩) (v:=⟨#[]⟩) (ks:=fun _=>PA.nil) (i:=jao (q.extract (jar q p) q.size)) (P:=jbT (q.extract (jar q p+1) q.size) x) (c:=cntP x+1) (by show _<=0+_;omega);rw[jmi]at A;have J:=jmg (v:=⟨#[]⟩) (ks:=setK (fun _=>.nil) (jao (q.extract (jar q p) q.size)) (jbT (q.extract (jar q p+1) q.size) x)) (p.extract (jar q p) p.size) u;show _<=1+cntP x+3;omega
 | .br v ks,p,u=>by
  unfold putP;split
  ·exact Nat.le_add_right _ _
  ·exact jmj (jpL (ks (jao p)) _ u)
theorem jmh:cntP (jcG v ks)<=cntP (.br v ks):=by
 have q:∀ (f:Nat->Nat) (i n:Nat),i < n->f i<=sumF f n:=fun f i n=>by
  induction n with
  | zero=>intro h;omega
  | succ n ih =>
   intro h;show f i<=sumF f n+f n
   by_cases e:i=n
   ·subst e;omega
   ·have:=ih vO;omega
 have H:∀ i∈idxK ks,i < 16:=fun i hi=>fZ.1 (cI.1 hi).1;unfold jcG;cases e:idxK ks with
 | nil =>
  show cntP (if v.size=0 then PA.no else .leaf ⟨#[]⟩ v)<=1+sumF (fun i=>cntP (ks i)) 16;split
  ·show 1<=_;omega
  ·show 1<=_;omega
 | cons i r =>
  cases r with
  | nil =>
   show cntP (if v.size=0 then jbT ⟨#[UInt8.ofNat i]⟩ (ks i)else .br v ks)<=_;split
   ·have J:=jgd (a:=⟨#[UInt8.ofNat i]⟩) (P:=ks i)
    have A:=q (fun i=>cntP (ks i)) i 16 (H i (by rw[e];exact cJ));have A:cntP (ks i)<=sumF (fun i=>cntP (ks i)) 16:=A;show _<=1+sumF (fun i=>cntP (ks i)) 16;omega
   ·exact bL _
  | cons j r=>exact bL _
theorem jll:∀ (P:PA) (p:vB),cntP (jbh P p)<=cntP P+1
 | .nil,p=>bL _
 | .no,p=>dV _
 | .leaf q v,p=>by
  unfold jbh;split
  ·exact dV _
  ·exact dV _
 | .ext q n,p=>by
  unfold jbh;split
  ·have e:=jgd (a:=q) (P:=jbh n (p.extract q.size p.size))
   have A:=jll n (p.extract q.size p.size);show _<=1+cntP n+1;omega
  ·exact dV _
 | .br v ks,p=>by
  unfold jbh;split
  ·exact bE jmh (dV _)
  split
  ·exact dV _
  refine bE jmh (jmj ?_)
  have:=jll (ks (jao p)) (jbc p)
  unfold unNo;split
  ·exact cB _
  ·exact this
structure AnyP(P:PA)(k c:Nat):Prop where
 va:VaP P
 sh:ShP P
 dp:Dp P k
 there:P.isNil=false
 cnt:cntP P<=c
theorem jtd{c:Chg}(h:c.bad=false)(hg:c.gone=false):c.value.size<=80:=by
 unfold Chg.bad at h;rw[hg]at h;have q:jcu c.value=true:=by
  cases e:jcu c.value with
  | true=>rfl
  | false=>rw[e]at h;simp at h
 unfold jcu at q;exact (of_decide_eq_true q).2
theorem AnyP.step{P:PA}{k:Nat}(h:AnyP P k n)(hk:12<=k){c:Chg}(hc:c.bad=false):AnyP (jcv P c) k (n+3):=by
 have e:=jmE hc;have q:=jeA c.key;unfold jcv;cases hg:c.gone with
 | true=>exact⟨jlT P _ h.va,jlM P _ h.sh,jhm P k _ h.dp,jdC P _,by have:=jll P (jaJ c.key);have:=h.cnt;show cntP (jbh P _)<=_;omega⟩
 | false=>exact⟨jrR P _ _ h.va (jc7 _),jrD P _ _ h.sh (jtd hc hg),jmr P k _ _ h.dp vO,jfM P _ _,by have:=jpL P (jaJ c.key) c.value;have:=h.cnt;show cntP (putP P _ _)<=_;omega⟩
theorem AnyP.fold{k:Nat}(hk:12<=k):∀ (ds:List Chg) (P:PA) (n:Nat),AnyP P k n->(∀ c∈ds,c.bad=false)->AnyP (ds.foldl jcv P) k (n+3 * ds.length)
 | [],_,_,h,_=>h
 | c :: ds,P,n,h,hc=>by
  have:=AnyP.fold hk ds _ _ (h.step hk (hc c cJ)) (fun d e=>hc d (bW _ e))
  rw[bU,show n+3 * (ds.length+1)=n+3+3 * ds.length by omega];exact this
theorem AnyP.takes{P:PA}{k:Nat}(h:AnyP P k n)(hk:12<=k)(ds:List Chg)(hc:ds.any Chg.bad=false)(j:Nat):AnyP ((ds.take j).foldl jcv P) k (n+3 * ds.length):=by
 have q:=AnyP.fold hk (ds.take j) P n h fun c A=>by
  have:=List.any_eq_false.1 hc c (iA A)
  cases e:c.bad with
  | false=>rfl
  | true=>exact absurd e this
 have:(ds.take j).length<=ds.length:=by rw[cQ];omega
 exact⟨q.va,q.sh,q.dp,q.there,by have:=q.cnt;omega⟩
structure NdS(n:jae):Prop where
 path:n.path.size<=12
 value:n.value.size<=80
 valid:jaE n.path=true
theorem jjS.nd{n:jae}(h:jjS n):NdS n:=⟨h.path,h.value,h.valid⟩
theorem jtE:NdS jas:=⟨by decide,by decide,by decide⟩
theorem jq3(h:∃ n,jbd t n):NdS (nodeOf t):=by
 obtain⟨n,e⟩:=h
 obtain⟨_,d,q⟩:=jcc e
 exact (q.one (inlP d)).nd
theorem jvE(hN:jfn S){m:jae}(h:gRef S r=some m):NdS m:=by
 unfold gRef at h;split at h
 ·rw[cM]at h
  obtain⟨y,q,rfl⟩:=h
  exact jq3 (hN y (jaF q).1)
 ·have h:=bP h
  subst h;unfold inlOf
  by_cases hh:∃ m d,InlD d r m
  ·rw[dif_pos hh]
   obtain⟨g,e⟩:=hh.choose_spec
   cases g with
   | zero=>exact e.elim
   | succ g=>exact (e.1.one (inlP g)).nd
  ·rw[dif_neg hh];exact jtE
theorem jkQ{R:jae->Nat->Option (PA × Nat)}{G:vB->Option jae}{rs:vM}{d:Nat}(hG:∀ r m,G r=some m->NdS m)(hR:∀ m l y,NdS m->R m l=some y->VaP y.1/\ShP y.1/\Dp y.1 d/\y.1.isNil=false/\cntP y.1+y.2<=l):∀ (k left:Nat) (x:(Nat->PA) × Nat),je1 R G rs k left=some x->(∀ i,VaP (x.1 i))/\(∀ i,ShP (x.1 i))/\(∀ i,Dp (x.1 i) d)/\sumF (fun i=>cntP (x.1 i)) k+x.2<=left
 | 0,left,x,h=>by
  have h:some ((fun _=>PA.nil),left)=some x:=h;rw[<-bP h]
  exact⟨fun _=>trivial,fun _=>trivial,fun _=>trivial,by show 0+left<=left;omega⟩
 | k+1,left,x,h=>by
  rw[jdM,dO]at h
  obtain⟨y,q,h⟩:=h
  obtain⟨J,K,O,Z⟩:=jkQ hG hR k left y q
  have hz:=readK_nil k left y q
  by_cases h0:(rs.getD k ⟨#[]⟩).size=0
  ·rw[if_pos h0]at h
   rw[<-bP h]
   refine⟨J,K,O,?_⟩
   show sumF _ k+cntP (y.1 k)+y.2<=left;rw[hz k (bL _)];exact Z
  ·rw[if_neg h0,dO]at h
   obtain⟨m,hm,h⟩:=h
   rw[cM]at h
   obtain⟨z,A,e⟩:=h
   obtain⟨j1,j2,j3,_,j4⟩:=hR m y.2 z (hG _ _ hm) A
   rw[<-e];have H:∀ Q:PA->Prop,(∀ i,Q (y.1 i))->Q z.1->∀ i,Q (setK y.1 k z.1 i):=fun Q h1 h2 i=>by
    by_cases e:i=k
    ·rw[e,jcr];exact h2
    ·rw[jd3 _ _ e];exact h1 i
   refine⟨H _ J j1,H _ K j2,H (fun P=>Dp P d) O j3,?_⟩
   show sumF (fun i=>cntP (setK y.1 k z.1 i)) k+cntP (setK y.1 k z.1 k)+z.2<=left;rw[jcr]
   have:=jjJ (f:=fun i=>cntP (y.1 i)) (g:=fun i=>cntP (setK y.1 k z.1 i)) (c:=cntP z.1) (j:=k) (fun i e=>by show cntP (setK y.1 k z.1 i)<=_;rw[jd3 _ _ e];exact bL _) (by show cntP (setK y.1 k z.1 k)<=_;rw[jcr];omega) k
   rw[if_neg (Nat.lt_irrefl k)]at this;omega
where
 readK_nil:∀ (k left:Nat) (x:(Nat->PA) × Nat),je1 R G rs k left=some x->∀ i,k<=i->x.1 i=.nil
 | 0,left,x,h=>by
  have h:some ((fun _=>PA.nil),left)=some x:=h;rw[<-bP h];exact fun _ _=>rfl
 | k+1,left,x,h=>by
  rw[jdM,dO]at h
  obtain⟨y,q,h⟩:=h
  have X:=readK_nil k left y q;intro i hi
  by_cases h0:(rs.getD k ⟨#[]⟩).size=0
  ·rw[if_pos h0]at h
   rw[<-bP h];exact X i vO
  ·rw[if_neg h0,dO]at h
   obtain⟨m,_,h⟩:=h
   rw[cM]at h
   obtain⟨z,_,e⟩:=h
   rw[<-e];show setK y.1 k z.1 i=.nil;rw[jd3 _ _ vO];exact X i vO
theorem jhN{G:vB->Option jae}(hG:∀ r m,G r=some m->NdS m):∀ (f:Nat) (n:jae) (left:Nat) (y:PA × Nat),NdS n->jbY G f n left=some y->VaP y.1/\ShP y.1/\Dp y.1 (12 * f)/\y.1.isNil=false/\cntP y.1+y.2<=left
 | 0,_,_,_,_,h=>by cases h
 | f+1,n,left,y,hn,h=>by
  have K:=hn.path;rw[jgr]at h
  by_cases h0:left=0
  ·rw[if_pos h0]at h;cases h
  rw[if_neg h0]at h
  by_cases h1:n.kind=1
  ·rw[if_pos h1]at h
   rw[<-bP h]
   exact⟨hn.valid,hn.value,by show n.path.size<=_;omega,rfl,by show 1+(left - 1)<=left;omega⟩
  rw[if_neg h1]at h
  by_cases h2:n.kind=2
  ·rw[if_pos h2,dO]at h
   obtain⟨m,q,h⟩:=h
   rw[cM]at h
   obtain⟨z,O,e⟩:=h
   obtain⟨A,H,J,_,X⟩:=jhN hG f m (left - 1) z (hG _ _ q) O
   rw[<-e]
   exact⟨⟨hn.valid,A⟩,H,⟨by omega,jbt _ _ _ J vO⟩,rfl,by show 1+cntP z.1+z.2<=left;omega⟩
  rw[if_neg h2]at h
  by_cases h3:n.kind=3
  ·rw[if_pos h3,cM]at h
   obtain⟨x,Z,e⟩:=h
   obtain⟨A,H,J,X⟩:=jkQ hG (fun m l y q hy=>jhN hG f m l y q hy) 16 (left - 1) x Z
   rw[<-e]
   exact⟨A,⟨hn.value,H⟩,fun i _=>⟨by omega,jbt _ _ _ (J i) vO⟩,rfl,by show 1+sumF (fun i=>cntP (x.1 i)) 16+x.2<=left;omega⟩
  ·rw[if_neg h3]at h
   rw[<-bP h]
   exact⟨trivial,trivial,trivial,rfl,by show 1+(left - 1)<=left;omega⟩
theorem jrm(hN:jfn S){P:PA}{k:Nat}(h:readR S root=some (P,k)):AnyP P 2000 160:=by
 unfold readR at h;rw[dO]at h
 obtain⟨m,q,h⟩:=h
 unfold gHash at q;rw[cM]at q
 obtain⟨y,A,rfl⟩:=q
 obtain⟨H,J,K,O,X⟩:=jhN (fun r m e=>jvE hN e) 160 _ 160 _ (jq3 (hN y (jaF A).1)) h
 exact⟨H,J,jbt _ _ _ K vO,O,by have:cntP P+k<=160:=X;omega⟩
end
