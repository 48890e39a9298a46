/- Lemmas. -/
import Derived.Test.YtgppadbgofalpaaGreatDoorPa0
import Derived.Test.YtgppadbgofalpaaGreatDoorPa23
namespace Go.Proofs.YtgppadbgofalpaaGreatDoor
open Tryz
set_option linter.unusedSimpArgs false
set_option linter.unusedVariables false
set_option maxRecDepth 100000
set_option maxHeartbeats 16000000
variable (args:Array vV)(c:Nat)(w:vW)(window:Int){K:Act->vW->Prop}{ad ad2:Addr}{tmps:Array vV}{F:Bf}{e:Ending}{x:Ce Int}{Q:Exit->Act->vW->Prop}{fn:Func}{room bk:Int}{k:El}{es e1 es' sn:List (Ce Int)}{X:List VX}{l Y:List Au}{old vs xs:List vV}{M M':Cn}{win b s bm T B n i next sz by' g z p c' cap cb a sb ck f rm:Nat}{D E:Nat->Prop}{y:Gd}{o:Oper}{P:Program}{t root top r:vB}{m:vL}{L R U:vM}{S G S0 S' S1 S2:vT}{v:vV}{w0 w' W W' W'':vW}
section
open Go Go.RowKit
theorem RE{α:Type}{l:List α}{x:α}(h:l[i]?=some x):l.take (i+1)=l.take i++[x]/\l.drop i=x::l.drop (i+1):=by
 obtain⟨e,q⟩:=bI.1 h
 exact⟨by rw[cA,h];rfl,by rw[<-q];exact gT e⟩
theorem jpX{x:Au}(h:l[i]?=some x)(hk:i+1=l.length\/Qb win next x=true):l.take (i+1)++Hy win next (l.drop (i+1))=l.take i++Hy win next (l.drop i):=by
 obtain⟨q,A⟩:=RE h
 rw[q,A,bZ]
 congr 1
 by_cases hd:l.drop (i+1)=[]
 ·rw[hd];rfl
 ·rw[DH hd];have:Qb win next x=true:=hk.resolve_left fun e=>hd (by rw[e];exact gB);rw[if_pos this];rfl
theorem jpY{x:Au}(h:l[i]?=some x)(hY:Y=l.take (i+1)++Hy win next (l.drop (i+1)))(hi:i+1≠l.length)(hk:Qb win next x=false):Y.take i++Y.drop (i+1)=l.take i++Hy win next (l.drop i):=by
 obtain⟨H,J⟩:=RE h
 have Z:=(bI.1 h).1;have K:l.drop (i+1)≠[]:=fun e=>by have:=congrArg List.length e;rw[gP]at this;have:l.length-(i+1)=0:=this;omega
 have A:(l.take (i+1)).length=i+1:=by rw[cV];omega
 have q:(l.take i).length=i:=by rw[cV];omega
 have O:Y.drop (i+1)=Hy win next (l.drop (i+1)):=by rw[hY];exact List.drop_left' A
 have X:Y.take i=l.take i:=by rw[hY,H,bZ];exact List.take_left' q
 rw[O,X,J,DH K,if_neg (by rw[hk];simp)]
theorem jrN{x:Au}(h:l[i]?=some x)(hY:Y=l.take (i+1)++Hy win next (l.drop (i+1))):Y[i]?=some x/\(i+1=Y.length↔i+1=l.length)/\i+1<=Y.length:=by
 obtain⟨H,K⟩:=RE h
 have O:=(bI.1 h).1;have q:(l.take (i+1)).length=i+1:=by rw[cV];omega
 have A:Y.length=i+1+(Hy win next (l.drop (i+1))).length:=by rw[hY,bK,q]
 refine⟨by rw[hY,H,bZ,cO (by rw[cV];omega),show i-(l.take i).length=0 by rw[cV];omega];rfl,⟨fun e=>?_,fun e=>?_⟩,by omega⟩
 ·by_cases hd:l.drop (i+1)=[];{have:=congrArg List.length hd;rw[gP]at this;have:l.length-(i+1)=0:=this;omega};have:=NI (win:=win) (next:=next) hd;have J:(Hy win next (l.drop (i+1))).length=0:=vO;exact absurd (bH J) this
 ·(have:Hy win next (l.drop (i+1))=[]:=by rw[e,gB];rfl);rw[A,this];rfl
theorem aI{t T:TypeId}(I:Me P t T sz by'){w:vW}{a:Act}{m c:Nat}{olds news:List vV}(s x:Operand)(hs:a.eval s=.slice (some ad) n n)(hx:a.eval x=.slice (some ad2) m c)
  (h1:∀ j u,olds[j]?=some u->w.cell? (ad.add j)=some u) (h2:∀ j u,news[j]?=some u->w.cell? (ad2.add j)=some u) (hlo:olds.length=n*sz) (hl:news.length=m*sz) (hm:0<m)
  (ho:o.op=Op.call { callee:=Callee.builtin Builtin.append,args:=#[s,x],argTypes:=#[t,t] }) (h63:n+m<=1000000) (hby:by'<=1000)
  (h:∀ A w',w'.ownsRow w.heap.size T sz A (n+m) (olds++news)->Af w w'->K (a.put o.dst A) w'):o.wp P a w K Q:=by
 obtain⟨i,z,O,X,Z,e4,e5⟩:=I.hi
 have H:n+m<=maxLen:=by unfold maxLen;omega
 have J:(n+m)*by'<=140737488355328:=bF (Nat.mul_le_mul h63 hby) vI
 obtain⟨A,w',q,r1,r2⟩:=run_append_arg_grows (P:=P) w t o.type T i z sz by' I.ht O X Z e4 e5 I.hsz ad n n olds hlo h1 ad2 m c news hl h2 vO H J
 unfold Oper.wp;simp[execOp,ho,resolve,invoke,builtin,hs,hx,q,Result.andThen];exact h A w' r1 (Ad.of_grown r2 (fun r e _=>by cases e))
def Tq(D:Nat->Prop)(w:vW)(b o c:Nat)(X:List VX):Prop:=X.length<=c/\b<w.heap.size/\D b/\∀ j u,(Hq X)[j]?=some u->w.cell? ⟨b,o+j,none⟩=some u
theorem Tq.keeps{w:vW}{b o c:Nat}(h:Tq D w b o c X)(k:Ad F w w')(hF:∀ b,D b->¬ F b)(hE:∀ b,D b->E b):Tq E w' b o c X:=
 ⟨h.1,bE h.2.1 k.size,hE b h.2.2.1,fun j u e=>Dw (h.2.2.2 j u e) k (hF b h.2.2.1)⟩
theorem xU{w:vW}(h:Cz D w v l)(hl:l≠[]):∃ X b o c,v=.slice (some ⟨b,o,none⟩) l.length c/\X.map VX.v=l/\CK D w X/\Tq D w b o c X:=by
 obtain⟨X,A,H,J⟩:=h.g
 rcases h with⟨_,_,_,e⟩|⟨b,o,c,e1,e2,e3,e4,_⟩
 ·exact absurd e hl
 ·rcases J.at' with⟨_,_,_,e⟩|⟨b',o',c',k1,k2⟩;{exact absurd (bH e) hl};rw[e1]at k1;obtain⟨q,_,K⟩:=dH k1;have q:=bV q;injection q with q1 q2 _;subst q1 q2;exact⟨X,b,o,c,e1,A,H,by rw[show X.length=l.length by rw[<-A,bU]];exact e4,e3,e2,k2⟩
theorem OU{w:vW}{o c:Nat}(h:Tq D w b o c X)(hH:CK D w X):Cz D w (.slice (some ⟨b,o,none⟩) X.length c) (X.map VX.v):=by
 refine .inr ⟨b,o,c,by rw[bU],h.2.2.1,h.2.1,by rw[bU];exact h.1,fun j x q=>?_⟩;rw[bY,dG]at q
 obtain⟨y,A,rfl⟩:=q
 obtain⟨H,J⟩:=hH y (bD A)
 have e:∀ i u,i<4->y.cells[i]?=some u->w.cell? ⟨b,o+j*4+i,none⟩=some u:=fun i u K O=>by rw[show o+j*4+i=o+(j*4+i) by omega];exact h.2.2.2 _ u (by rw[JH X j y A i K];exact O)
 exact⟨e 0 _ vI rfl,⟨_,e 1 _ vI rfl,H⟩,⟨_,e 2 _ vI rfl,J⟩,e 3 _ vI rfl⟩
def DD(w:vW)(D:Nat->Prop)(wr:vW):Nat->Prop:=fun b=>D b\/(w.heap.size+2<=b/\b<wr.heap.size)
theorem DD.mono{w wr ws:vW}(h:wr.heap.size<=ws.heap.size):∀ b,DD w D wr b->DD w D ws b:=fun b hb=>hb.imp id fun ⟨e,q⟩=>⟨e,by omega⟩
def tI(w:vW)(D:Nat->Prop)(M:Cn)(iv:vV)(wr:vW):Prop:=∃ (k:Nat) (X:List VX) (b o c:Nat),k<=M.all.length/\iv=.int .i64 ((k:Int)-1)/\X.map VX.v=M.all.take k++Hy M.win M.next (M.all.drop k) /\
 Ae wr w.heap.size (.cells #[.int .i64 (M.win:Int),.int .i64 (M.next:Int),.slice (some ⟨b,o,none⟩) X.length c] 70)/\Ae wr (w.heap.size+1) (.cells #[.int .i64 0,.int .i64 0,.slice none 0 0] 70) /\
 Af w wr/\w.heap.size+2<=wr.heap.size/\Tq (DD w D wr) wr b o c X/\CK (DD w D wr) wr X
theorem lI(D:Nat->Prop)(hD:∀ b,D b->b<w.heap.size)(M:Cn)(av:vV)(hv:Cz D w av M.all)(hne:M.all≠[])(hw:M.win<=8)(hnx:M.next<=2000000)(hl:M.all.length<=1000)(hbp:∀ x∈M.all,x.block<=2000000/\x.pins<=2000000) :
  vQ 80 #[Il M av] w fun e w'=>∃ av',e=.returned (Il ⟨M.win,M.next,Hy M.win M.next M.all⟩ av')/\Af w w'/\Cz (DD w D w') w' av' (Hy M.win M.next M.all):=by
 obtain⟨X0,b0,o0,c0,rfl,a8,a9,b1⟩:=xU hv hne
 obtain⟨n,b4⟩:=vE M.all.length
 rw[<-b4];have HN:=Hd b4;have HD:=Hd hD;have H0:=Hd (bA a8 (bA a9 b1));have HB:=Hd hbp;have HW:=Hd (bA hw (bA hnx hl));have d9:=Pt (x:=(n:Int)-1) vO vO;unfold Il;clear hv a8 a9 b1 b4 hD hbp hne hw hnx hl;unfold vQ;go_in;go_wp2_with fail
 go_loopw [3] (fun iv wr=>tI w D M iv wr) (fun iv _=>(intOf iv+1).toNat)
 case atStart =>obtain⟨a8,a9,b1⟩:=H0.o;(have hE:=((Aa w).alloc (.cells #[.int .i64 (M.win:Int),.int .i64 (M.next:Int),.slice (some ⟨b0,o0,none⟩) n c0] 70)).alloc (.cells #[.int .i64 0,.int .i64 0,.slice none 0 0] 70);have J:X0.length=n:=by rw[HN.o, <-a8,bU]);refine⟨n,X0,b0,o0,c0,Nat.le_of_eq HN.o,rfl,?_,?_,by have:=Ae.new (w.alloc (.cells #[.int .i64 (M.win:Int),.int .i64 (M.next:Int),.slice (some ⟨b0,o0,none⟩) n c0] 70)) (.cells #[.int .i64 0,.int .i64 0,.slice none 0 0] 70);rwa [show (w.alloc (.cells #[.int .i64 (M.win:Int),.int .i64 (M.next:Int),.slice (some ⟨b0,o0,none⟩) n c0] 70)).heap.size=w.heap.size+1 from gH _]at this,hE,Nat.le_of_eq (by show _=(Array.push _ _).size;rw[gH];show _=(Array.push _ _).size+1;rw[gH]),b1.keeps hE (fun _ _ e=>e) (fun _ h=>.inl h),?_⟩;{rw[a8,HN.o,cD,gB];simp[Hy]};{rw[J];exact (Ae.new w _).alloc _};exact fun x hx=>⟨((a9 x hx).1.keeps hE (fun _ _ e=>e)).mono (fun _ h=>.inl h),((a9 x hx).2.keeps hE (fun _ _ e=>e)).mono (fun _ h=>.inl h)⟩
 case round =>obtain⟨k,X,b,o,c,hk,rfl,hX,A,a1,hE,a4,hL,hH⟩:=hrel;have a5:=Hd (bA hX (bA hL (bA hH (bA hE (bA A (bA a1 a4))))));have m0:=A.cell (i:=0) rfl;have m1:=A.cell (i:=1) rfl;have m2:=A.cell (i:=2) rfl;cases k with| zero =>(have e0:((0:Nat):Int)-1 = -1:=by decide);(rw[e0];clear hX hL hH hE A a1 a4 hk;have d3:=Hd a5.o.2.2.2.2.2.1;go_wp2_with (refine Bv (vs:=[.int .i64 (M.win:Int),.int .i64 (M.next:Int),.slice (some ⟨b,o,none⟩) X.length c]) rfl rfl rfl rfl d3.o rfl Ao (by simp[Value.oneCell']) ?_;intro W8 d4 b5));refine bodyPost_ret (Zd rfl rfl (Uy W8 (w.heap.size+1) 0 [.int .i64 (M.win:Int),.int .i64 (M.next:Int),.slice (some ⟨b,o,none⟩) X.length c] rfl (fun j v hv=>by rw[bX];exact d4.cellL hv))) rfl ?_;obtain⟨hX,hL,hH,hE,_,_,a4⟩:=a5.o;(have d5:X.map VX.v=Hy M.win M.next M.all:=by rw[hX];rfl);have hF:∀ b,DD w D wr b->¬ b=w.heap.size+1:=fun b hb e=>hb.elim (fun h=>by have:=HD.o b h;omega) (fun h=>by omega);have hs:=b5.size;refine⟨.slice (some ⟨b,o,none⟩) X.length c,rfl,hE.trans' b5 (fun x hx e=>by have e:x=w.heap.size+1:=e;omega),?_⟩;have hv:=(OU hL hH).keeps b5 hF;rw[d5]at hv;exact hv.mono (DD.mono hs)| succ i =>have e0:((i+1:Nat):Int)-1=(i:Int):=vO;rw[e0];obtain⟨x,hx⟩:∃ x,M.all[i]?=some x:=⟨_,bB vO⟩;obtain⟨hy,a2,b6⟩:=jrN hx hX;(have J:(X.map VX.v).length=X.length:=bU _;have a0:X.length<=1000:=by have h1:=congrArg List.length hX;rw[J,bK,cV, ]at h1;have h2:=(AL (win:=M.win) (next:=M.next) (l:=M.all.drop (i+1))).length_le;rw[gP]at h2;have:=HW.o.2.2;have:=HN.o;omega);(have b7:=Hd (rO wr (DD w D wr) ⟨M.win,M.next,X.map VX.v⟩ (some ⟨b,o,none⟩) c (by have:=OU hL hH;rw[J];exact this) i x hy (by rw[J];omega) HW.o.1 HW.o.2.1 (HB.o x (bD hx)).1 (HB.o x (bD hx)).2);have b7:Hid (vR 132 #[.agg #[.int .i64 (M.win:Int),.int .i64 (M.next:Int),.slice (some ⟨b,o,none⟩) X.length c],.int .i64 (i:Int)] wr (.bool (decide (i+1=X.length) || Qb M.win M.next x))):=Hd (by have:=b7.o;rw[J]at this;exact this);have q:=Hd (bA hx (bA hy (bA a2 (bA b6 (bA J a0)))));clear A a1 hX hL hH hE hx hy a2 b6 J a0;go_wp2_with fail);refine b7.o.mono ?_;rintro e w2 ⟨rfl,c2⟩;have H:=Hd c2;clear m0 m1 m2 c2;by_cases hkp:i+1=X.length\/Qb M.win M.next x=true;{(have e1:(decide (i+1=X.length) || Qb M.win M.next x)=true:=by rcases hkp with h|h;{rw[decide_eq_true h];rfl};rw[h,Bool.or_true]);(rw[e1];have a7:=Hd hkp;clear e1 hkp;go_wp2_with fail);(have ew:Go.RowKit.wrap64 ((i:Int)-1)=(i:Int)-1:=by have:=q.o.2.2.2;unfold Go.RowKit.wrap64;omega);rw[ew];go_roundw;{obtain⟨hX,hL,hH,hE,A,a1,a4⟩:=a5.o;have hs:=H.o.size;refine⟨i,X,b,o,c,by omega,rfl,?_,A.keeps H.o (fun h=>h),a1.keeps H.o (fun h=>h),hE.trans H.o,by omega,hL.keeps H.o (fun _ _ e=>e) (DD.mono hs),fun y hy=>⟨((hH y hy).1.keeps H.o (fun _ _ e=>e)).mono (DD.mono hs),((hH y hy).2.keeps H.o (fun _ _ e=>e)).mono (DD.mono hs)⟩⟩;rw[hX];exact jpX q.o.1 (a7.o.imp (fun e=>q.o.2.2.1.1 (by rw[q.o.2.2.2.2.1];exact e)) id)};show ((i:Int)-1+1).toNat<((i:Int)+1).toNat;omega};(have e1:(decide (i+1=X.length) || Qb M.win M.next x)=false:=by rw[decide_eq_false (fun h=>hkp (.inl h)),dO.2 (fun h=>hkp (.inr h))];rfl);(rw[e1];have a7:=Hd hkp;clear e1 hkp;go_wp2_with fail);obtain⟨hX,hL,hH,hE,A,a1,a4⟩:=a5.o;(have A:=A.keeps H.o (fun h=>h);have M2:=Hd (A.cell (i:=2) (v:=.slice (some ⟨b,o,none⟩) X.length c) rfl);have s1:(i:Int)<=(c:Int):=by have:=hL.1;have:=q.o.2.2.2;omega);(have s2:(i:Int)+1<=(X.length:Int):=by have:=q.o.2.2.2;omega);(have s3:(X.length:Int)<=(c:Int):=by have:=hL.1;omega);have s4:=Pt (x:=(i:Int)+1) vO (by have:=q.o.2.2.2;omega);clear hX hL hH hE A a1 a4;refine BU [0,1,2,3,4,5,6,7,8,9,10,11] 12 [10] Af Af Aa Aq Aq (fun x y h=>h) vY vY vY ?_;refine vZ ?_;(refine Ww ⟨w.heap.size,2,none⟩ _ rfl (fun w1 h1=>Dt (fun w=>by kernel_rfl) (Am M2.o (((Aa w2).drew).trans h1))) ?_;refine vS ?_;iterate 3 refine vZ ?_);refine vZ ?_;(refine Ww ⟨w.heap.size,2,none⟩ _ rfl (fun w1 h1=>Dt (fun w=>by kernel_rfl) (Am M2.o (((Aa w2).drew).trans h1))) ?_;refine vS ?_;iterate 3 refine vZ ?_);(refine Zf _ rfl vY rfl (fun wb hb K hK=>?_);have kb:Af w2 wb:=(Ap _).trans hb;have b2:=a5.o.2.1.keeps (H.o.trans kb) (fun _ _ e=>e) (DD.mono (H.o.trans kb).size);have c3:¬ c=i+1:=by rcases q.o.2.2.2 with⟨h1,h2,h3⟩;have:=b2.1;intro e;exact a7.o (.inl vO));(have c4:(X.take i).length=i:=by rw[cV];have:=q.o.2.2.2;omega);have c5:(X.drop (i+1)).length=X.length-(i+1):=gP;refine aI Nx (olds:=Hq (X.take i)) (news:=Hq (X.drop (i+1))) (ad:=⟨b,o,none⟩) (ad2:=⟨b,o+(i+1)*4,none⟩) (n:=i) (m:=X.length-(i+1)) (c:=c-(i+1)) _ _ rfl (by show Value.slice (if c=i+1 then _ else _) _ _=_;rw[if_neg c3]) (fun j u hu=>?_) (fun j u hu=>?_) (by rw[Zi,c4]) (by rw[Zi,c5]) (by have:=q.o.2.2.2;have:¬ i+1=X.length:=fun e=>a7.o (.inl e);omega) rfl (by have:=q.o.2.2.2;omega) vI (fun v' w' r1 r2=>?_);{rw[Go.WideShapes.add_plain];refine b2.2.2.2 j u ?_;rw[<-dB i X,FB];rw[cN (bI.1 hu).1];exact hu};{rw[Go.WideShapes.add_plain,show o+(i+1)*4+j=o+((i+1)*4+j) by omega];refine b2.2.2.2 _ u ?_;rw[<-dB (i+1) X,FB,cO (by rw[Zi,cV];have:=q.o.2.2.2;omega)];rw[show (i+1)*4+j-(Hq (X.take (i+1))).length=j by rw[Zi,cV];have:=q.o.2.2.2;omega];exact hu};refine hK _ _ r2 ?_;have HS:=Hd (bA kb (bA r1 r2));clear hK K hb kb r1 r2 b2 c3 c4 c5;refine vS ?_;refine vZ ?_;refine CE _ rfl vY rfl (fun wc hc K hK=>?_);obtain⟨kb,r1,r2⟩:=HS.o;have kc:=(H.o.trans (kb.trans (r2.trans hc)));have b8:=(a5.o.2.2.2.2.1).keeps kc (fun h=>h);have q7:=b8.cell (i:=2) (v:=.slice (some ⟨b,o,none⟩) X.length c) rfl;have f7:wc.frozen? ⟨w.heap.size,2,none⟩=false:=b8.frozen;have d6:=Hd (bA kc hc);have d7:=q.o.2.2.2;(obtain⟨g,O,c7,a3,b9,b3⟩:∃ g O,v'=.slice (some ⟨g,0,none⟩) (i+(X.length-(i+1))) O/\i+(X.length-(i+1))<=O/\wb.heap.size<=g/\g<w'.heap.size:=by obtain⟨e5,⟨_,h0⟩|⟨g,O,e6,e,hg,d8,h5,_⟩⟩:=r1;{have:¬ i+1=X.length:=fun e=>a7.o (.inl e);omega};exact⟨g,O,e,h5,hg,(dD.1 d8).1⟩);have HG:=Hd (bA a3 (bA b9 b3));obtain⟨nl,c1⟩:=vE (i+(X.length-(i+1)));(rw[<-c1]at c7;have c8:=Hd c1;have e2:=Hd r1;subst c7;clear kb r1 r2 kc b8 d7 a3 b9 b3 c1 hc;go_simp;refine hK _ _ ?_;clear hK K q7 f7;go_wp2_with fail);(have ew:Go.RowKit.wrap64 ((i:Int)-1)=(i:Int)-1:=by have:=q.o.2.2.2;unfold Go.RowKit.wrap64;omega);rw[ew];go_roundw;{obtain⟨hX,hL,hH,hE,A,a1,a4⟩:=a5.o;obtain⟨hx,hy,a2,b6,J,_⟩:=q.o;obtain⟨kc,hc⟩:=d6.o;obtain⟨kb,_,r2⟩:=HS.o;obtain⟨a3,b9,b3⟩:=HG.o;(have Z:=Ad.oneSet wc ⟨w.heap.size,2,none⟩ (.slice (some ⟨g,0,none⟩) nl O);have e7:w.heap.size+2<=wb.heap.size:=by have:=(H.o.trans kb).size;omega);have e3:g≠w.heap.size:=vO;(have c9:wr.heap.size<=(wc.setCell ⟨w.heap.size,2,none⟩ (.slice (some ⟨g,0,none⟩) nl O)).heap.size:=bF kc.size Z.size;have d0:g<(wc.setCell ⟨w.heap.size,2,none⟩ (.slice (some ⟨g,0,none⟩) nl O)).heap.size:=bE b3 (bF hc.size Z.size);have d1:(X.take i++X.drop (i+1)).length=nl:=by rw[c8.o,bK,cV,gP];omega);have d2:∀ z,DD w D wr z->¬ z=w.heap.size:=fun z hz e=>hz.elim (fun h=>by have:=HD.o z h;omega) (fun h=>by omega);refine⟨i,X.take i++X.drop (i+1),g,0,O,by omega,rfl,?_,?_,?_,?_,by omega,⟨?_,d0,.inr ⟨by omega,d0⟩,fun j u hu=>?_⟩,fun y hy=>?_⟩;{rw[bW,jJ,List.map_drop];exact jpY hx hX (fun e=>a7.o (.inl (by rw[<-J];exact a2.2 e))) (dO.2 fun h=>a7.o (.inr h))};{rw[d1];exact (A.keeps kc (fun h=>h)).set_same (i:=2) (.slice (some ⟨g,0,none⟩) nl O)};{exact (a1.keeps kc (fun h=>h)).set_other (p:=⟨w.heap.size,2,none⟩) (by show w.heap.size+1≠w.heap.size;omega) _};{exact (hE.trans kc).trans' Z (fun x hx e=>by have e:x=w.heap.size:=e;omega)};{rw[d1,c8.o];exact a3};{have:=World.ownsRow.cells e2.o rfl j u (by rw[<-FB];exact hu);rw[Go.WideShapes.add_plain]at this;exact Dw (Am this hc) Z e3};(have e4:y∈X:=by rcases bR.1 hy with h|h;{exact iK h};exact List.mem_of_mem_drop h);obtain⟨k1,k2⟩:=hH y e4;exact⟨((k1.keeps kc (fun _ _ e=>e)).keeps Z d2).mono (DD.mono c9),((k2.keeps kc (fun _ _ e=>e)).keeps Z d2).mono (DD.mono c9)⟩};show ((i:Int)-1+1).toNat<((i:Int)+1).toNat;omega
theorem jvY:((Jj window).win:Int)=min (max window 1) 8:=by
 show ((min (max window 1) 8).toNat:Int)=_;omega
theorem uI:vQ 25 #[.int .i64 window] w fun e w'=>∃ av,e=.returned (Il (Jj window) av)/\Af w w'/\Cz (Fo w w') w' av (Jj window).all:=by
 have HW:=Hd (jvY window)
 obtain⟨R,O⟩:=vE (Jj window)
 have HR:=Hd O;rw[<-O];clear O;unfold vQ;go_in;go_wp2_with (first|(refine Di Co rfl rfl ?_;intro A H J)|(refine Bv (vs:=[.int .i64 (min (max window 1) 8),.int .i64 1,.slice (some ⟨A.heap.size,0,none⟩) 1 1]) rfl rfl rfl rfl (H.alloc _) rfl Ao (by simp[Value.oneCell']) ?_;intro W8 X K))
 refine bodyPost_ret (Zd rfl rfl (Uy W8 w.heap.size 0 [.int .i64 (min (max window 1) 8),.int .i64 1,.slice (some ⟨A.heap.size,0,none⟩) 1 1] rfl (fun j v hv=>by rw[bX];exact X.cellL hv))) rfl ?_;have hn:=Ae.new A (.cells #[.int .i64 0,.slice none 0 0,.slice none 0 0,.int .i64 0] 91);have h1:=H.lt;have q:=hn.keeps K vO;have hE:Af w W8:=(J.alloc _).trans' K kJ
 refine⟨.slice (some ⟨A.heap.size,0,none⟩) 1 1,?_,hE,?_⟩
 ·unfold Il;rw[HR.o,HW.o];rfl
 ·rw[HR.o];refine .inr ⟨A.heap.size,0,1,rfl,⟨kL J.size,q.lt⟩,q.lt,bP _,fun j x Z=>?_⟩;(have:j=0:=by have:=(bI.1 Z).1;have:j<1:=this;omega);subst this;have e:(⟨0,[],[],0⟩:Au)=x:=bV Z;subst e;exact⟨q.cell (i:=0) rfl,⟨.slice none 0 0,q.cell (i:=1) rfl,.inl ⟨none,0,rfl,rfl⟩,fun b e=>by cases e⟩,⟨.slice none 0 0,q.cell (i:=2) rfl,.inl ⟨none,0,rfl,rfl⟩,fun b e=>by cases e⟩,q.cell (i:=3) rfl⟩
theorem Mt:(Instr.alloc 156 true (.tuple #[])).run prog w=.ok (.pointer (some ⟨w.heap.size,0,none⟩)) (w.alloc (.cells [Value.int .i64 0,.slice none 0 0,.slice none 0 0,.int .i64 0,.slice none 0 0].toArray 156)):=vY
theorem Qu:(prog.info? 156).map (·.size)=some 5:=vY
structure MB(w:World)(T:Nat)(W:World)(g:Nat)(X:List VX):Prop where
 lo:w.heap.size+2<=g
 gt:g<T
 tw:T<=W.heap.size
 blk:Ae W g (.cells (Hq X).toArray 91)
 hold:CK (fun b=>w.heap.size+2<=b/\b<T/\b≠g) W X
 ext:Af w W
theorem MB.keeps{w:vW}(h:MB w T W g X)(k:Ad F W W')(hF:∀ b,w.heap.size+2<=b->b<T->¬ F b)(hF':∀ b,b<w.heap.size->¬ F b):MB w T W' g X:=
 ⟨h.lo,h.gt,bF h.tw k.size,h.blk.keeps k (hF g h.lo h.gt),fun x q=>⟨(h.hold x q).1.keeps k fun b hb=>hF b hb.1 hb.2.1,(h.hold x q).2.keeps k fun b hb=>hF b hb.1 hb.2.1⟩,h.ext.trans' k fun x q e=>hF' x q e⟩
theorem MB.more{w:vW}(h:MB w T W g X)(k:Af W W'):MB w T W' g X:=h.keeps k (fun _ _ _ e=>e) fun _ _ e=>e
theorem MB.side{w:vW}(h:MB w T W g X)(k:Ad F W W')(hF:∀ b,F b->b=w.heap.size\/b=w.heap.size+1\/T<=b):MB w T W' g X:=
 h.keeps k (fun b q A e=>by rcases hF b e with h|h|h<;>omega) fun b q e=>by have:=h.lo;have:=h.gt;rcases hF b e with h|h|h<;>omega
theorem MB.vrow{w:vW}(h:MB w T W g X):Cz (fun b=>w.heap.size+2<=b/\b<T) W (.slice (some ⟨g,0,none⟩) X.length X.length) (X.map VX.v):=by
 refine OU ⟨bP _,h.blk.lt,⟨h.lo,h.gt⟩,fun j u q=>by rw[bX];exact h.blk.cellL q⟩ fun x e=>⟨(h.hold x e).1.mono fun b hb=>⟨hb.1,hb.2.1⟩,(h.hold x e).2.mono fun b hb=>⟨hb.1,hb.2.1⟩⟩
theorem MB.news{w:vW}(h:MB w T W g X)(hn:X.length=n)(hl:X.map VX.v=l):Cz (Fo w W) W (.slice (some ⟨g,0,none⟩) n n) l:=by
 subst hn hl;exact h.vrow.mono fun b hb=>⟨by omega,bE hb.2 h.tw⟩
theorem MB.start{w w1 w2 W3:vW}(h:IL w1 w2 g X)(hE:Af w w1)(hs:w.heap.size+1<w1.heap.size)(k:Ad (fun z=>z=w.heap.size) w2 W3):MB w w2.heap.size W3 g X:=by
 have J:=h.new;have q:∀ b,w1.heap.size<=b->¬ b=w.heap.size:=fun b hb e=>by omega
 refine⟨by omega,h.blk.lt,k.size,h.blk.keeps k (q g J),fun x A=>?_,(hE.trans h.ext).trans' k kJ⟩
 obtain⟨K,O⟩:=h.hold x A
 have H:∀ b,Fo w1 w2 b/\b≠g->w.heap.size+2<=b/\b<w2.heap.size/\b≠g:=fun b hb=>⟨kL hb.1.1,hb.1.2,hb.2⟩
 exact⟨(K.keeps k fun b hb=>q b hb.1.1).mono H,(O.keeps k fun b hb=>q b hb.1.1).mono H⟩
theorem Zc{t u y:Tmp}{ty:TypeId}(h:fn.results=#[.cell t ty,.tmp u,.tmp y]){a:Addr}(ha:tmps.getD t undef=.pointer (some a)){w:vW}{x z:vV}(hx:tmps.getD u undef=x)(hz:tmps.getD y undef=z)(hl:(loadVar ty a).run P w=.ok v w):(results fn tmps).run P w=.ok (.tuple #[v,x,z]) w:=by
 have e:tmps[t]?.getD undef=.pointer (some a):=by simpa using ha
 have q:tmps[u]?.getD undef=x:=by simpa using hx
 have A:tmps[y]?.getD undef=z:=by simpa using hz
 simp[results,h,e,q,A,asAddr,bQ,Result.andThen,hl]
theorem DQ{t u:Tmp}{ty:TypeId}(h:fn.results=#[.cell t ty,.tmp u]){a:Addr}(ha:tmps.getD t undef=.pointer (some a)){w:vW}{x:vV}(hx:tmps.getD u undef=x)(hl:(loadVar ty a).run P w=.ok v w):(results fn tmps).run P w=.ok (.tuple #[v,x]) w:=by
 have e:tmps[t]?.getD undef=.pointer (some a):=by simpa using ha
 have q:tmps[u]?.getD undef=x:=by simpa using hx
 simp[results,h,e,q,asAddr,bQ,Result.andThen,hl]
theorem Ew.newV{lv:Au}(h:M.all[M.all.length-1]?=some lv):Hw M=lv:=by
 unfold Hw;rw[iP,h];rfl
theorem Ma:(callFunc 80 args).run prog w=.ok (.enter 80 args) w:=vY
def LH(M:Cn)(av:vV):List vV:=[.int .i64 (M.win:Int),.int .i64 (M.next:Int),av]
theorem jrS(D:Nat->Prop)(M:Cn)(av:vV)(hv:Cz D w av M.all)(hM:Ew M)(hl:M.all.length<=900)(u:vV)(cs:List Bk)(hu:Jb w u cs)(hnc:cs.length<=1000)(n8:∀ c∈cs,c.key.size<=1000/\c.value.size<=1000):vQ 36 #[Il M av,u] w fun e w'=>∃ j6,e=.returned (.tuple #[Il (Gu M cs).1 j6,.int .i64 ((Gu M cs).2.1:Int),.int .i64 (Gu M cs).2.2])/\Af w w'/\Cz (Fo w w') w' j6 (Gu M cs).1.all:=by
 obtain⟨a0,c0,rfl⟩:=hv.sl
 have HV:=Hd (bA hv (bA hM (bA hl (bA hu (bA hnc n8)))))
 obtain⟨R,hR⟩:=vE (Gu M cs)
 have HR:=Hd hR;rw[<-hR];unfold Il
 obtain⟨n,k7⟩:=vE M.all.length
 rw[<-k7];have HN:=Hd k7;have s4:n≠0:=by rw[k7];exact fun e=>hM.ne (bH e)
 have w4:n<=900:=by rw[k7];exact hl
 clear hv hR hM hl hu hnc n8 k7;unfold vQ;go_in;go_wp2_with fail
 have i0:=((Aa w).alloc (.cells #[.int .i64 (M.win:Int),.int .i64 (M.next:Int),.slice a0 n c0] 70)).alloc (.cells #[.int .i64 0,.int .i64 0,.slice none 0 0] 70);have k9:=(Ae.new w (.cells #[.int .i64 (M.win:Int),.int .i64 (M.next:Int),.slice a0 n c0] 70)).alloc (.cells #[.int .i64 0,.int .i64 0,.slice none 0 0] 70);have d0:Ae ((w.alloc (.cells #[.int .i64 (M.win:Int),.int .i64 (M.next:Int),.slice a0 n c0] 70)).alloc (.cells #[.int .i64 0,.int .i64 0,.slice none 0 0] 70)) (w.heap.size+1) (.cells #[.int .i64 0,.int .i64 0,.slice none 0 0] 70):=by
  have:=Ae.new (w.alloc (.cells #[.int .i64 (M.win:Int),.int .i64 (M.next:Int),.slice a0 n c0] 70)) (.cells #[.int .i64 0,.int .i64 0,.slice none 0 0] 70)
  rwa [show (w.alloc (.cells #[.int .i64 (M.win:Int),.int .i64 (M.next:Int),.slice a0 n c0] 70)).heap.size=w.heap.size+1 from gH _]at this
 have j7:=d0.lt;generalize (w.alloc (.cells #[.int .i64 (M.win:Int),.int .i64 (M.next:Int),.slice a0 n c0] 70)).alloc (.cells #[.int .i64 0,.int .i64 0,.slice none 0 0] 70)=w1 at i0 k9 d0 j7 ⊢;have h1:=VM w1 D M a0 c0 (HV.o.1.ext i0) (by rw[<-HN.o];exact s4) (kL HV.o.2.2.1) (fun x hx=>⟨kL ((Fr (HV.o.2.1.ver x hx).map).len),kL ((HV.o.2.1.ver x hx).chgs)⟩);rw[<-HN.o]at h1;refine h1.mono ?_;rintro e w2 ⟨g,X,rfl,hX,hO⟩;have k9:=k9.keeps hO.ext kI;have d0:=d0.keeps hO.ext kI;have s5:=Hd k9;have HO:=Hd (bA hX (bA hO (bA i0 (bA j7 d0))));clear h1 hX hO i0 j7 k9 d0;go_wp2_with (refine Bv (vs:=[.int .i64 (M.win:Int),.int .i64 (M.next:Int),.slice (some ⟨g,0,none⟩) n n]) rfl rfl rfl rfl s5.o rfl Ao (by simp[Value.oneCell']) ?_;intro W3 l0 n9;have q0:W3.cell? ⟨w.heap.size,0,none⟩=some (.int .i64 (M.win:Int)):=l0.cellL rfl;have q1:W3.cell? ⟨w.heap.size,1,none⟩=some (.int .i64 (M.next:Int)):=l0.cellL rfl;have q2:W3.cell? ⟨w.heap.size,2,none⟩=some (.slice (some ⟨g,0,none⟩) n n):=l0.cellL rfl)
 obtain⟨hX,hO,i0,j7,d0⟩:=HO.o
 have O:X.length=n:=by rw[HN.o, <-hX,bU]
 have H:=MB.start hO i0 j7 n9;have d0:=d0.keeps n9 (fun e=>by have e:w.heap.size+1=w.heap.size:=e;omega);have i1:=H.vrow;rw[hX,O]at i1;have o0:=UZ W3 _ M (some ⟨g,0,none⟩) n (by rw[<-HN.o];exact i1) HV.o.2.1 (kL HV.o.2.2.1);rw[<-HN.o]at o0;refine o0.mono ?_;rintro e q ⟨rfl,l1⟩;have i1:=i1.ext l1
 obtain⟨lv,i2,n4⟩:=HV.o.2.1.lastAt
 rw[HN.o]at i1
 obtain⟨b',o',a1,c1,a2,c2,e0,_,p1,_,_,r1,_⟩:=i1.at' i2
 cases e0;have l2:=l0.keeps l1 kI;have HB:=Hd (bA hX (bA (H.more l1) (bA l2 (bA (d0.keeps l1 kI) (bA O (bA i2 (bA n4 r1)))))))
 obtain⟨k,hk⟩:∃ k,n=k+1:=⟨n-1,by omega⟩
 have d9:IntKind.i64.wrap ((n:Int)-1)=(k:Int):=by rw[Pt vO vO];omega
 have d7:(k:Int)<(n:Int):=vO
 have d8:(n:Int)-1=(k:Int):=vO
 have s6:q.cell? ⟨g,k*4+1,none⟩=some (.slice a1 lv.ents.length c1):=by
  rw[bX, <-HN.o,show n-1=k by omega]at p1;exact p1
 have s7:q.cell? ⟨w.heap.size,0,none⟩=some (.int .i64 (M.win:Int)):=l2.cellL rfl;have s8:q.cell? ⟨w.heap.size,1,none⟩=some (.int .i64 (M.next:Int)):=l2.cellL rfl;have s9:q.cell? ⟨w.heap.size,2,none⟩=some (.slice (some ⟨g,0,none⟩) n n):=l2.cellL rfl;clear hX hO i0 j7 d0 O H i1 o0 l1 i2 n4 p1 r1 l2 hk q0 q1 q2 l0 n9;go_wp2_with (first|(refine Di Mt rfl rfl ?_;intro W5 q8 q9)|(refine Bv (vs:=[.int .i64 0,.slice none 0 0,.slice none 0 0,.int .i64 0,.slice a1 lv.ents.length c1]) rfl rfl rfl rfl q8 rfl Qu (by simp[Value.oneCell']) ?_;intro W6 o1 r0;have z4:W6.cell? ⟨q.heap.size,4,none⟩=some (.slice a1 lv.ents.length c1):=o1.cellL rfl))
 obtain⟨hX,H,l3,l4,O,i2,n4,r1⟩:=HB.o
 have m1:lv∈M.all:=bD i2;have a7:=HV.o.2.1.ver lv m1;have f6:=H.gt;have f7:=H.tw;have i3:=H.lo;have kd:Ad (fun z=>z=q.heap.size) q W6:=(q9.mono kZ).trans r0;have j0:=H.side kd fun b e=>.inr (.inr (by have e:b=q.heap.size:=e;omega));have m3:=l3.keeps kd vO;have m4:=l4.keeps kd vO;have j8:=r1.1.keeps kd (fun b hb e=>by have h2:=r1.2 b hb;have e:b=q.heap.size:=e;omega);have j9:∀ b,(Value.slice a1 lv.ents.length c1).ownBlock=some b->b<q.heap.size:=fun b hb=>by have h2:=r1.2 b hb;omega
 have r2:=HV.o.2.2.2.1.keeps j0.ext (fun _ _ e=>e);have b5:=(Fr a7.map).len;have c4:=Ew.newV i2;have H6:=Hd (bA j0 (bA m3 (bA m4 (bA o1 (bA hX (bA O (bA c4 (bA f6 (bA f7 (bA i3 (bA j8 (bA a7 (bA b5 j9)))))))))))));have r3:=OI W6 _ u lv.ents cs j8 r2 vO (kL HV.o.2.2.2.2.1) (fun p hp=>kL ((Fr a7.map).size p hp)) (fun c hc=>kL (HV.o.2.2.2.2.2 c hc));clear hX H l3 l4 O i2 n4 r1 m1 a7 f6 f7 i3 kd j0 m3 m4 j8 r2 b5 c4 j9 z4 o1 r0 q8 q9 s6 s7 s8 s9 d7 d8 d9;refine r3.mono ?_;rintro e W7 h7;unfold Vd at h7;clear r3
 by_cases ha:Fi lv.ents cs=0
 ·rw[if_pos ha]at h7
  obtain⟨r,rfl,hr⟩:=h7
  have HA:=Hd (bA ha hr)
  obtain⟨m,hm⟩:=vE (Hi (Lq lv.ents cs)).length
  obtain⟨ra,rc,rfl⟩:=hr.sl
  have o2:=Hd hm;rw[<-hm];have b4:Af W6 W7:=hr.ext;have q1:W7.cell? ⟨w.heap.size,1,none⟩=some (.int .i64 (M.next:Int)):=(H6.o.2.1.keeps b4 kI).cellL rfl;have n5:=Hd (H6.o.2.2.1.keeps b4 kI);have i4:=Hd (H6.o.2.1.keeps b4 kI);have k0:=Hd b4;clear ha hr hm b4
  by_cases hx:M.next=1048576
  ·have e1:((M.next:Int) == 1048576)=true:=by rw[hx];rfl
   have o3:=Hd hx;clear hx;have q0:W7.cell? ⟨w.heap.size,0,none⟩=some (.int .i64 (M.win:Int)):=i4.o.cellL rfl;have q2:W7.cell? ⟨w.heap.size,2,none⟩=some (.slice (some ⟨g,0,none⟩) n n):=i4.o.cellL rfl;go_wp2_with (refine Bv (vs:=[.int .i64 (M.win:Int),.int .i64 (M.next:Int),.slice (some ⟨g,0,none⟩) n n]) rfl rfl rfl rfl n5.o rfl Ao (by simp[Value.oneCell']) ?_;intro W8 g6 o4)
   refine bodyPost_ret (Zc rfl rfl rfl rfl (Uy W8 (w.heap.size+1) 0 [.int .i64 (M.win:Int),.int .i64 (M.next:Int),.slice (some ⟨g,0,none⟩) n n] rfl (fun j v hv=>by rw[bX];exact g6.cellL hv))) rfl ?_
   obtain⟨H,_,_,_,hX,O,c4,_⟩:=H6.o
   have a8:=(H.more k0.o).side o4 fun b e=>.inr (.inl e);have l5:R=(M,0,12):=by rw[HR.o];unfold Gu;rw[c4,if_neg (by rw[HA.o.1];simp),if_pos o3.o]
   rw[l5]
   exact⟨_,rfl,a8.ext,a8.news O hX⟩
  ·have e1:((M.next:Int) == 1048576)=false:=by simp;omega
   have o3:=Hd hx;clear hx;have z1:W7.cell? ⟨q.heap.size,0,none⟩=some (.int .i64 0):=(H6.o.2.2.2.1.keeps k0.o kI).cellL rfl;have f1:W7.frozen? ⟨q.heap.size,0,none⟩=false:=(H6.o.2.2.2.1.keeps k0.o kI).frozen;go_wp2_with fail
   obtain⟨H,_,_,o5,hX,O,c4,f6,f7,i3,j8,a7,b5,j9⟩:=H6.o
   obtain⟨ha,hr⟩:=HA.o
   have b4:=k0.o;have t0:q.heap.size<W6.heap.size:=o5.lt;have l6:=Ye ha;have m5:=(Fr l6).len;have k8:=Ad.oneSet W7 ⟨q.heap.size,0,none⟩ (.int .i64 (M.next:Int));have g6:=(o5.keeps b4 kI).set_same (i:=0) (.int .i64 (M.next:Int));have o6:=hr.rd.keeps k8 (fun b hb e=>by have h1:=hr.new b hb;have e:b=q.heap.size:=e;omega);have a8:=(H.more b4).side k8 fun b e=>.inr (.inr (by have e:b=q.heap.size:=e;omega));have j1:=i4.o.keeps k8 (fun e=>by have e:w.heap.size=q.heap.size:=e;omega);have j2:=n5.o.keeps k8 (fun e=>by have e:w.heap.size+1=q.heap.size:=e;omega);have o7:=(j8.ext b4).keeps k8 (fun b hb e=>by
    have e:b=q.heap.size:=e
    have:=j9 b hb
    omega)
   have r4:=k8.size;generalize W7.setCell ⟨q.heap.size,0,none⟩ (.int .i64 (M.next:Int))=W8 at g6 o6 a8 j1 j2 o7 r4 ⊢;have r5:q.heap.size≠g:=vO
   have p4:∀ b,(Value.slice a1 lv.ents.length c1).ownBlock=some b->¬ b=q.heap.size:=fun b hb e=>kL (j9 b hb)
   have o8:=eM W8 _ _ o6 vO;rw[<-o2.o]at o8;have HH:=Hd (bA hX (bA O (bA c4 (bA ha (bA l6 (bA m5 (bA a7 (bA b5 (bA p4 (bA f6 (bA f7 i3)))))))))));have r6:w.heap.size+2<=q.heap.size:=vO
   clear H o5 hX O c4 f6 f7 i3 j8 a7 b5 j9 b4 ha hr t0 l6 m5 k8 f1 q1 z1 e1 r4;refine o8.mono ?_;rintro e W9 ⟨v9,rfl,i5,k3⟩;have d5:=a8.more k3;have n6:=g6.keeps k3 kI;have d6:=j1.keeps k3 kI;have e2:=j2.keeps k3 kI;have l7:=o7.ext k3;have w5:=g6.lt;clear o8 a8 j1 j2 o7 o6 g6 k3
   obtain⟨a9,c9,rfl⟩:=i5.1.sl
   rw[<-o2.o]at i5;rw[<-o2.o];have z1:W9.cell? ⟨q.heap.size,1,none⟩=some (.slice none 0 0):=n6.cell (i:=1) rfl;have f1:W9.frozen? ⟨q.heap.size,1,none⟩=false:=n6.frozen;have b6:=i5.1.keeps (Ad.oneSet W9 ⟨q.heap.size,1,none⟩ (.slice a9 m c9)) (fun b hb e=>by have h1:=(i5.2 b hb).1;have e:b=q.heap.size:=e;omega);have Z:=n6.set_same (i:=1) (.slice a9 m c9);have t1:=Z.cell (i:=1) (v:=.slice a9 m c9) rfl;have t2:=Z.cell (i:=4) (v:=.slice a1 lv.ents.length c1) rfl;have H9:=Hd (bA d5 (bA d6 (bA e2 (bA l7 (bA b6 Z)))));have o9:Hid (∀ b,(Value.slice a9 m c9).ownBlock=some b->q.heap.size<b/\b<W9.heap.size):=(fun b hb=>⟨kL ((i5.2 b hb).1),(i5.2 b hb).2⟩);clear d5 d6 e2 l7 b6 Z i5 n6;go_wp2_with fail
   have m6:=(Fr HH.o.2.2.2.2.2.2.1.map).size;have m7:=HH.o.2.2.2.2.2.2.2.1;have g7:=HH.o.2.2.2.2.2.1;have m8:=(Fr HH.o.2.2.2.2.1).size;have k4:=Ad.oneSet W9 ⟨q.heap.size,1,none⟩ (.slice a9 m c9)
   obtain⟨d5,d6,e2,l7,b6,Z⟩:=H9.o
   have r7:=Z.lt;have f6:=HH.o.2.2.2.2.2.2.2.2.2.1;have f7:=HH.o.2.2.2.2.2.2.2.2.2.2.1;have e7:=d5.side k4 fun b e=>.inr (.inr (by have e:b=q.heap.size:=e;omega));have e8:=d6.keeps k4 (fun e=>by have e:w.heap.size=q.heap.size:=e;omega);have e9:=e2.keeps k4 (fun e=>by have e:w.heap.size+1=q.heap.size:=e;omega);have j3:=l7.keeps k4 (HH.o.2.2.2.2.2.2.2.2.1);have m9:=k4.size;generalize W9.setCell ⟨q.heap.size,1,none⟩ (.slice a9 m c9)=W10 at Z b6 e7 e8 e9 j3 m9 r7 ⊢;have r8:=sI W10 _ _ lv.ents (Hi (Lq lv.ents cs)) j3 b6 vO vO (fun p hp=>kL (m6 p hp)) (fun p hp=>kL (m8 p hp));have l8:=ZU m7 g7;refine r8.mono ?_;rintro e k5 ⟨w6,rfl,b7⟩
   obtain⟨d1,d2,rfl⟩:=b7.sl
   have b8:=b7.ext;have f8:=Z.keeps b8 kI;have g8:=e8.keeps b8 kI;have g9:=e9.keeps b8 kI;have h3:=e7.more b8;have f5:=b6.ext b8;have b0:=b7.new;have p5:=Z.lt
   obtain⟨m2,l9⟩:=vE (Ku lv.ents (Hi (Lq lv.ents cs))).length
   rw[<-l9]at b7 l8 b0 ⊢;have z2:k5.cell? ⟨q.heap.size,2,none⟩=some (.slice none 0 0):=f8.cell (i:=2) rfl;have f2:k5.frozen? ⟨q.heap.size,2,none⟩=false:=f8.frozen;have c8:=f8.set_same (i:=2) (.slice d1 m2 d2);have i6:=Ad.oneSet k5 ⟨q.heap.size,2,none⟩ (.slice d1 m2 d2);have h4:=h3.side i6 fun b e=>.inr (.inr (by have e:b=q.heap.size:=e;omega));have h6:=g8.keeps i6 (fun e=>by have e:w.heap.size=q.heap.size:=e;omega);have h8:=g9.keeps i6 (fun e=>by have e:w.heap.size+1=q.heap.size:=e;omega);have e4:=f5.keeps i6 (fun b hb e=>by have:=(o9.o b hb).1;have e:b=q.heap.size:=e;omega);have e5:=b7.rdT.keeps i6 (fun b hb e=>by have:=b0 b hb;have e:b=q.heap.size:=e;omega);have a3:∀ b,(Value.slice a9 m c9).ownBlock=some b->w.heap.size+2<=b/\b<k5.heap.size:=fun b hb=>⟨kL ((o9.o b hb).1),by have:=(o9.o b hb).2;have:=b8.size;have:=H9.o.2.2.2.2.2.lt;omega⟩;have a4:∀ b,(Value.slice d1 m2 d2).ownBlock=some b->w.heap.size+2<=b/\b<k5.heap.size:=fun b hb=>⟨kL (b0 b hb),b7.lt b hb⟩;have e6:=i6.size;clear m6 m7 g7 m8 k4 d5 d6 e2 l7 r7 e7 e8 e9 j3 m9 r8 Z b6 b8 f8 g8 g9 h3 f5 b0 p5 b7 i6 f6 f7 z1 t1 t2 f1;have i7:=Hd (bA h4 (bA h6 (bA h8 (bA e4 (bA e5 (bA c8 (bA a3 (bA a4 (bA e6 (bA l9 l8))))))))));clear h4 h6 h8 e4 e5 c8 a3 a4 e6 l9 l8;have O:=HH.o.2.1;have r9:(Hq X).length=n*4:=by rw[Zi,O]
   have t3:=Hd r9;have t4:∃ d,d=q.heap.size:=⟨_,rfl⟩;have HT:=Hd (bA r6 r5);clear r9 O t4;go_wp2_with (first
    |(refine LW rfl q.heap.size 2 (.slice d1 m2 d2) rfl rfl rfl rfl vY z2 f2 ?_;intro d3 b9
      have y0:d3.cell? ⟨q.heap.size,0,none⟩=some (.int .i64 (M.next:Int)):=by rw[b9];exact i7.o.2.2.2.2.2.1.cell (i:=0) rfl
      have y1:d3.cell? ⟨q.heap.size,1,none⟩=some (.slice a9 m c9):=by rw[b9];exact i7.o.2.2.2.2.2.1.cell (i:=1) rfl
      have y2:d3.cell? ⟨q.heap.size,2,none⟩=some (.slice d1 m2 d2):=by rw[b9];exact i7.o.2.2.2.2.2.1.cell (i:=2) rfl
      have y3:d3.cell? ⟨q.heap.size,3,none⟩=some (.int .i64 0):=by rw[b9];exact i7.o.2.2.2.2.2.1.cell (i:=3) rfl
      have b2:d3.cell? ⟨w.heap.size,2,none⟩=some (.slice (some ⟨g,0,none⟩) n n):=by rw[b9];exact i7.o.2.1.cell (i:=2) rfl
      have i8:=i7;rw[<-b9]at i8;clear b9 i7)
    |(at_builtin
      refine wpList_plain rfl fun KK s0=>aI Nx (olds:=Hq X) (news:=[.int .i64 (M.next:Int),.slice a9 m c9,.slice d1 m2 d2,.int .i64 0]) (ad:=⟨g,0,none⟩) (ad2:=⟨d3.heap.size,0,none⟩) (n:=n) (m:=1) (c:=1) _ _ rfl rfl (fun j u hu=>by rw[Go.WideShapes.add_plain,bX];exact (i8.o.1.blk.alloc _).cellL hu) (NV d3 _ [.int .i64 (M.next:Int),.slice a9 m c9,.slice d1 m2 d2,.int .i64 0]) t3.o rfl vI rfl vO vI (fun t5 c5 i9 n0=>s0 _ _ ?_);clear KK s0;have A:=(((Aa d3).alloc (.cells [.int .i64 (M.next:Int),.slice a9 m c9,.slice d1 m2 d2,.int .i64 0].toArray 91)).trans n0);have b2:c5.cell? ⟨w.heap.size,2,none⟩=some (.slice (some ⟨g,0,none⟩) n n):=(i8.o.2.1.keeps A kI).cell (i:=2) rfl;have b1:c5.cell? ⟨w.heap.size,1,none⟩=some (.int .i64 (M.next:Int)):=(i8.o.2.1.keeps A kI).cell (i:=1) rfl;have fb:c5.frozen? ⟨w.heap.size,2,none⟩=false:=(i8.o.2.1.keeps A kI).frozen;have t6:c5.frozen? ⟨w.heap.size,1,none⟩=false:=(i8.o.2.1.keeps A kI).frozen;have t7:=Hd (bA i9 A)
      obtain⟨c7,J,p6⟩:∃ c7 J,t5=.slice (some ⟨c7,0,none⟩) (n+1) J:=by
       obtain⟨_,⟨_,h0⟩|⟨g',s1,t8,e,_⟩⟩:=i9
       ·omega
       ·exact⟨g',s1,e⟩
      subst p6;clear i9 n0 A))
   obtain⟨i9,A⟩:=t7.o
   obtain⟨H,l3,l4,e4,e5,c8,a3,a4,e6,l9,l8⟩:=i8.o
   have w7:=HV.o.2.1.next;rw[show Go.RowKit.wrap64 ((M.next:Int)+1)=(M.next:Int)+1 by unfold Go.RowKit.wrap64;omega];have h9:=(l3.keeps A kI).set_same (i:=2) (.slice (some ⟨c7,0,none⟩) (n+1) J);have f0:=h9.set_same (i:=1) (.int .i64 ((M.next:Int)+1));have d4:=(Ad.oneSet c5 ⟨w.heap.size,2,none⟩ (.slice (some ⟨c7,0,none⟩) (n+1) J)).trans (Ad.oneSet (c5.setCell ⟨w.heap.size,2,none⟩ (.slice (some ⟨c7,0,none⟩) (n+1) J)) ⟨w.heap.size,1,none⟩ (.int .i64 ((M.next:Int)+1)));generalize (c5.setCell ⟨w.heap.size,2,none⟩ (.slice (some ⟨c7,0,none⟩) (n+1) J)).setCell ⟨w.heap.size,1,none⟩ (.int .i64 ((M.next:Int)+1))=W16 at f0 d4 ⊢;have d4:Ad (fun z=>z=w.heap.size) c5 W16:=d4
   obtain⟨n1,t9,p0⟩:n+1<=J/\d3.heap.size<=c7/\c7<c5.heap.size:=by
    have h0:=((Aa d3).alloc (.cells [.int .i64 (M.next:Int),.slice a9 m c9,.slice d1 m2 d2,.int .i64 0].toArray 91)).size
    obtain⟨_,⟨_,h0⟩|⟨g',s1,t8,e,hg,v0,h5,_⟩⟩:=i9
    ·omega
    ·obtain⟨e1,_,e3⟩:=dH e
     have e1:=congrArg Addr.block (bV e1);have e1:c7=g':=e1;subst e1 e3
     exact⟨h5,bF h0 hg,(dD.1 v0).1⟩
   have i3:=H.lo;have f6:=H.gt;have f7:=H.tw
   obtain⟨r6,r5⟩:=HT.o
   have p7:=c8.lt;have p8:=A.size;have f3:=(l4.keeps A kI).keeps d4 vO;have n2:=(c8.keeps A kI).keeps d4 vO;have f4:=(H.more A).side d4 fun b e=>.inl e;have f9:=d4.size
   obtain⟨hX,O,c4,ha,l6,_,a7,b5,_⟩:=HH.o
   have v1:∃ nx:VX,nx=⟨⟨M.next,Hi (Lq lv.ents cs),Ku lv.ents (Hi (Lq lv.ents cs)),0⟩,.slice a9 m c9,.slice d1 m2 d2⟩:=⟨_,rfl⟩
   obtain⟨nx,g0⟩:=v1
   have s2:Hq X++[.int .i64 (M.next:Int),.slice a9 m c9,.slice d1 m2 d2,.int .i64 0]=Hq (X++[nx]):=by
    rw[FB,g0];rfl
   have n7:(X++[nx]).length=n+1:=by rw[bK,O];rfl
   have v2:∀ b,(w.heap.size+2<=b/\b<c5.heap.size)->¬ b=w.heap.size:=fun b hb e=>by omega
   have hL:Tq (fun b=>w.heap.size+2<=b/\b<c5.heap.size) W16 c7 0 J (X++[nx]):=by
    refine⟨by rw[n7];exact n1,bE p0 f9,⟨by omega,p0⟩,fun j u hu=>?_⟩
    have:=World.ownsRow.cells i9 rfl j u (by rw[s2];exact hu)
    rw[Go.WideShapes.add_plain]at this;exact Dw this d4 (by show ¬ c7=w.heap.size;omega)
   have j5:k5.heap.size<=d3.heap.size:=e6;have hH:CK (fun b=>w.heap.size+2<=b/\b<c5.heap.size) W16 (X++[nx]):=fun x hx=>by
    rcases bR.1 hx with hx|hx
    ·obtain⟨k1,k2⟩:=f4.hold x hx
     exact⟨k1.mono fun b hb=>⟨hb.1,kL hb.2.1⟩,k2.mono fun b hb=>⟨hb.1,kL hb.2.1⟩⟩
    ·rw[bL.1 hx,g0]
     exact⟨⟨(e4.ext A).keeps d4 (fun b hb e=>by have:=(a3 b hb).1;have e:b=w.heap.size:=e;omega),fun b hb=>⟨(a3 b hb).1,kL ((a3 b hb).2)⟩⟩,
      ⟨(e5.ext A).keeps d4 (fun b hb e=>by have:=(a4 b hb).1;have e:b=w.heap.size:=e;omega),fun b hb=>⟨(a4 b hb).1,kL ((a4 b hb).2)⟩⟩⟩
   have g2:=OU hL hH;rw[n7]at g2
   obtain⟨a5,g3⟩:=vE ((X++[nx]).map VX.v)
   have b3:a5=M.all++[⟨M.next,Hi (Lq lv.ents cs),Ku lv.ents (Hi (Lq lv.ents cs)),0⟩]:=by rw[g3,bW,hX,g0];rfl
   rw[<-g3]at g2;have p2:a5.length=n+1:=by rw[g3,bU];exact n7
   have p9:=HV.o.2.1.win;have s3:∀ wb,Af W16 wb->vQ 80 #[.agg #[.int .i64 (M.win:Int),.int .i64 ((M.next:Int)+1),.slice (some ⟨c7,0,none⟩) (n+1) J]] wb fun e w'=>∃ j6,e=.returned (.agg #[.int .i64 (M.win:Int),.int .i64 ((M.next:Int)+1),j6])/\Af wb w'/\Cz (DD wb (fun b=>w.heap.size+2<=b/\b<c5.heap.size) w') w' j6 (Hy M.win (M.next+1) a5):=fun wb kb =>
    lI wb (fun b=>w.heap.size+2<=b/\b<c5.heap.size) (fun b hb=>by have:=hb.2;have:=kb.size;omega) ⟨M.win,M.next+1,a5⟩ _ (g2.ext kb) (fun e=>by have e:a5=[]:=e;rw[e]at p2;cases p2) (by show M.win<=8;omega) (by show M.next+1<=2000000;omega) (by show a5.length<=1000;omega) (fun x hx=>by
     have hx:x∈a5:=hx;rw[b3]at hx;rcases bR.1 hx with hx|hx
     ·have h1:=HV.o.2.1.less x hx
      have h2:=(HV.o.2.1.ver x hx).pins
      exact⟨by omega,by omega⟩
     ·rw[bL.1 hx]
      exact⟨by show M.next<=_;omega,cE _⟩)
   have q3:=Hd s3;have j4:=Hd (bA f0 (bA f3 n2));have q4:=Hd (bA f4.ext (bA f9 (bA b3 (bA c4 ha))));have n3:w.heap.size+1<W16.heap.size:=f3.lt;have v3:=Hd n3;clear H l3 l4 e4 e5 c8 a3 a4 e6 l9 l8 h9 f0 d4 n1 t9 p0 i3 f6 f7 p7 p8 f3 n2 f4 f9 hX O c4 ha l6 a7 b5 g0 s2 n7 v2 hL j5 hH g2 g3 b3 p2 p9 s3 i9 A b2 b1 fb t6 n3;refine Nc [0,2,3,4,1,5,6,7] [1,5] Af (Ad (fun z=>z=w.heap.size+1)) Aa Aq (fun x y z h k=>Ad.trans h k) (fun x y h=>h.mono kZ) vY vY vY ?_;refine Fc ⟨w.heap.size,0,none⟩ _ rfl (fun w1 h1=>IU w1 w.heap.size 0 [.int .i64 (M.win:Int),.int .i64 ((M.next:Int)+1),.slice (some ⟨c7,0,none⟩) (n+1) J] rfl (fun j v hv=>by rw[bX];exact ((j4.o.1.drew).keeps h1 vO).cellL hv)) ?_;refine vS ?_;iterate 2 refine vD ?_
   refine Fc ⟨q.heap.size,0,none⟩ (.int .i64 (M.next:Int)) rfl (fun w1 h1=>Dt (fun w=>by kernel_rfl) (((j4.o.2.2.drew).keeps h1 vO).cell (i:=0) rfl)) (vS ?_);refine Hl _ rfl (fun wb hb K hK=>?_);have kb:Af W16 wb:=(Ap _).trans hb;refine Oe (Ex Ma vY) ((q3.o wb kb).mono ?_);rintro e w2 ⟨j6,rfl,k6,m0⟩
   refine⟨_,rfl,hK _ _ (k6.mono kZ) ?_⟩
   obtain⟨a2,c2,q5⟩:=m0.sl
   subst q5;have HS:=Hd (bA kb (bA k6 m0));clear hK K hb kb k6 m0;refine vS ?_;refine Hl _ rfl (fun wc hc K hK=>?_);have kc:Af W16 wc:=HS.o.1.trans (HS.o.2.1.trans hc);refine Yk (vs:=[.int .i64 (M.win:Int),.int .i64 ((M.next:Int)+1),.slice a2 (Hy M.win (M.next+1) a5).length c2]) rfl rfl rfl (j4.o.2.1.keeps kc kI) rfl Ao (by simp[Value.oneCell']) (fun w8 g4 c3=>hK _ _ c3 ?_);have q6:=Hd (bA hc (bA g4 c3));clear hK K hc kc g4 c3;refine vS ?_;iterate 2 refine vD ?_
   refine Mr (fun v4 g5=>?_);go_wp2_with fail
   obtain⟨hc,g4,c3⟩:=q6.o
   obtain⟨kb,k6,m0⟩:=HS.o
   obtain⟨v5,f9,b3,c4,ha⟩:=q4.o
   have w9:=v3.o;have q7:=g4.keeps g5 kI;refine bodyPost_ret (Zc rfl rfl rfl rfl (Uy v4 (w.heap.size+1) 0 [.int .i64 (M.win:Int),.int .i64 ((M.next:Int)+1),.slice a2 (Hy M.win (M.next+1) a5).length c2] rfl (fun j v hv=>by rw[bX];exact q7.cellL hv))) rfl ?_;have l5:R=(⟨M.win,M.next+1,Hy M.win (M.next+1) a5⟩,M.next,0):=by
    rw[HR.o,b3];unfold Gu;rw[c4,if_neg (by rw[ha];simp),if_neg o3.o]
   rw[l5];have x0:=kb.size;have x1:=k6.size;have n8:=hc.size;have v8:=c3.size;have w3:=g5.size;have v6:Af w wc:=v5.trans (kb.trans (k6.trans hc))
   refine⟨_,rfl,(v6.trans' c3 kJ).trans g5,?_⟩
   refine (((m0.ext hc).keeps c3 (fun b hb e=>?_)).ext g5).mono fun b hb=>?_
   ·have e:b=w.heap.size+1:=e
    rcases hb with⟨h,_⟩|⟨h,_⟩<;>omega
   ·rcases hb with⟨h1,h2⟩|⟨h1,h2⟩
    ·exact⟨by omega,by omega⟩
    ·exact⟨by omega,by omega⟩
 ·rw[if_neg ha]at h7
  obtain⟨rfl,b4⟩:=h7
  have HA:=Hd ha
  obtain⟨er,p3⟩:=vE (Fi lv.ents cs)
  have v7:=Hd p3;rw[<-p3]at ha ⊢;have e1:(er != 0)=true:=by simpa using ha
  have n5:=Hd (H6.o.2.2.1.keeps b4 kI);have i4:=Hd (H6.o.2.1.keeps b4 kI);have k0:=Hd b4;have q0:W7.cell? ⟨w.heap.size,0,none⟩=some (.int .i64 (M.win:Int)):=i4.o.cellL rfl;have q1:W7.cell? ⟨w.heap.size,1,none⟩=some (.int .i64 (M.next:Int)):=i4.o.cellL rfl;have q2:W7.cell? ⟨w.heap.size,2,none⟩=some (.slice (some ⟨g,0,none⟩) n n):=i4.o.cellL rfl;clear ha p3 b4;go_wp2_with (refine Bv (vs:=[.int .i64 (M.win:Int),.int .i64 (M.next:Int),.slice (some ⟨g,0,none⟩) n n]) rfl rfl rfl rfl n5.o rfl Ao (by simp[Value.oneCell']) ?_;intro W8 g6 o4)
  refine bodyPost_ret (Zc rfl rfl rfl rfl (Uy W8 (w.heap.size+1) 0 [.int .i64 (M.win:Int),.int .i64 (M.next:Int),.slice (some ⟨g,0,none⟩) n n] rfl (fun j v hv=>by rw[bX];exact g6.cellL hv))) rfl ?_
  obtain⟨H,_,_,_,hX,O,c4,_⟩:=H6.o
  have a8:=(H.more k0.o).side o4 fun b e=>.inr (.inl e);have l5:R=(M,0,er):=by rw[HR.o];unfold Gu;rw[c4,if_pos HA.o,v7.o]
  rw[l5]
  exact⟨_,rfl,a8.ext,a8.news O hX⟩
end
section
open Go Go.RowKit
attribute [local go_sem] Oper.semAt_some
def Pj:Option Nat->Int|some i=>i|none => -1
def Vq(f:FuncId):Prop:=∀ (w:vW) (vb:Nat) (a1:Option Addr) (n1 c1:Nat) (a2:Option Addr) (n2 c2:Nat) (p:Int) (g:Nat) (bk:Int),w.cell? ⟨g,0,none⟩=some (.int .i64 bk)->vR f #[.agg #[.int .i64 (vb:Int),.slice a1 n1 c1,.slice a2 n2 c2,.int .i64 p],.pointer (some ⟨g,0,none⟩)] w (.bool (decide ((vb:Int)=bk)))
theorem lX{x:Au}(hall:∀ v∈l.take i,(v.block:Int)≠bk)(hi:l[i]?=some x)(hx:(x.block:Int)=bk):Ks l bk=some i:=by
 unfold Ks;rw[fU]
 obtain⟨e,q⟩:=bI.1 hi
 refine⟨e,by rw[q];exact decide_eq_true hx,fun j A=>?_⟩
 have:=hall l[j] (List.mem_take_iff_getElem.2 ⟨j,by omega,rfl⟩)
 simpa using this
theorem lY(hall:∀ v∈l,(v.block:Int)≠bk):Ks l bk=none:=by
 unfold Ks;rw[List.findIdx?_eq_none_iff];exact fun v e=>by simpa using hall v e
theorem kC{x:Au}(hall:∀ v∈l.take i,(v.block:Int)≠bk)(hi:l[i]?=some x)(hx:¬(x.block:Int)=bk):∀ v∈l.take (i+1),(v.block:Int)≠bk:=fun v e=>by
 rw[cA,hi]at e;rcases bR.1 e with e|e
 ·exact hall v e
 ·have e:v∈[x]:=e
  rw[bL.1 e];exact hx
theorem jzV:Vq 83:=by
 intro w e A H J K O X p g bk q;have Z:=Am q ((Aa w).alloc (.cells #[.int .i64 (e:Int),.slice A H J,.slice K O X,.int .i64 p] 91));have E:=Hd (show ((e:Int) == bk)=decide ((e:Int)=bk)from by by_cases h:(e:Int)=bk<;>simp[h])
 clear q;go_enter func83,ntmps83;go_wp2_with fail
 go_ret
 exact⟨by rw[<-E.o];rfl,(Aa w).alloc _⟩
theorem jrM:Vq 74:=by
 intro w e A H J K O X p g bk q;have Z:=Am q ((Aa w).alloc (.cells #[.int .i64 (e:Int),.slice A H J,.slice K O X,.int .i64 p] 91));have E:=Hd (show ((e:Int) == bk)=decide ((e:Int)=bk)from by by_cases h:(e:Int)=bk<;>simp[h])
 clear q;go_enter func74,ntmps74;go_wp2_with fail
 go_ret
 exact⟨by rw[<-E.o];rfl,(Aa w).alloc _⟩
theorem uM:Vq 159:=by
 intro w e A H J K O X p g bk q;have Z:=Am q ((Aa w).alloc (.cells #[.int .i64 (e:Int),.slice A H J,.slice K O X,.int .i64 p] 91));have E:=Hd (show ((e:Int) == bk)=decide ((e:Int)=bk)from by by_cases h:(e:Int)=bk<;>simp[h])
 clear q;go_enter func159,ntmps159;go_wp2_with fail
 go_ret
 exact⟨by rw[<-E.o];rfl,(Aa w).alloc _⟩
def sZ(w:vW)(l:List Au)(bk:Int)(v:vV)(wr:vW):Prop:=∃ i:Nat,i<=l.length/\v=.int .i64 i/\Af w wr/\∀ x∈l.take i,(x.block:Int)≠bk
theorem mH(f:FuncId)(hf:Vq f)(hent:∀ args w,(callFunc f args).run prog w=.ok (.enter f args) w)(w:vW)(D:Nat->Prop)(a:Option Addr)(c:Nat)(l:List Au)(hv:Cz D w (.slice a l.length c) l)(hl:l.length<=100000)(g:Nat)(bk:Int)(hk:w.cell? ⟨g,0,none⟩=some (.int .i64 bk)):vR 82 #[.slice a l.length c,.func (.func f) #[] #[.pointer (some ⟨g,0,none⟩)]] w (.int .i64 (Pj (Ks l bk))):=by
 have Z:=Hd hv;have HK:=Hd hk;have HF:=Hd hf;clear hv hk hf;unfold vR vQ;go_in;go_wp2_with fail
 go_loopw [8] (fun i wr=>sZ w l bk i wr) (fun i _=>l.length-(intOf i).toNat)
 case atStart=>exact⟨0,by omega,rfl,Aa w,fun p hp=>by simp at hp⟩
 case round =>obtain⟨i,hi,rfl,J,q⟩:=hrel;have K:=Hd J;have e:=Hd q;clear J q;by_cases hlt:i<l.length;{obtain⟨x,O⟩:∃ x,l[i]?=some x:=⟨_,bB hlt⟩;obtain⟨b,o,a1,c1,a2,c2,rfl,q0,q1,q2,q3,_,_⟩:=(Z.o.ext K.o).at' O;have X:=Hd O;have b1:(i:Int)<(l.length:Int):=vO;(clear O;go_wp2_with fail);refine vH (HF.o wr x.block a1 _ c1 a2 _ c2 _ g bk (Am HK.o K.o)) fun w3 J=>?_;have A:=Hd (K.o.trans J);clear q0 q1 q2 q3;by_cases hq:(x.block:Int)=bk;{have H:=Hd (lX e.o X.o hq);(rw[decide_eq_true hq];clear hq;go_wp2_with fail);go_ret;exact⟨by rw[H.o];rfl,A.o⟩};have H:=Hd (kC e.o X.o hq);(rw[decide_eq_false hq];clear hq;go_wp2_with fail);go_roundw;(case rel=>exact⟨i+1,by omega,by go_num,A.o,H.o⟩);case measure=>exact vJ};obtain rfl:i=l.length:=vO;(have H:=Hd (lY (bk:=bk) (by have:=e.o;rwa [cD]at this));go_wp2_with fail);go_ret;exact⟨by rw[H.o];rfl,K.o⟩
def Bx(l:List Au)(bk:Int):Bool:=(Ks l bk).isSome
theorem I_(f:FuncId)(hf:Vq f)(hent:∀ args w,(callFunc f args).run prog w=.ok (.enter f args) w)(w:vW)(D:Nat->Prop)(a:Option Addr)(c:Nat)(l:List Au)(hv:Cz D w (.slice a l.length c) l)(hl:l.length<=100000)(g:Nat)(bk:Int)(hk:w.cell? ⟨g,0,none⟩=some (.int .i64 bk)):vR 73 #[.slice a l.length c,.func (.func f) #[] #[.pointer (some ⟨g,0,none⟩)]] w (.bool (Bx l bk)):=by
 have J:=Hd (mH f hf hent w D a c l hv hl g bk hk);clear hv hk hf;unfold vR vQ;go_in;go_wp2_with fail
 refine J.o.mono ?_;rintro e w1 ⟨rfl,A⟩;have H:=Hd A;clear A;cases hp:Ks l bk with
 |none =>(have q:=Hd hp;clear hp;rw[show Pj none = -1 from rfl];go_wp2_with fail);go_ret;exact⟨by unfold Bx;rw[q.o];rfl,H.o⟩
 |some i =>have q:=Hd hp;clear hp;rw[show Pj (some i)=(i:Int)from rfl];have K:(0:Int)<=(i:Int):=vO;(go_wp2_with fail);go_ret;exact⟨by unfold Bx;rw[q.o];rfl,H.o⟩
theorem jwc(f:FuncId)(hf:Vq f)(hent:∀ args w,(callFunc f args).run prog w=.ok (.enter f args) w)(w:vW)(D:Nat->Prop)(win nx:Int)(a:Option Addr)(c:Nat)(l:List Au)(hv:Cz D w (.slice a l.length c) l)(hl:l.length<=100000)(g:Nat)(bk:Int)(hk:w.cell? ⟨g,0,none⟩=some (.int .i64 bk)):vR 158 #[.agg #[.int .i64 win,.int .i64 nx,.slice a l.length c],.func (.func f) #[] #[.pointer (some ⟨g,0,none⟩)]] w (.int .i64 (Pj (Ks l bk))):=by
 have Z:=Hd hv;have HK:=Hd hk;have HF:=Hd hf;clear hv hk hf;unfold vR vQ;go_in;go_wp2_with fail
 go_loopw [10] (fun i wr=>sZ w l bk i wr) (fun i _=>l.length-(intOf i).toNat)
 case atStart=>exact⟨0,by omega,rfl,(Aa w).alloc _,fun p hp=>by simp at hp⟩
 case round =>obtain⟨i,hi,rfl,J,q⟩:=hrel;have K:=Hd J;have e:=Hd q;clear J q;by_cases hlt:i<l.length;{obtain⟨x,O⟩:∃ x,l[i]?=some x:=⟨_,bB hlt⟩;obtain⟨b,o,a1,c1,a2,c2,rfl,q0,q1,q2,q3,_,_⟩:=(Z.o.ext K.o).at' O;have X:=Hd O;have b1:(i:Int)<(l.length:Int):=vO;(clear O;go_wp2_with fail);refine vH (HF.o _ x.block a1 _ c1 a2 _ c2 _ g bk (Am (Am HK.o K.o) ((Aa wr).alloc _))) fun w3 J=>?_;have A:=Hd ((K.o.trans ((Aa wr).alloc _)).trans J);clear q0 q1 q2 q3;by_cases hq:(x.block:Int)=bk;{have H:=Hd (lX e.o X.o hq);(rw[decide_eq_true hq];clear hq;go_wp2_with fail);go_ret;exact⟨by rw[H.o];rfl,A.o⟩};have H:=Hd (kC e.o X.o hq);(rw[decide_eq_false hq];clear hq;go_wp2_with fail);go_roundw;(case rel=>exact⟨i+1,by omega,by go_num,A.o,H.o⟩);case measure=>exact vJ};obtain rfl:i=l.length:=vO;(have H:=Hd (lY (bk:=bk) (by have:=e.o;rwa [cD]at this));go_wp2_with fail);go_ret;exact⟨by rw[H.o];rfl,K.o⟩
theorem rQ(D:Nat->Prop)(win nx:Int)(a:Option Addr)(c:Nat)(l:List Au)(hv:Cz D w (.slice a l.length c) l)(hl:l.length<=100000)(bk:Int):vR 115 #[.agg #[.int .i64 win,.int .i64 nx,.slice a l.length c],.int .i64 bk] w (.int .i64 (Pj (Ks l bk))):=by
 have K:∀ (fn:Fn) (first cap:Array vV) (w:vW),(Instr.makeFunc fn first cap).run prog w=.ok (.func fn first cap) w:=fun _ _ _ _=>rfl;have Z:=Hd hv;have q:=((Aa w).alloc (.cells #[.int .i64 win,.int .i64 nx,.slice a l.length c] 70)).alloc (.cells #[.int .i64 bk] 3);have A:=Ae.new (w.alloc (.cells #[.int .i64 win,.int .i64 nx,.slice a l.length c] 70)) (.cells #[.int .i64 bk] 3);have H:=Hd (jwc 159 uM (vX 159) _ D win nx a c l (hv.ext q) hl _ bk (A.cell (i:=0) vF));have O:=Hd q;rw[bG]at H;clear hv q A;unfold vR vQ;go_in;go_wp2_with fail
 refine H.o.mono ?_;rintro e w1 ⟨rfl,J⟩;have X:=Hd (O.o.trans J);clear J;go_wp2_with fail
 go_ret
 exact⟨rfl,X.o⟩
end
section
open Go Go.RowKit
theorem YT{p:Nat}:∀ (X:List VX) (i:Nat) (y:VX),X[i]?=some y->(Hq X).set (i*4+3) (.int .i64 (p:Int))=Hq (X.set i ⟨DT y.v p,y.ev,y.cv⟩)
 |[],_,_,h=>by simp at h
 |x::t,0,y,h=>by
  have e:x=y:=by simpa using h
  subst e;rfl
 |x::t,i+1,y,h=>by
  have q:=YT (p:=p) t i y (by simpa using h);show (x.cells++Hq t).set ((i+1)*4+3) _=x.cells++Hq (t.set i _);rw[dR _ _ (show x.cells.length<=_ from by show 4<=_;omega), <-q]
  congr 2
  show (i+1)*4+3-4=_;omega
theorem MB.pins{w:vW}{y:VX}(h:MB w T W g X)(hy:X[i]?=some y):MB w T (W.setCell ⟨g,i*4+3,none⟩ (.int .i64 (p:Int))) g (X.set i ⟨DT y.v p,y.ev,y.cv⟩):=by
 have k:=Ad.oneSet W ⟨g,i*4+3,none⟩ (.int .i64 (p:Int));have A:=h.lo
 refine⟨h.lo,h.gt,bF h.tw k.size,?_,fun x q=>?_,h.ext.trans' k fun x q e=>by have e:x=g:=e;omega⟩
 ·have:=h.blk.set_same (i:=i*4+3) (.int .i64 (p:Int));rw[fT,YT X i y hy]at this;exact this
 ·(have hb:Ga (fun b=>w.heap.size+2<=b/\b<T/\b≠g) W x.ev x.v.ents/\Fz (fun b=>w.heap.size+2<=b/\b<T/\b≠g) W x.cv x.v.chgs:=by rcases gS q with q|rfl;{exact h.hold x q};exact h.hold y (bD hy));exact⟨hb.1.keeps k fun b hb e=>hb.2.2 e,hb.2.keeps k fun b hb e=>hb.2.2 e⟩
theorem MB.atV{w:vW}{v:Au}(h:MB w T W g X)(hX:X.map VX.v=l)(hv:l[i]?=some v):∃ y,X[i]?=some y/\y.v=v/\W.cell? ⟨g,i*4,none⟩=some (.int .i64 (v.block:Int))/\W.cell? ⟨g,i*4+3,none⟩=some (.int .i64 (v.pins:Int)):=by
 rw[<-hX,bY,dG]at hv
 obtain⟨y,q,e⟩:=hv
 refine⟨y,q,e,?_,?_⟩
 ·have:=h.blk.cellL (i:=i*4+0) (v:=.int .i64 (y.v.block:Int)) (by rw[JH X i y q 0 vI];rfl);rw[<-e];exact this
 ·have:=h.blk.cellL (i:=i*4+3) (v:=.int .i64 (y.v.pins:Int)) (by rw[JH X i y q 3 vI];rfl);rw[<-e];exact this
theorem MB.setV{y:VX}{v:Au}(hX:X.map VX.v=M.all)(e:y.v=v):(X.set i ⟨DT y.v p,y.ev,y.cv⟩).map VX.v=Ke M i v p:=by
 unfold Ke;rw[gO,hX,e]
theorem uV(D:Nat->Prop)(M:Cn)(av:vV)(hv:Cz D w av M.all)(hM:Ew M)(hl:M.all.length<=900)(at':Int):vQ 61 #[Il M av,.int .i64 at'] w fun e w'=>∃ av',e=.returned (.tuple #[Il (Ek M at').1 av',.int .i64 ((Ek M at').2.1:Int),.int .i64 (Ek M at').2.2])/\Af w w'/\Cz (Fo w w') w' av' (Ek M at').1.all:=by
 obtain⟨a0,c0,rfl⟩:=hv.sl
 have HV:=Hd (bA hv (bA hM hl))
 obtain⟨R,hR⟩:=vE (Ek M at')
 have HR:=Hd hR;rw[<-hR];unfold Il
 obtain⟨n,c3⟩:=vE M.all.length
 rw[<-c3];have HN:=Hd c3;have e0:n≠0:=by rw[c3];exact fun e=>hM.ne (bH e)
 have f2:n<=900:=by rw[c3];exact hl
 clear hv hR hM hl c3;unfold vQ;go_in;go_wp2_with fail
 have b5:=((Aa w).alloc (.cells #[.int .i64 (M.win:Int),.int .i64 (M.next:Int),.slice a0 n c0] 70)).alloc (.cells #[.int .i64 0,.int .i64 0,.slice none 0 0] 70);have c4:=(Ae.new w (.cells #[.int .i64 (M.win:Int),.int .i64 (M.next:Int),.slice a0 n c0] 70)).alloc (.cells #[.int .i64 0,.int .i64 0,.slice none 0 0] 70);have a8:Ae ((w.alloc (.cells #[.int .i64 (M.win:Int),.int .i64 (M.next:Int),.slice a0 n c0] 70)).alloc (.cells #[.int .i64 0,.int .i64 0,.slice none 0 0] 70)) (w.heap.size+1) (.cells #[.int .i64 0,.int .i64 0,.slice none 0 0] 70):=by have:=Ae.new (w.alloc (.cells #[.int .i64 (M.win:Int),.int .i64 (M.next:Int),.slice a0 n c0] 70)) (.cells #[.int .i64 0,.int .i64 0,.slice none 0 0] 70);rwa [show (w.alloc (.cells #[.int .i64 (M.win:Int),.int .i64 (M.next:Int),.slice a0 n c0] 70)).heap.size=w.heap.size+1 from gH _]at this
 have c2:=a8.lt;generalize (w.alloc (.cells #[.int .i64 (M.win:Int),.int .i64 (M.next:Int),.slice a0 n c0] 70)).alloc (.cells #[.int .i64 0,.int .i64 0,.slice none 0 0] 70)=w1 at b5 c4 a8 c2 ⊢;have h1:=VM w1 D M a0 c0 (HV.o.1.ext b5) (by rw[<-HN.o];exact e0) (kL HV.o.2.2) (fun x hx=>⟨kL ((Fr (HV.o.2.1.ver x hx).map).len),kL ((HV.o.2.1.ver x hx).chgs)⟩);rw[<-HN.o]at h1;refine h1.mono ?_;rintro e w2 ⟨g,X,rfl,hX,hO⟩;have c4:=c4.keeps hO.ext kI;have a8:=a8.keeps hO.ext kI;have e4:=Hd c4;have HO:=Hd (bA hX (bA hO (bA b5 (bA c2 a8))));clear h1 hX hO b5 c2 c4 a8;go_wp2_with (refine Bv (vs:=[.int .i64 (M.win:Int),.int .i64 (M.next:Int),.slice (some ⟨g,0,none⟩) n n]) rfl rfl rfl rfl e4.o rfl Ao (by simp[Value.oneCell']) ?_;intro W3 c5 d3;have q0:W3.cell? ⟨w.heap.size,0,none⟩=some (.int .i64 (M.win:Int)):=c5.cellL rfl;have q1:W3.cell? ⟨w.heap.size,1,none⟩=some (.int .i64 (M.next:Int)):=c5.cellL rfl;have q2:W3.cell? ⟨w.heap.size,2,none⟩=some (.slice (some ⟨g,0,none⟩) n n):=c5.cellL rfl)
 obtain⟨hX,hO,b5,c2,a8⟩:=HO.o
 have J:X.length=n:=by rw[HN.o, <-hX,bU]
 have b1:=MB.start hO b5 c2 d3;have a8:=a8.keeps d3 (fun e=>by have e:w.heap.size+1=w.heap.size:=e;omega);have b6:=b1.vrow;rw[hX,J]at b6;have d4:=UZ W3 _ M (some ⟨g,0,none⟩) n (by rw[<-HN.o];exact b6) HV.o.2.1 (kL HV.o.2.2);rw[<-HN.o]at d4;refine d4.mono ?_;rintro e W4 ⟨rfl,c7⟩;have b6:=b6.ext c7;rw[HN.o]at b6;have c8:=c5.keeps c7 kI;have HB:=Hd (bA hX (bA (b1.more c7) (bA c8 (bA (a8.keeps c7 kI) (bA J b6)))));have e5:W4.cell? ⟨w.heap.size,0,none⟩=some (.int .i64 (M.win:Int)):=c8.cellL rfl;have e6:W4.cell? ⟨w.heap.size,1,none⟩=some (.int .i64 (M.next:Int)):=c8.cellL rfl;have e7:W4.cell? ⟨w.heap.size,2,none⟩=some (.slice (some ⟨g,0,none⟩) n n):=c8.cellL rfl;clear hX hO b5 c2 a8 J b1 b6 d4 c7 c8 q0 q1 q2 c5 d3;go_wp2_with fail
 have d5:=rQ W4 _ (M.win:Int) (M.next:Int) (some ⟨g,0,none⟩) M.all.length M.all HB.o.2.2.2.2.2 (kL HV.o.2.2) at';rw[<-HN.o]at d5;refine d5.mono ?_;clear d5 e5 e6 e7;rintro e W5 ⟨rfl,d2⟩;have q:=Hd (bA HB.o.1 (bA (HB.o.2.1.more d2) (bA (HB.o.2.2.1.keeps d2 kI) (bA (HB.o.2.2.2.1.keeps d2 kI) HB.o.2.2.2.2.1))));have q0:W5.cell? ⟨w.heap.size,0,none⟩=some (.int .i64 (M.win:Int)):=q.o.2.2.1.cellL rfl;have q1:W5.cell? ⟨w.heap.size,1,none⟩=some (.int .i64 (M.next:Int)):=q.o.2.2.1.cellL rfl;have q2:W5.cell? ⟨w.heap.size,2,none⟩=some (.slice (some ⟨g,0,none⟩) n n):=q.o.2.2.1.cellL rfl;clear HB d2
 by_cases ha:at' = -1
 ·(have b4:IB M at'=some (M.all.length-1):=by unfold IB;rw[if_pos ha]);obtain⟨v,Z,_⟩:=HV.o.2.1.lastAt;obtain⟨k,hk⟩:∃ k,n=k+1:=⟨n-1,by omega⟩;(have d9:IntKind.i64.wrap ((n:Int)-1)=(k:Int):=by rw[Pt vO vO];omega);have d8:(n:Int)-1=(k:Int):=vO;(rw[<-HN.o,show n-1=k by omega]at b4 Z;have e1:(at' == -1)=true:=by rw[ha];rfl);clear ha hk;obtain⟨y,hy,b7,p0,p3⟩:=q.o.2.1.atV q.o.1 Z;(have e8:(k:Int)<(n:Int):=by have:=(bI.1 Z).1;have:=HN.o;omega);have e9:¬(k:Int)<0:=vO;have b8:=(HV.o.2.1.ver v (bD Z)).pins;have HY:=Hd (bA Z (bA hy (bA b7 (bA b8 b4))));by_cases hp:v.pins=1048576;{(have e2:((v.pins:Int) == 1048576)=true:=by rw[hp];rfl);(have HP:=Hd hp;clear hp hy b7 Z b8 b4;go_wp2_with (refine Bv (vs:=[.int .i64 (M.win:Int),.int .i64 (M.next:Int),.slice (some ⟨g,0,none⟩) n n]) rfl rfl rfl rfl q.o.2.2.2.1 rfl Ao (by simp[Value.oneCell']) ?_;intro W8 c9 d0));refine bodyPost_ret (Zc rfl rfl rfl rfl (Uy W8 (w.heap.size+1) 0 [.int .i64 (M.win:Int),.int .i64 (M.next:Int),.slice (some ⟨g,0,none⟩) n n] rfl (fun j v hv=>by rw[bX];exact c9.cellL hv))) rfl ?_;obtain⟨hX,b1,_,_,J⟩:=q.o;(have a2:=b1.side d0 fun b e=>.inr (.inl e);have b2:R=(M,0,12):=by rw[HR.o];unfold Ek;rw[HY.o.2.2.2.2];simp only[HY.o.1,HP.o,if_true]);rw[b2];exact⟨_,rfl,a2.ext,a2.news J hX⟩};(have e2:((v.pins:Int) == 1048576)=false:=by simp;omega);(have e3:=Pt (x:=(v.pins:Int)+1) vO vO;have HP:=Hd hp;have f3:W5.frozen? ⟨g,k*4+3,none⟩=false:=q.o.2.1.blk.frozen;clear hp hy b7 Z b8 b4;go_wp2_with fail);have A:=q.o.2.1.pins (p:=v.pins+1) HY.o.2.1;have k6:=Ad.oneSet W5 ⟨g,k*4+3,none⟩ (.int .i64 ((v.pins:Int)+1));have d6:=A.lo;have a4:=q.o.2.2.1.keeps k6 (show ¬ w.heap.size=g by omega);have a5:=q.o.2.2.2.1.keeps k6 (show ¬ w.heap.size+1=g by omega);rw[Int.natCast_add]at A;change MB w w2.heap.size (W5.setCell ⟨g,k*4+3,none⟩ (.int .i64 ((v.pins:Int)+1))) g _ at A;generalize W5.setCell ⟨g,k*4+3,none⟩ (.int .i64 ((v.pins:Int)+1))=W6 at A k6 a4 a5 ⊢;obtain⟨hX,_,_,_,J⟩:=q.o;have a7:=MB.setV (p:=v.pins+1) (i:=k) hX HY.o.2.2.1;have d1:=(bI.1 HY.o.1).1;obtain⟨_,_,_,b3,_⟩:=A.atV a7 (show (Ke M k v (v.pins+1))[k]?=some (DT v (v.pins+1)) by unfold Ke;rw[iC d1]);have b3:W6.cell? ⟨g,k*4,none⟩=some (.int .i64 (v.block:Int)):=b3;have O:=Hd (bA A (bA a4 (bA a5 (bA a7 (bA b3 (bA J d6))))));clear A k6 a4 a5 a7 b3 p0 p3 f3 q0 q1 q2 e2 e3 hX J d1;refine Nc [0,1,2,3,4,5,6,7,8,9] [7] Af (Ad (fun z=>z=w.heap.size+1)) Aa Aq (fun x y z h k=>Ad.trans h k) (fun x y h=>h.mono kZ) vY vY vY ?_;refine Fc ⟨w.heap.size,0,none⟩ _ rfl (fun w1 h1=>IU w1 w.heap.size 0 [.int .i64 (M.win:Int),.int .i64 (M.next:Int),.slice (some ⟨g,0,none⟩) n n] rfl (fun j v hv=>by rw[bX];exact ((O.o.2.1.drew).keeps h1 vO).cellL hv)) ?_;refine vS ?_;refine vD ?_;(refine Fc ⟨w.heap.size,2,none⟩ (.slice (some ⟨g,0,none⟩) n n) rfl (fun w1 h1=>Dt (fun w=>by kernel_rfl) (((O.o.2.1.drew).keeps h1 vO).cell (i:=2) rfl)) (vS ?_);iterate 3 refine vD ?_);(refine Fc ⟨g,k*4,none⟩ (.int .i64 (v.block:Int)) rfl (fun w1 h1=>Dt (fun w=>by kernel_rfl) (Dw O.o.2.2.2.2.1 (((Ad.refl (fun z=>z=w.heap.size+1) W6).drew).trans h1) (by show ¬ g=w.heap.size+1;omega))) ?_;refine vS ?_;refine Hl _ rfl (fun wc hc K hK=>?_);have kc:Af W6 wc:=(Ap _).trans hc;refine Yk (vs:=[.int .i64 (M.win:Int),.int .i64 (M.next:Int),.slice (some ⟨g,0,none⟩) n n]) rfl rfl rfl (O.o.2.2.1.keeps kc kI) rfl Ao (by simp[Value.oneCell']) (fun f0 a1 H=>hK _ _ H ?_);have b9:=Hd (bA kc (bA a1 H));clear hK K hc kc a1 H;refine vS ?_;iterate 2 refine vD ?_);(refine Mr (fun d7 a9=>?_);go_wp2_with fail);obtain⟨kc,a1,H⟩:=b9.o;(have c1:=a1.keeps a9 kI;refine bodyPost_ret (Zc rfl rfl rfl rfl (Uy d7 (w.heap.size+1) 0 [.int .i64 (M.win:Int),.int .i64 (M.next:Int),.slice (some ⟨g,0,none⟩) n n] rfl (fun j v hv=>by rw[bX];exact c1.cellL hv))) rfl ?_;have b2:R=(⟨M.win,M.next,Ke M k v (v.pins+1)⟩,v.block,0):=by rw[HR.o];unfold Ek;rw[HY.o.2.2.2.2];simp only[HY.o.1,HP.o,if_false]);rw[b2];have a3:=((O.o.1.more kc).side H (fun b e=>.inr (.inl e))).more a9;exact⟨_,rfl,a3.ext,a3.news (by rw[gV];exact O.o.2.2.2.2.2.1) O.o.2.2.2.1⟩
 ·(have e1:(at' == -1)=false:=by simpa using ha);(have b0:IB M at'=Ks M.all at':=by unfold IB;rw[if_neg ha]);clear ha;cases hpl:Ks M.all at' with| none =>(rw[hpl]at b0;have f1:=Hd b0;clear hpl b0;show _;unfold Pj;go_wp2_with (refine Bv (vs:=[.int .i64 (M.win:Int),.int .i64 (M.next:Int),.slice (some ⟨g,0,none⟩) n n]) rfl rfl rfl rfl q.o.2.2.2.1 rfl Ao (by simp[Value.oneCell']) ?_;intro W8 c9 d0));refine bodyPost_ret (Zc rfl rfl rfl rfl (Uy W8 (w.heap.size+1) 0 [.int .i64 (M.win:Int),.int .i64 (M.next:Int),.slice (some ⟨g,0,none⟩) n n] rfl (fun j v hv=>by rw[bX];exact c9.cellL hv))) rfl ?_;obtain⟨hX,b1,_,_,J⟩:=q.o;(have a2:=b1.side d0 fun b e=>.inr (.inl e);have b2:R=(M,0,4):=by rw[HR.o];unfold Ek;rw[f1.o]);rw[b2];exact⟨_,rfl,a2.ext,a2.news J hX⟩| some i =>obtain⟨v,Z,_⟩:=JB hpl;have b4:IB M at'=some i:=b0.trans hpl;clear hpl b0;unfold Pj;obtain⟨y,hy,b7,p0,p3⟩:=q.o.2.1.atV q.o.1 Z;(have e8:(i:Int)<(n:Int):=by have:=(bI.1 Z).1;have:=HN.o;omega);have e9:¬(i:Int)<0:=vO;have b8:=(HV.o.2.1.ver v (bD Z)).pins;have HY:=Hd (bA Z (bA hy (bA b7 (bA b8 b4))));by_cases hp:v.pins=1048576;{(have e2:((v.pins:Int) == 1048576)=true:=by rw[hp];rfl);(have HP:=Hd hp;clear hp hy b7 Z b8 b4;go_wp2_with (refine Bv (vs:=[.int .i64 (M.win:Int),.int .i64 (M.next:Int),.slice (some ⟨g,0,none⟩) n n]) rfl rfl rfl rfl q.o.2.2.2.1 rfl Ao (by simp[Value.oneCell']) ?_;intro W8 c9 d0));refine bodyPost_ret (Zc rfl rfl rfl rfl (Uy W8 (w.heap.size+1) 0 [.int .i64 (M.win:Int),.int .i64 (M.next:Int),.slice (some ⟨g,0,none⟩) n n] rfl (fun j v hv=>by rw[bX];exact c9.cellL hv))) rfl ?_;obtain⟨hX,b1,_,_,J⟩:=q.o;(have a2:=b1.side d0 fun b e=>.inr (.inl e);have b2:R=(M,0,12):=by rw[HR.o];unfold Ek;rw[HY.o.2.2.2.2];simp only[HY.o.1,HP.o,if_true]);rw[b2];exact⟨_,rfl,a2.ext,a2.news J hX⟩};(have e2:((v.pins:Int) == 1048576)=false:=by simp;omega);(have e3:=Pt (x:=(v.pins:Int)+1) vO vO;have HP:=Hd hp;have f3:W5.frozen? ⟨g,i*4+3,none⟩=false:=q.o.2.1.blk.frozen;clear hp hy b7 Z b8 b4;go_wp2_with fail);have A:=q.o.2.1.pins (p:=v.pins+1) HY.o.2.1;have k6:=Ad.oneSet W5 ⟨g,i*4+3,none⟩ (.int .i64 ((v.pins:Int)+1));have d6:=A.lo;have a4:=q.o.2.2.1.keeps k6 (show ¬ w.heap.size=g by omega);have a5:=q.o.2.2.2.1.keeps k6 (show ¬ w.heap.size+1=g by omega);rw[Int.natCast_add]at A;change MB w w2.heap.size (W5.setCell ⟨g,i*4+3,none⟩ (.int .i64 ((v.pins:Int)+1))) g _ at A;generalize W5.setCell ⟨g,i*4+3,none⟩ (.int .i64 ((v.pins:Int)+1))=W6 at A k6 a4 a5 ⊢;obtain⟨hX,_,_,_,J⟩:=q.o;have a7:=MB.setV (p:=v.pins+1) (i:=i) hX HY.o.2.2.1;have d1:=(bI.1 HY.o.1).1;obtain⟨_,_,_,b3,_⟩:=A.atV a7 (show (Ke M i v (v.pins+1))[i]?=some (DT v (v.pins+1)) by unfold Ke;rw[iC d1]);have b3:W6.cell? ⟨g,i*4,none⟩=some (.int .i64 (v.block:Int)):=b3;have O:=Hd (bA A (bA a4 (bA a5 (bA a7 (bA b3 (bA J d6))))));clear A k6 a4 a5 a7 b3 p0 p3 f3 q0 q1 q2 e2 e3 hX J d1;refine Nc [0,1,2,3,4,5,6,7,8,9] [7] Af (Ad (fun z=>z=w.heap.size+1)) Aa Aq (fun x y z h k=>Ad.trans h k) (fun x y h=>h.mono kZ) vY vY vY ?_;refine Fc ⟨w.heap.size,0,none⟩ _ rfl (fun w1 h1=>IU w1 w.heap.size 0 [.int .i64 (M.win:Int),.int .i64 (M.next:Int),.slice (some ⟨g,0,none⟩) n n] rfl (fun j v hv=>by rw[bX];exact ((O.o.2.1.drew).keeps h1 vO).cellL hv)) ?_;refine vS ?_;refine vD ?_;(refine Fc ⟨w.heap.size,2,none⟩ (.slice (some ⟨g,0,none⟩) n n) rfl (fun w1 h1=>Dt (fun w=>by kernel_rfl) (((O.o.2.1.drew).keeps h1 vO).cell (i:=2) rfl)) (vS ?_);iterate 3 refine vD ?_);(refine Fc ⟨g,i*4,none⟩ (.int .i64 (v.block:Int)) rfl (fun w1 h1=>Dt (fun w=>by kernel_rfl) (Dw O.o.2.2.2.2.1 (((Ad.refl (fun z=>z=w.heap.size+1) W6).drew).trans h1) (by show ¬ g=w.heap.size+1;omega))) ?_;refine vS ?_;refine Hl _ rfl (fun wc hc K hK=>?_);have kc:Af W6 wc:=(Ap _).trans hc;refine Yk (vs:=[.int .i64 (M.win:Int),.int .i64 (M.next:Int),.slice (some ⟨g,0,none⟩) n n]) rfl rfl rfl (O.o.2.2.1.keeps kc kI) rfl Ao (by simp[Value.oneCell']) (fun f0 a1 H=>hK _ _ H ?_);have b9:=Hd (bA kc (bA a1 H));clear hK K hc kc a1 H;refine vS ?_;iterate 2 refine vD ?_);(refine Mr (fun d7 a9=>?_);go_wp2_with fail);obtain⟨kc,a1,H⟩:=b9.o;(have c1:=a1.keeps a9 kI;refine bodyPost_ret (Zc rfl rfl rfl rfl (Uy d7 (w.heap.size+1) 0 [.int .i64 (M.win:Int),.int .i64 (M.next:Int),.slice (some ⟨g,0,none⟩) n n] rfl (fun j v hv=>by rw[bX];exact c1.cellL hv))) rfl ?_;have b2:R=(⟨M.win,M.next,Ke M i v (v.pins+1)⟩,v.block,0):=by rw[HR.o];unfold Ek;rw[HY.o.2.2.2.2];simp only[HY.o.1,HP.o,if_false]);rw[b2];have a3:=((O.o.1.more kc).side H (fun b e=>.inr (.inl e))).more a9;exact⟨_,rfl,a3.ext,a3.news (by rw[gV];exact O.o.2.2.2.2.2.1) O.o.2.2.2.1⟩
theorem jwH(D:Nat->Prop)(M:Cn)(av:vV)(hv:Cz D w av M.all)(hM:Ew M)(hl:M.all.length<=900)(at':Int):vQ 62 #[Il M av,.int .i64 at'] w fun e w'=>∃ c8,e=.returned (.tuple #[Il (Kt M at').1 c8,.int .i64 (Kt M at').2])/\Af w w'/\Cz (Fo w w') w' c8 (Kt M at').1.all:=by
 obtain⟨a0,c0,rfl⟩:=hv.sl
 have HV:=Hd (bA hv (bA hM hl))
 obtain⟨R,hR⟩:=vE (Kt M at')
 have HR:=Hd hR;rw[<-hR];unfold Il
 obtain⟨n,b2⟩:=vE M.all.length
 rw[<-b2];have HN:=Hd b2;have d5:n≠0:=by rw[b2];exact fun e=>hM.ne (bH e)
 have f1:n<=900:=by rw[b2];exact hl
 clear hv hR hM hl b2;unfold vQ;go_in;go_wp2_with fail
 have a3:=((Aa w).alloc (.cells #[.int .i64 (M.win:Int),.int .i64 (M.next:Int),.slice a0 n c0] 70)).alloc (.cells #[.int .i64 0,.int .i64 0,.slice none 0 0] 70);have b3:=(Ae.new w (.cells #[.int .i64 (M.win:Int),.int .i64 (M.next:Int),.slice a0 n c0] 70)).alloc (.cells #[.int .i64 0,.int .i64 0,.slice none 0 0] 70);have K:Ae ((w.alloc (.cells #[.int .i64 (M.win:Int),.int .i64 (M.next:Int),.slice a0 n c0] 70)).alloc (.cells #[.int .i64 0,.int .i64 0,.slice none 0 0] 70)) (w.heap.size+1) (.cells #[.int .i64 0,.int .i64 0,.slice none 0 0] 70):=by have:=Ae.new (w.alloc (.cells #[.int .i64 (M.win:Int),.int .i64 (M.next:Int),.slice a0 n c0] 70)) (.cells #[.int .i64 0,.int .i64 0,.slice none 0 0] 70);rwa [show (w.alloc (.cells #[.int .i64 (M.win:Int),.int .i64 (M.next:Int),.slice a0 n c0] 70)).heap.size=w.heap.size+1 from gH _]at this
 have b0:=K.lt;generalize (w.alloc (.cells #[.int .i64 (M.win:Int),.int .i64 (M.next:Int),.slice a0 n c0] 70)).alloc (.cells #[.int .i64 0,.int .i64 0,.slice none 0 0] 70)=w1 at a3 b3 K b0 ⊢;have h1:=VM w1 D M a0 c0 (HV.o.1.ext a3) (by rw[<-HN.o];exact d5) (kL HV.o.2.2) (fun x hx=>⟨kL ((Fr (HV.o.2.1.ver x hx).map).len),kL ((HV.o.2.1.ver x hx).chgs)⟩);rw[<-HN.o]at h1;refine h1.mono ?_;rintro e w2 ⟨g,X,rfl,hX,hO⟩;have b3:=b3.keeps hO.ext kI;have K:=K.keeps hO.ext kI;have d8:=Hd b3;have HO:=Hd (bA hX (bA hO (bA a3 (bA b0 K))));clear h1 hX hO a3 b0 b3 K;go_wp2_with (refine Bv (vs:=[.int .i64 (M.win:Int),.int .i64 (M.next:Int),.slice (some ⟨g,0,none⟩) n n]) rfl rfl rfl rfl d8.o rfl Ao (by simp[Value.oneCell']) ?_;intro W3 b4 c9;have q0:W3.cell? ⟨w.heap.size,0,none⟩=some (.int .i64 (M.win:Int)):=b4.cellL rfl;have q1:W3.cell? ⟨w.heap.size,1,none⟩=some (.int .i64 (M.next:Int)):=b4.cellL rfl;have q2:W3.cell? ⟨w.heap.size,2,none⟩=some (.slice (some ⟨g,0,none⟩) n n):=b4.cellL rfl)
 obtain⟨hX,hO,a3,b0,K⟩:=HO.o
 have J:X.length=n:=by rw[HN.o, <-hX,bU]
 have a4:=MB.start hO a3 b0 c9;have K:=K.keeps c9 (fun e=>by have e:w.heap.size+1=w.heap.size:=e;omega);have a5:=a4.vrow;rw[hX,J]at a5;have d0:=UZ W3 _ M (some ⟨g,0,none⟩) n (by rw[<-HN.o];exact a5) HV.o.2.1 (kL HV.o.2.2);rw[<-HN.o]at d0;refine d0.mono ?_;rintro e W4 ⟨rfl,b5⟩;have a5:=a5.ext b5;rw[HN.o]at a5;have b6:=b4.keeps b5 kI;have HB:=Hd (bA hX (bA (a4.more b5) (bA b6 (bA (K.keeps b5 kI) (bA J a5)))));have d9:W4.cell? ⟨w.heap.size,0,none⟩=some (.int .i64 (M.win:Int)):=b6.cellL rfl;have e0:W4.cell? ⟨w.heap.size,1,none⟩=some (.int .i64 (M.next:Int)):=b6.cellL rfl;have e1:W4.cell? ⟨w.heap.size,2,none⟩=some (.slice (some ⟨g,0,none⟩) n n):=b6.cellL rfl;clear hX hO a3 b0 K J a4 a5 d0 b5 b6 q0 q1 q2 b4 c9;go_wp2_with fail
 have d1:=rQ W4 _ (M.win:Int) (M.next:Int) (some ⟨g,0,none⟩) M.all.length M.all HB.o.2.2.2.2.2 (kL HV.o.2.2) at';rw[<-HN.o]at d1;refine d1.mono ?_;clear d1 d9 e0 e1;rintro e W5 ⟨rfl,c3⟩;have A:=Hd (bA HB.o.1 (bA (HB.o.2.1.more c3) (bA (HB.o.2.2.1.keeps c3 kI) (bA (HB.o.2.2.2.1.keeps c3 kI) HB.o.2.2.2.2.1))));have q0:W5.cell? ⟨w.heap.size,0,none⟩=some (.int .i64 (M.win:Int)):=A.o.2.2.1.cellL rfl;have q1:W5.cell? ⟨w.heap.size,1,none⟩=some (.int .i64 (M.next:Int)):=A.o.2.2.1.cellL rfl;have q2:W5.cell? ⟨w.heap.size,2,none⟩=some (.slice (some ⟨g,0,none⟩) n n):=A.o.2.2.1.cellL rfl;clear HB c3;cases hpl:Ks M.all at' with
 |none =>(have e5:=Hd hpl;clear hpl;unfold Pj;go_wp2_with (refine Bv (vs:=[.int .i64 (M.win:Int),.int .i64 (M.next:Int),.slice (some ⟨g,0,none⟩) n n]) rfl rfl rfl rfl A.o.2.2.2.1 rfl Ao (by simp[Value.oneCell']) ?_;intro W8 b7 a8));refine bodyPost_ret (DQ rfl rfl rfl (Uy W8 (w.heap.size+1) 0 [.int .i64 (M.win:Int),.int .i64 (M.next:Int),.slice (some ⟨g,0,none⟩) n n] rfl (fun j v hv=>by rw[bX];exact b7.cellL hv))) rfl ?_;obtain⟨hX,a4,_,_,J⟩:=A.o;(have O:=a4.side a8 fun b e=>.inr (.inl e);have b8:R=(M,4):=by rw[HR.o];unfold Kt;rw[e5.o]);rw[b8];exact⟨_,rfl,O.ext,O.news J hX⟩
 |some i =>obtain⟨v,b1,_⟩:=JB hpl;unfold Pj;obtain⟨y,hy,c4,p0,p3⟩:=A.o.2.1.atV A.o.1 b1;(have e6:(i:Int)<(n:Int):=by have:=(bI.1 b1).1;have:=HN.o;omega);have e7:¬(i:Int)<0:=vO;have d2:=(HV.o.2.1.ver v (bD b1)).pins;have HY:=Hd (bA b1 (bA hy (bA c4 (bA d2 hpl))));by_cases hp:v.pins=0;{(have e2:((v.pins:Int) == 0)=true:=by rw[hp];rfl);(have HP:=Hd hp;clear hp hy c4 b1 d2 hpl;go_wp2_with (refine Bv (vs:=[.int .i64 (M.win:Int),.int .i64 (M.next:Int),.slice (some ⟨g,0,none⟩) n n]) rfl rfl rfl rfl A.o.2.2.2.1 rfl Ao (by simp[Value.oneCell']) ?_;intro W8 b7 a8));refine bodyPost_ret (DQ rfl rfl rfl (Uy W8 (w.heap.size+1) 0 [.int .i64 (M.win:Int),.int .i64 (M.next:Int),.slice (some ⟨g,0,none⟩) n n] rfl (fun j v hv=>by rw[bX];exact b7.cellL hv))) rfl ?_;obtain⟨hX,a4,_,_,J⟩:=A.o;(have O:=a4.side a8 fun b e=>.inr (.inl e);have b8:R=(M,4):=by rw[HR.o];unfold Kt;rw[HY.o.2.2.2.2];simp only[HY.o.1,HP.o,if_true]);rw[b8];exact⟨_,rfl,O.ext,O.news J hX⟩};(have e2:((v.pins:Int) == 0)=false:=by simp;omega);obtain⟨q,hq⟩:∃ q,v.pins=q+1:=⟨v.pins-1,by omega⟩;(have e3:IntKind.i64.wrap ((v.pins:Int)-1)=(q:Int):=by rw[Pt vO vO];omega);have e4:(v.pins:Int)-1=(q:Int):=vO;have HP:=Hd (bA hp hq);have f3:W5.frozen? ⟨g,i*4+3,none⟩=false:=A.o.2.1.blk.frozen;have H:=A.o.2.1.pins (p:=q) hy;have k6:=Ad.oneSet W5 ⟨g,i*4+3,none⟩ (.int .i64 (q:Int));have f2:=H.lo;have a2:=A.o.2.2.1.keeps k6 (show ¬ w.heap.size=g by omega);have Z:=A.o.2.2.2.1.keeps k6 (show ¬ w.heap.size+1=g by omega);obtain⟨hX,_,_,_,J⟩:=A.o;(have a1:=MB.setV (p:=q) (i:=i) hX c4;have H6:=Hd (bA H (bA a2 (bA Z (bA a1 J))));clear hp hq hy c4 b1 d2 hpl H k6 a2 Z a1 hX J;go_wp2_with fail);rw[show Go.RowKit.wrap64 (q:Int)=(q:Int) by have:=HP.o.2;have:=HY.o.2.2.2.1;unfold Go.RowKit.wrap64;omega];obtain⟨W6,d6⟩:=vE (W5.setCell ⟨g,i*4+3,none⟩ (.int .i64 (q:Int)));rw[<-d6]at H6 ⊢;clear d6 q0 q1 q2 p0 p3 f3;obtain⟨H,a2,Z,a1,J⟩:=H6.o;(have a9:=H.vrow;rw[a1,gV,J]at a9;have f4:=H.gt;have f5:=H.tw;have d3:(Ke M i v q).length=n:=by unfold Ke;rw[gV,HN.o]);have d7:=lI W6 (fun b=>w.heap.size+2<=b/\b<w2.heap.size) (fun b hb=>kL hb.2) ⟨M.win,M.next,Ke M i v q⟩ _ a9 (fun e=>by have e:Ke M i v q=[]:=e;rw[e]at d3;exact d5 d3.symm) (by have:=HV.o.2.1.win;show M.win<=8;omega) (by have:=HV.o.2.1.next;show M.next<=2000000;omega) (by show (Ke M i v q).length<=1000;omega) (fun x hx=>by have hx:x∈Ke M i v q:=hx;rcases gS hx with hx|rfl;{have h1:=HV.o.2.1.less x hx;have h2:=(HV.o.2.1.ver x hx).pins;have h3:=HV.o.2.1.next;exact⟨by omega,by omega⟩};have h1:=HV.o.2.1.less v (bD HY.o.1);have h3:=HV.o.2.1.next;have h4:=HP.o.2;have h5:=HY.o.2.2.2.1;exact⟨by show v.block<=_;omega,by show q<=_;omega⟩);refine d7.mono ?_;rintro e W7 ⟨c8,rfl,c5,b9⟩;obtain⟨a7,c7,e8⟩:=b9.sl;subst e8;have c1:=H.more c5;have d4:=Hd (Z.keeps c5 kI);have e9:=Hd (bA c1.ext (bA c5.size b9));obtain⟨cl,c2⟩:=vE (Hy M.win M.next (Ke M i v q));(unfold Il;show _;have f6:=Hd c2;clear H a2 Z a1 J a9 d3 d7 c5 b9 c1 c2 e2 e3 e4 e6 e7;go_wp2_with (refine Bv (vs:=[.int .i64 (M.win:Int),.int .i64 (M.next:Int),.slice a7 (Hy M.win M.next (Ke M i v q)).length c7]) rfl rfl rfl rfl d4.o rfl Ao (by simp[Value.oneCell']) ?_;intro W8 b7 a8));(refine bodyPost_ret (DQ rfl rfl rfl (Uy W8 (w.heap.size+1) 0 [.int .i64 (M.win:Int),.int .i64 (M.next:Int),.slice a7 (Hy M.win M.next (Ke M i v q)).length c7] rfl (fun j v hv=>by rw[bX];exact b7.cellL hv))) rfl ?_;have b8:R=(⟨M.win,M.next,Hy M.win M.next (Ke M i v q)⟩,0):=by rw[HR.o];unfold Kt;rw[HY.o.2.2.2.2];simp only[HY.o.1,HP.o.1,if_false];rw[HP.o.2];rfl);rw[b8];obtain⟨f0,f7,b9⟩:=e9.o;have f8:=a8.size;refine⟨_,rfl,f0.trans' a8 kJ,?_⟩;refine (b9.keeps a8 (fun b hb e=>?_)).mono fun b hb=>?_;{have e:b=w.heap.size+1:=e;rcases hb with⟨h,_⟩|⟨h,_⟩<;>omega};rcases hb with⟨h1,h2⟩|⟨h1,h2⟩;{exact⟨by omega,by omega⟩};exact⟨by omega,by omega⟩
abbrev EB:Fx prog 3 Int:=wO Fg
theorem Fp:prog.underlying 72=some (.map 3 9):=vY
def Qw(M:Cn)(a:Option Addr)(c rm sb cb:Nat):List vV:=[.int .i64 (M.win:Int),.int .i64 (M.next:Int),.slice a M.all.length c,.map (some rm),.pointer (some ⟨sb,0,none⟩),.pointer (some ⟨cb,0,none⟩)]
structure Ky(D:Nat->Prop)(W:World)(b:Nat)(M:Cn)(a:Option Addr)(c rm sb cb:Nat)(es:List (Ce Int))(ck:Nat):Prop where
 blk:Ae W b (.cells (Qw M a c rm sb cb).toArray 78)
 ver:Cz D W (.slice a M.all.length c) M.all
 map:Ae W rm (.map (EB.arr es) ck)
theorem Ky.keeps{b:Nat}{a:Option Addr}{c:Nat}(h:Ky D W b M a c rm sb cb es ck)(k:Ad F W W')(h1:¬ F b)(h2:¬ F rm)(h3:∀ b,D b->¬ F b):Ky D W' b M a c rm sb cb es ck:=
 ⟨h.blk.keeps k h1,h.ver.keeps k h3,h.map.keeps k h2⟩
theorem Ky.ext{a:Option Addr}{c:Nat}(h:Ky D W b M a c rm sb cb es ck)(k:Af W W'):Ky D W' b M a c rm sb cb es ck:=h.keeps k kI kI fun _ _ e=>e
theorem CM(D:Nat->Prop)(b:Nat)(M:Cn)(a:Option Addr)(c rm sb cb:Nat)(es:List (Ce Int))(ck:Nat)(h:Ky D w b M a c rm sb cb es ck):vR 33 #[.pointer (some ⟨b,0,none⟩)] w (.bool true):=by
 have e:w.cell? ⟨b,4,none⟩=some (.pointer (some ⟨sb,0,none⟩)):=h.blk.cellL rfl;clear h;unfold vR vQ;go_in;go_wp2_with fail
 go_ret
 exact⟨rfl,Aa w⟩
theorem RM{w:vW}{a:Act}{d:Option Tmp}{x y:Operand}{ty:TypeId}{pos:String}{af:Array Edge}{g:Option (Nat × Bool)}(ok:Bool)(hb:Ae w rm (.map (EB.arr es) ck))(hx:a.eval x=.map (some rm))(hy:a.eval y=.int .i64 bk):(execOp a.eval ⟨d,.lookup 72 x y ok,ty,pos,af,g⟩).run prog w=.ok (.value (if ok then .tuple #[(Dr es bk).getD (.string ⟨#[]⟩),.bool (Dr es bk).isSome]else (Dr es bk).getD (.string ⟨#[]⟩))) w:=by
 have:=Xd EB Fp hb (z:=.string ⟨#[]⟩) vY bk ok
 have e:EB.κ bk=.int .i64 bk:=rfl;rw[e]at this;simp only[execOp,hx,hy,bQ,this,Result.andThen,cU]
theorem GM(D:Nat->Prop)(b:Nat)(M:Cn)(a:Option Addr)(c rm sb cb:Nat)(es:List (Ce Int))(ck:Nat)(h:Ky D w b M a c rm sb cb es ck)(hl:M.all.length<=1000)(bk:Int)(i:Nat)(v:Au)(r:vB)(hp:Ks M.all bk=some i)(hv:M.all[i]?=some v)(hr:Dr es bk=some (.string r)):vQ 38 #[.pointer (some ⟨b,0,none⟩),.int .i64 bk] w fun e w'=>∃ x:VX,e=.returned (.tuple #[.agg x.cells.toArray,.string r,.nilIface])/\x.v=v/\Ga D w x.ev v.ents/\Fz D w x.cv v.chgs/\Af w w':=by
 have H:=Hd h;have HP:=Hd (bA hp (bA hv (bA hr hl)))
 obtain⟨b1,o1,a1,c1,a2,c2,rfl,q0,q1,q2,q3,r1,r2⟩:=h.ver.at' hv
 have HQ:=Hd (bA q0 (bA q1 (bA q2 (bA q3 (bA r1 r2)))));have a5:=(bI.1 hv).1;clear q0 q1 q2 q3 r1 r2;have a9:∀ (fn:Fn) (first cap:Array vV) (w:vW),(Instr.makeFunc fn first cap).run prog w=.ok (.func fn first cap) w:=fun _ _ _ _=>rfl
 obtain⟨n,a4⟩:=vE M.all.length
 have HN:=Hd a4;clear h hp hv hr hl a4;unfold vQ;go_in;go_wp2_with fail
 have q:=((Aa w).alloc (.cells #[.int .i64 bk] 3)).alloc (.cells #[.int .i64 0,.slice none 0 0,.slice none 0 0,.int .i64 0] 91);have Z:=(Ae.new w (.cells #[.int .i64 bk] 3)).alloc (.cells #[.int .i64 0,.slice none 0 0,.slice none 0 0,.int .i64 0] 91);have a0:Ae ((w.alloc (.cells #[.int .i64 bk] 3)).alloc (.cells #[.int .i64 0,.slice none 0 0,.slice none 0 0,.int .i64 0] 91)) (w.heap.size+1) (.cells #[.int .i64 0,.slice none 0 0,.slice none 0 0,.int .i64 0] 91):=by have:=Ae.new (w.alloc (.cells #[.int .i64 bk] 3)) (.cells #[.int .i64 0,.slice none 0 0,.slice none 0 0,.int .i64 0] 91);rwa [show (w.alloc (.cells #[.int .i64 bk] 3)).heap.size=w.heap.size+1 from gH _]at this
 generalize (w.alloc (.cells #[.int .i64 bk] 3)).alloc (.cells #[.int .i64 0,.slice none 0 0,.slice none 0 0,.int .i64 0] 91)=w1 at q Z a0 ⊢;refine vC (CM w1 D b M (some ⟨b1,o1,none⟩) c rm sb cb es ck (H.o.ext q)) fun w2 A=>?_;have O:=Hd (bA (H.o.ext (q.trans A)) (bA (Z.keeps A kI) (bA (a0.keeps A kI) (q.trans A))));clear q Z a0 A;go_wp2_with fail
 refine Ij [0,1,2,3,4,5,6,7,8,9,10] Af Aa Aq vY vY vY ?_
 refine vK ?_
 refine Lo _ (.pointer (some ⟨b,0,none⟩)) rfl (fun w1 _=>by kernel_rfl) (vS ?_)
 refine vK ?_
 refine Dc ⟨b,3,none⟩ (.map (some rm)) rfl (fun w3 X=>Dt (fun w=>by kernel_rfl) (Am (O.o.1.blk.cellL rfl) ((Ap _).trans X))) (vS ?_);refine Dc ⟨w.heap.size,0,none⟩ (.int .i64 bk) rfl (fun w3 X=>Dt (fun w=>by kernel_rfl) (Am (O.o.2.1.cell (i:=0) rfl) ((Ap _).trans X))) (vS ?_);refine Lo _ (.tuple #[.string r,.bool true]) rfl (fun w3 X=>by refine (RM true (O.o.1.map.keeps ((Ap _).trans X) kI) rfl rfl).trans ?_;rw[HP.o.2.2.1];rfl) ?_
 refine vS ?_;iterate 5 refine vK ?_
 refine Hv (fun w3 X=>?_);have J:Af w2 w3:=(Ap _).trans X;have H3:=Hd (bA (O.o.1.ext J) (bA (O.o.2.1.keeps J kI) (bA (O.o.2.2.1.keeps J kI) (O.o.2.2.2.trans J))));have q2:w3.cell? ⟨b,2,none⟩=some (.slice (some ⟨b1,o1,none⟩) n c):=by rw[HN.o];exact H3.o.1.blk.cellL rfl
 clear X J O;go_wp2_with fail
 have a3:=mH 83 jzV (fun args w=>by kernel_rfl) w3 D (some ⟨b1,o1,none⟩) c M.all H3.o.1.ver (kL HP.o.2.2.2) w.heap.size bk (H3.o.2.1.cell (i:=0) rfl);rw[<-HN.o]at a3;refine a3.mono ?_;rintro e w4 ⟨rfl,K⟩;rw[HP.o.1];have hE:=H3.o.2.2.2.trans K;have H4:=Hd (bA hE (H3.o.2.2.1.keeps K kI));have q2:w4.cell? ⟨b,2,none⟩=some (.slice (some ⟨b1,o1,none⟩) n c):=Am q2 K;have p0:=Am HQ.o.1 hE;have p1:=Am HQ.o.2.1 hE;have p2:=Am HQ.o.2.2.1 hE;have p3:=Am HQ.o.2.2.2.1 hE;have b0:(i:Int)<(n:Int):=kL HN.o
 have b2:¬(i:Int)<0:=vO
 unfold Pj;clear hE K a3 a5 H3;go_wp2_with (refine Bv (vs:=[.int .i64 (v.block:Int),.slice a1 v.ents.length c1,.slice a2 v.chgs.length c2,.int .i64 (v.pins:Int)]) rfl rfl rfl rfl H4.o.2 rfl Bt (by simp[Value.oneCell']) ?_;intro W8 a7 a8)
 refine bodyPost_ret (Zc rfl rfl rfl rfl (RB W8 (w.heap.size+1) 0 [.int .i64 (v.block:Int),.slice a1 v.ents.length c1,.slice a2 v.chgs.length c2,.int .i64 (v.pins:Int)] rfl (fun j u hu=>by rw[bX];exact a7.cellL hu))) rfl ?_
 exact⟨⟨v,.slice a1 v.ents.length c1,.slice a2 v.chgs.length c2⟩,rfl,rfl,HQ.o.2.2.2.2.1,HQ.o.2.2.2.2.2,H4.o.1.trans' a8 kJ⟩
end
section
open Go Go.RowKit
attribute [local go_sem] Oper.semAt_some
def Wp:vV:=.iface 25 (.int .i64 4)
theorem GE:vQ 39 #[.nilIface,Wp] w fun e w'=>e=.returned (.bool false)/\w=w':=by
 unfold Wp;have q:∀ w,(binOp .eql 94 .nilIface (.iface 25 (.int .i64 4))).run prog w=.ok (.bool false) w:=fun w=>by kernel_rfl
 unfold vQ;go_in;go_wp2_with fail
 go_ret
 exact⟨rfl,rfl⟩
theorem xE:vQ 85 #[Wp,Wp,.bool true] w fun e w'=>e=.returned (.bool true)/\w=w':=by
 have q:∀ w,(binOp .eql 94 Wp Wp).run prog w=.ok (.bool true) w:=fun w=>by kernel_rfl
 unfold Wp at *;unfold vQ;go_in;go_wp2_with fail
 refine wp_loop_rounds 1 ?_;rw[rounds_succ];go_wp2_with fail
 go_ret
 exact⟨rfl,rfl⟩
theorem jvJ:vQ 39 #[Wp,Wp] w fun e w'=>e=.returned (.bool true)/\w=w':=by
 have q:=Hd (xE w);have A:∀ w,(binOp .eql 94 Wp .nilIface).run prog w=.ok (.bool false) w:=fun w=>by kernel_rfl
 unfold Wp at *;have J:∀ w,(callFunc 84 #[.iface 25 (.int .i64 4)]).run prog w=.ok (.value (.iface 242 (.agg #[.pointer (some ⟨3,25,none⟩)]))) w:=fun w=>by kernel_rfl
 have H:∀ w,(callFunc 269 #[.agg #[.pointer (some ⟨3,25,none⟩)]]).run prog w=.ok (.value (.bool true)) w:=fun w=>by kernel_rfl
 have K:=Er 522;unfold vQ;go_in;go_wp2_with fail
 refine q.o.mono ?_;rintro e w1 ⟨rfl,rfl⟩;go_wp2_with fail
 go_ret
 exact⟨rfl,rfl⟩
end
section
open Go Go.RowKit
theorem jxI(D:Nat->Prop)(b:Nat)(M:Cn)(a:Option Addr)(c rm sb cb:Nat)(es:List (Ce Int))(ck:Nat)(h:Ky D w b M a c rm sb cb es ck)(bk:Int)(hr:Dr es bk=none):vR 38 #[.pointer (some ⟨b,0,none⟩),.int .i64 bk] w (.tuple #[.agg HJ.cells.toArray,.string ⟨#[]⟩,Wp]):=by
 have H:=Hd h;have HP:=Hd hr;clear h hr;unfold vR vQ;go_in;go_wp2_with fail
 have q:=((Aa w).alloc (.cells #[.int .i64 bk] 3)).alloc (.cells #[.int .i64 0,.slice none 0 0,.slice none 0 0,.int .i64 0] 91);have K:=(Ae.new w (.cells #[.int .i64 bk] 3)).alloc (.cells #[.int .i64 0,.slice none 0 0,.slice none 0 0,.int .i64 0] 91);have O:Ae ((w.alloc (.cells #[.int .i64 bk] 3)).alloc (.cells #[.int .i64 0,.slice none 0 0,.slice none 0 0,.int .i64 0] 91)) (w.heap.size+1) (.cells #[.int .i64 0,.slice none 0 0,.slice none 0 0,.int .i64 0] 91):=by have:=Ae.new (w.alloc (.cells #[.int .i64 bk] 3)) (.cells #[.int .i64 0,.slice none 0 0,.slice none 0 0,.int .i64 0] 91);rwa [show (w.alloc (.cells #[.int .i64 bk] 3)).heap.size=w.heap.size+1 from gH _]at this
 generalize (w.alloc (.cells #[.int .i64 bk] 3)).alloc (.cells #[.int .i64 0,.slice none 0 0,.slice none 0 0,.int .i64 0] 91)=w1 at q K O ⊢;refine vC (CM w1 D b M a c rm sb cb es ck (H.o.ext q)) fun w2 A=>?_;have Z:=Hd (bA (H.o.ext (q.trans A)) (bA (K.keeps A kI) (bA (O.keeps A kI) (q.trans A))));clear q K O A;go_wp2_with fail
 refine Ij [0,1,2,3,4,5,6,7,8,9,10] Af Aa Aq vY vY vY ?_
 refine vK ?_
 refine Lo _ (.pointer (some ⟨b,0,none⟩)) rfl (fun w1 _=>by kernel_rfl) (vS ?_)
 refine vK ?_
 refine Dc ⟨b,3,none⟩ (.map (some rm)) rfl (fun w3 J=>Dt (fun w=>by kernel_rfl) (Am (Z.o.1.blk.cellL rfl) ((Ap _).trans J))) (vS ?_);refine Dc ⟨w.heap.size,0,none⟩ (.int .i64 bk) rfl (fun w3 J=>Dt (fun w=>by kernel_rfl) (Am (Z.o.2.1.cell (i:=0) rfl) ((Ap _).trans J))) (vS ?_);refine Lo _ (.tuple #[.string ⟨#[]⟩,.bool false]) rfl (fun w3 J=>by refine (RM true (Z.o.1.map.keeps ((Ap _).trans J) kI) rfl rfl).trans ?_;rw[HP.o];rfl) ?_
 refine vS ?_;iterate 5 refine vK ?_
 refine Hv (fun w3 J=>?_);have X:Af w2 w3:=(Ap _).trans J;have H3:=Hd (bA (Z.o.2.2.1.keeps X kI) (Z.o.2.2.2.trans X));clear J X Z;go_wp2_with (refine Bv (vs:=HJ.cells) rfl rfl rfl rfl H3.o.1 rfl Bt (by simp[HJ,VX.cells,Value.oneCell']) ?_;intro W8 a0 a1)
 refine bodyPost_ret (Zc rfl rfl rfl rfl (RB W8 (w.heap.size+1) 0 HJ.cells rfl (fun j u hu=>by rw[bX];exact a0.cellL hu))) rfl ?_
 exact⟨rfl,H3.o.2.trans' a1 kJ⟩
theorem juQ(D:Nat->Prop)(b:Nat)(M:Cn)(a:Option Addr)(c rm sb cb:Nat)(es:List (Ce Int))(ck:Nat)(h:Ky D w b M a c rm sb cb es ck)(hl:M.all.length<=1000)(bk:Int)(i:Nat)(v:Au)(r:vB)(hp:Ks M.all bk=some i)(hv:M.all[i]?=some v)(hr:Dr es bk=some (.string r)):vR 13 #[.pointer (some ⟨b,0,none⟩),.int .i64 bk] w (.tuple #[.string r,.int .i64 0]):=by
 have Z:=Hd (GM w D b M a c rm sb cb es ck h hl bk i v r hp hv hr);clear h hp hv hr hl;unfold vR vQ;go_in;go_wp2_with fail
 refine Z.o.mono ?_;rintro e w1 ⟨x,rfl,q,h1,h2,hE⟩
 obtain⟨J,ev,cv⟩:=x
 have q:J=v:=q;subst q
 obtain⟨a1,c1,A⟩:=h1.1.sl
 obtain⟨a2,c2,H⟩:=h2.1.sl
 have A:ev=_:=A;have H:cv=_:=H;subst A H;have HE:=Hd hE;clear h1 h2 hE Z;unfold VX.cells;go_wp2_with (first|(refine Di Cp rfl rfl ?_;intro W2 K O)|(refine Bv (vs:=[.int .i64 (J.block:Int),.slice a1 J.ents.length c1,.slice a2 J.chgs.length c2,.int .i64 (J.pins:Int)]) rfl rfl rfl rfl K rfl Bt (by simp[Value.oneCell']) ?_;intro W3 a0 X))
 refine (GE W3).mono ?_;rintro e w4 ⟨rfl,rfl⟩;go_wp2_with fail
 go_ret2
 exact⟨rfl,(HE.o.trans O).trans' X fun x hx e=>by have e:x=w1.heap.size:=e;have:=HE.o.size;omega⟩
theorem SG{ops:Array Oper}{rest:List Oper}{a:Act}{w:vW}{T T2:TypeId}{x y:Operand}(hgd:o.guard=none)(ho:o.op=.store T x y)(hx:a.eval x=.pointer (some ⟨b,0,none⟩))(hy:a.eval y=.agg vs.toArray)
  (hB:Ae w b (.cells old.toArray T2)) (hl:vs.length<=old.length) (hi:(P.info? T).map (·.size)=some vs.length) (h1:∀ v∈vs,v.oneCell'=true)
  (h:∀ W,Ae W b (.cells (vs++old.drop vs.length).toArray T2)->Ad (fun z=>z=b) w W->wpList P ops Q rest (a.put o.dst undef) W):wpList P ops Q (o::rest) a w:=by
 refine wpList_store_mid hgd T x y ho b 0 vs.toArray hx hy (by have:=TS hB (o:=0) (n:=vs.length) vO;simpa using this) (by simpa using hi) (all_oneCell_toArray h1) (h _ ?_ (Ad.oneSetCells b vs 0 w))
 have:=Ae.setCells vs 0 w old hB vO
 simpa using this
theorem Ky.turn{a a':Option Addr}{c:Nat}(h:Ky D W b M a c rm sb cb es ck)(k:Af W W')(hv:Cz E W' (.slice a' M'.all.length c') M'.all)
  (hB:Ae W'' b (.cells (([.int .i64 (M'.win:Int),.int .i64 (M'.next:Int),.slice a' M'.all.length c']:List vV)++(Qw M a c rm sb cb).drop 3).toArray 78)) (k':Ad (fun z=>z=b) W' W'') (hrb:rm≠b) (hE:∀ z,E z->z≠b):Ky E W'' b M' a' c' rm sb cb es ck:=
 ⟨hB,hv.keeps k' hE,(h.map.keeps k kI).keeps k' hrb⟩
theorem jyz{x:Int}:(Ek M x).2.2≠0->(Ek M x).1=M/\(Ek M x).2.1=0:=by
 unfold Ek;split
 ·exact fun _=>⟨rfl,rfl⟩
 ·split;{exact fun _=>⟨rfl,rfl⟩};split;{exact fun _=>⟨rfl,rfl⟩};exact fun h=>absurd rfl h
theorem Ky.mono{a:Option Addr}{c:Nat}(h:Ky D W b M a c rm sb cb es ck)(k:∀ z,D z->E z):Ky E W b M a c rm sb cb es ck:=⟨h.blk,h.ver.mono k,h.map⟩
theorem jxK(D:Nat->Prop)(b:Nat)(M:Cn)(a:Option Addr)(c rm sb cb:Nat)(es:List (Ce Int))(ck:Nat)(h:Ky D w b M a c rm sb cb es ck)(hM:Ew M)(hl:M.all.length<=900)(hb:¬ D b)(hrb:rm≠b)(at':Int):vQ 20 #[.pointer (some ⟨b,0,none⟩),.int .i64 at'] w fun e w'=>e=.returned (.tuple #[.int .i64 ((Ek M at').2.1:Int),.int .i64 (Ek M at').2.2])/\Ad (fun z=>z=b) w w'/\∃ a' c',Ky (fun z=>D z\/Fo w w' z) w' b (Ek M at').1 a' c' rm sb cb es ck:=by
 have H:=Hd h;have HP:=Hd (bA hM (bA hl (bA hb hrb)));have b2:=h.blk.lt
 obtain⟨R,hR⟩:=vE (Ek M at')
 have HR:=Hd hR;rw[<-hR]
 obtain⟨n,a7⟩:=vE M.all.length
 have HN:=Hd a7;clear h hM hl hb hrb hR a7;unfold vQ;go_in;go_wp2_with fail
 refine vC (CM w D b M a c rm sb cb es ck H.o) fun w2 A=>?_;have q0:w2.cell? ⟨b,0,none⟩=some (.int .i64 (M.win:Int)):=(H.o.ext A).blk.cellL rfl;have q1:w2.cell? ⟨b,1,none⟩=some (.int .i64 (M.next:Int)):=(H.o.ext A).blk.cellL rfl;have q2:w2.cell? ⟨b,2,none⟩=some (.slice a n c):=by rw[HN.o];exact (H.o.ext A).blk.cellL rfl
 have q:=Hd A;clear A;go_wp2_with fail
 have hp:=uV w2 D M _ (H.o.ext q.o).ver HP.o.1 HP.o.2.1 at';rw[<-HN.o, <-HR.o]at hp;refine hp.mono ?_;rintro e X ⟨av,rfl,a8,Z⟩
 obtain⟨a3,c3,a9⟩:=Z.sl
 subst a9;have J:=Hd (bA a8 Z);clear hp a8 Z q0 q1 q2;unfold Il;have b0:=((H.o.ext q.o).ext J.o.1).blk
 by_cases he:R.2.2=0
 ·(have e1:(R.2.2 != 0)=false:=by rw[he];rfl);(have a0:=Hd he;rw[he];clear he e1;go_wp2_with (first|(refine Di Co rfl rfl ?_;intro W4 a1 a2)|(refine Bv (vs:=[.int .i64 (R.1.win:Int),.int .i64 (R.1.next:Int),.slice a3 R.1.all.length c3]) rfl rfl rfl rfl a1 rfl Ao (by simp[Value.oneCell']) ?_;intro W5 O a4;have q0:W5.cell? ⟨X.heap.size,0,none⟩=some (.int .i64 (R.1.win:Int)):=O.cellL rfl;have q1:W5.cell? ⟨X.heap.size,1,none⟩=some (.int .i64 (R.1.next:Int)):=O.cellL rfl;have q2:W5.cell? ⟨X.heap.size,2,none⟩=some (.slice a3 R.1.all.length c3):=O.cellL rfl;have k5:Af X W5:=a2.trans' a4 kJ;have K:=Hd (bA k5 (b0.keeps k5 kI));clear k5)|(refine SG (old:=Qw M a c rm sb cb) (vs:=[.int .i64 (R.1.win:Int),.int .i64 (R.1.next:Int),.slice a3 R.1.all.length c3]) rfl rfl rfl rfl K.o.2 (by show 3<=6;decide) Ao (by simp[Value.oneCell']) ?_;intro W6 b1 a5)));go_ret2;refine⟨by rw[a0.o];rfl,?_,a3,c3,?_⟩;{exact ((q.o.trans (J.o.1.trans K.o.1)).mono kZ).trans' a5 (fun x _ e=>e)};have b3:=a5.size;have b4:=K.o.1.size;have b5:=q.o.size;have hv:=J.o.2.ext K.o.1;refine (H.o.turn (q.o.trans (J.o.1.trans K.o.1)) hv b1 a5 HP.o.2.2.2 (fun z hz e=>?_)) |>.mono fun z hz=>?_;{have:=hz.1;omega};exact .inr ⟨kL hz.1,kL hz.2⟩
 ·(have e1:(R.2.2 != 0)=true:=by simpa using he);(have a0:=Hd he;clear he;go_wp2_with (first|(refine Di Co rfl rfl ?_;intro W4 a1 a2)|(refine Bv (vs:=[.int .i64 (R.1.win:Int),.int .i64 (R.1.next:Int),.slice a3 R.1.all.length c3]) rfl rfl rfl rfl a1 rfl Ao (by simp[Value.oneCell']) ?_;intro W5 O a4)));go_ret2;have k5:Af X W5:=a2.trans' a4 kJ;have hk:=q.o.trans (J.o.1.trans k5);obtain⟨g1,g2⟩:=jyz (M:=M) (x:=at') (by rw[<-HR.o];exact a0.o);rw[<-HR.o]at g1 g2;refine⟨by rw[g2];rfl,hk.mono kZ,a,c,?_⟩;rw[g1];exact (H.o.ext hk).mono fun z hz=>.inl hz
end
section
open Go Go.RowKit
attribute [local go_sem] Oper.semAt_some
def XA(W:vW)(b c:Nat):Prop:=∃ rv,W.cell? ⟨b,1,none⟩=some rv/\rv.ownBlock=some c
def RK(w W:vW):Prop:=w.heap.size<=W.heap.size/\∀ b,b<w.heap.size->∀ c,XA W b c->XA w b c
theorem eH(h:W'.heap[b]?=W.heap[b]?):W'.cell? ⟨b,i,none⟩=W.cell? ⟨b,i,none⟩:=by unfold World.cell?;rw[h]
theorem RK.refl:RK w w:=⟨bP _,fun _ _ _ h=>h⟩
theorem RK.trans{a b c:vW}(h:RK a b)(k:RK b c):RK a c:=⟨bF h.1 k.1,fun x e y r=>h.2 x e y (k.2 x (bE e h.1) y r)⟩
theorem RK.keeps{w:vW}(h:RK w W)(k:Ad F W W')(hF:∀ b,F b->w.heap.size<=b):RK w W':=⟨bF h.1 k.size,fun b hb c r=>by
 obtain⟨q,e,A⟩:=r
 rw[eH (k.block b (bE hb h.1) (fun f=>kL (hF b f)))]at e;exact h.2 b hb c ⟨q,e,A⟩⟩
theorem RK.ext{w:vW}(h:RK w W)(e:Af W W'):RK w W':=h.keeps e (fun _ f=>f.elim)
theorem RK.put{w:vW}{es:Array MapEntry}(h:RK w W)(k:Ad (fun z=>z=bm) W W')(hm:Ae W' bm (.map es ck)):RK w W':=⟨bF h.1 k.size,fun b hb c r=>by
 obtain⟨A,q,H⟩:=r
 by_cases e:b=bm
 ·subst e
  unfold World.cell? at q;rw[show W'.heap[b]?=_ from hm]at q;cases q
 ·rw[eH (k.block b (bE hb h.1) e)]at q
  exact h.2 b hb c ⟨A,q,H⟩⟩
theorem RK.set{w:vW}(h:RK w W)(zb:Nat)(hf:f=2\/f=3)(v:vV):RK w (W.setCell ⟨zb,f,none⟩ v):=⟨by rw[fO];exact h.1,fun b hb c r=>by
 obtain⟨A,q,H⟩:=r
 rw[World.cell?_setCell_other _ _ _ _ (fun e=>by have:=congrArg Addr.off e;rcases hf with rfl|rfl<;>cases this)]at q;exact h.2 b hb c ⟨A,q,H⟩⟩
def EI(w W:vW)(G:vT):Prop:=∀ x∈G,∀ c,XA W x.2.1 c->w.heap.size<=c
theorem EI.rk{w:vW}(h:EI w W G)(hk:RK W W')(hl:∀ x∈G,x.2.1<W.heap.size):EI w W' G:=fun x e c r=>h x e c (hk.2 _ (hl x e) c r)
def PW(L:vM):Prop:=∀ t∈L,(∃ n,Ht t n)\/IJ t
def jzF(w:vW)(bg:Nat)(L:vM)(iv:vV)(W:vW):Prop:=∃ i:Nat,i<=L.length/\iv=.int .i64 i/\(∀ t∈L.take i,∃ n,Ht t n)/\∃ G,ET w bg G (L.take i) W/\EI w W G
def Zz(Q:Prop)(L:vM):Prop:=∀ t∈L,(∃ n,Ht t n)\/(IJ t/\Q)
theorem jpL(h:∀ t∈L,∃ n,Ht t n):Zz False L:=fun t e=>.inl (h t e)
def tP(Q:Prop)(w:vW)(L:vM)(e:Ending)(w':vW):Prop:=(e=.returned (.tuple #[.map none,.int .i64 2])/\Af w w'/\Q)\/((∀ t∈L,∃ n,Ht t n)/\∃ bg G,e=.returned (.tuple #[.map (some bg),.int .i64 0])/\ET w bg G L w'/\EI w w' G)
theorem oN{P:vB->Prop}(h:∀ x∈L.take i,P x)(ht:L[i]?=some t)(hp:P t):∀ x∈L.take (i+1),P x:=fun x e=>by
 rw[cA,ht]at e;rcases bR.1 e with e|e
 ·exact h x e
 ·have e:x∈[t]:=e
  rw[bL.1 e];exact hp
theorem jtX(hc:Ha w)(hGE:Gj w)(v:vV)(L:vM)(hv:Ic w v L)(hl:L.length<=1000)(h0:L≠[])(Q:Prop)(hN:Zz Q L):vQ 65 #[v] w (tP Q w L):=by
 have g2:0<L.length:=fZ.2 h0
 obtain⟨a,c,rfl,_⟩:=hv.slice
 have f3:=Hd hv;have HC:=Hd hc;have HN:=Hd hN;have f4:=Hd hGE;have f5:=Jd w;clear hv hc hN h0 hGE;have g3:((L.length:Int) == 0)=false:=by simpa using (by omega:L.length≠0)
 unfold vQ;go_in;go_wp2_with fail
 obtain⟨bg,c1⟩:=vE w.heap.size
 have d9:=Hd c1;rw[<-c1];clear c1 f5;go_loopw [16] (fun iv wr=>jzF w bg L iv wr) (fun iv _=>L.length-(intOf iv).toNat)
 case atStart =>refine⟨0,cE _,rfl,fun t ht=>(by cases ht),[],⟨(Aa w).alloc _,⟨⟨[],0,?_,Ia.nil 0⟩,by simp,fun x q=>by cases q⟩,rfl,by rw[d9.o];exact bP _,fun x q=>by cases q⟩,fun x q=>by cases q⟩;rw[d9.o];exact Ae.new w _
 case round =>obtain⟨i,hi,rfl,b0,G,hS,e0⟩:=hrel;have c2:=Hd e0;clear e0;have b2:=Hd b0;have J:=Hd hS;clear hS b0;by_cases hlt:i<L.length;{have b1:(i:Int)<(L.length:Int):=vO;obtain⟨t,ht⟩:∃ t,L[i]?=some t:=⟨_,bB hlt⟩;obtain⟨ax,cx,hh,O⟩:=f3.o.slice;obtain⟨ba,oa,f6,c3⟩:=O i t ht;subst f6;cases hh;have q1:=Am c3 J.o.ext;rcases HN.o t (bD ht)with hnode|⟨hbad,hq⟩;(case inr =>have d4:=Hd hbad;have HQ:=Hd hq;obtain⟨n,hn⟩:=vE Db;(have a5:=Hd (show n.refs.length=16 by rw[hn];rfl);have hg:=d4.o wr (f4.o.ext J.o.ext);unfold PH at hg;rw[<-hn]at hg;clear O c3 ht hbad hn hq;go_wp2_with fail);(refine hg.mono ?_;rintro e w4 ⟨rfl,hE⟩;have b7:=Hd (J.o.ext.trans hE);clear hE hg q1;unfold Ai.V;go_wp2_with (refine Di Ac rfl rfl ?_;intro W3 b8 b9;refine Bv (vs:=n.cells) rfl rfl rfl rfl b8 (by rw[n.cells_len a5.o];rfl) (by rw[n.cells_len a5.o];exact Ab) (Ai.one _) ?_;intro W4 c4 c0;have X:Af w4 W4:=b9.trans' c0 kJ));go_ret2;exact .inl ⟨rfl,b7.o.trans X,HQ.o⟩);have a1:=Hd (oN b2.o ht hnode);obtain⟨n0,e1⟩:=hnode;have e2:=Wg e1;have e3:=Hd (jqy ht);have e4:=Hd (show Fq t=⟨t,Gc (Bo t),0,0⟩from rfl);obtain⟨n,e5⟩:=vE (Bo t);rw[<-e5]at e2 e4;obtain⟨e6,g,hg⟩:=e2;(have HG:=Hd hg;have a5:=Hd ((hg.one (Br g)).refs);have e7:=Hd e6;clear O e1 e5 e6 hg c3 ht;go_wp2_with fail);(rw[e7.o];refine vH (Zt (Br g) wr n HG.o) fun w4 b7=>?_;rw[<-e7.o];clear q1;unfold Ai.V;go_wp2_with (refine Di Ac rfl rfl ?_;intro W3 b8 b9;refine Bv (vs:=n.cells) rfl rfl rfl rfl b8 (by rw[n.cells_len a5.o];rfl) (by rw[n.cells_len a5.o];exact Ab) (Ai.one _) ?_;intro W4 c4 c0;have X:Af w4 W4:=b9.trans' c0 kJ));have c5:=Hd (b7.o.trans X);have e8:=Hd c4;clear b8 b9 c4 c0 X b7;refine vH (Tb _ _ [t] (by simp) (BA W4 [t] 9) (HC.o.ext ((J.o.ext.trans c5.o).alloc _))) fun w6 hE=>?_;rw[CA];have c7:=((Aa W4).alloc (.cells #[.string t] 9)).trans hE;have c9:=Hd (c5.o.trans c7);have f7:=Hd (e8.o.keeps c7 kI);have A:=Hd (J.o.keeps c9.o);have H:=A.o.at'.look (Ak t) false;have d0:=Hd (jxx (L:=G) (k:=ky t));have a7:Hid ((Ak t).data.toList=ky t):=rfl;have d1:=Hd (show Ud (G.map Mq) t=if (G.map Mq).any (fun x=>decide (ky t=x.1))then G.map Mq else G.map Mq++[(ky t,Fq t)]from rfl);rw[a7.o]at H;simp only[cH,if_false]at H;obtain⟨sh,e9⟩:=vE (Ak t);rw[<-e9]at H a7 ⊢;obtain⟨kt,f0⟩:=vE (ky t);rw[<-f0]at H a7 d0 d1;clear c7 c5 e8 e9 f0;cases ha:Be G kt with| some x =>(rw[ha]at H;unfold Hk at H;simp only at H;have hz:Ud (G.map Mq) t=G.map Mq:=by rw[d1.o,d0.o,ha];rfl);(have HZ:=Hd hz;clear ha hz;go_wp2_with fail);go_roundw;(case rel =>exact⟨i+1,by omega,by go_num,a1.o,G,⟨A.o.ext,A.o.at',by rw[e3.o, <-A.o.is,HZ.o],A.o.new,A.o.news⟩,c2.o.rk ((RK.refl _).ext c9.o) (fun x q=>(J.o.at'.items x q).lt)⟩);case measure=>exact vJ| none =>(rw[ha]at H;unfold Hk at H;simp only at H;have hz:Ud (G.map Mq) t=G.map Mq++[(kt,Fq t)]:=by rw[d1.o,d0.o,ha];rfl);(have HZ:=Hd hz;have HA:=Hd ha;have a4:=Jq w6 _ n a5.o f7.o;unfold Ai.V at a4;clear ha hz;go_wp2_with (refine Gv 215 (.tmp 7) rfl rfl _ _ rfl a4 ?_));refine (mE g n HG.o w6).mono ?_;rintro e K ⟨v8,rfl,a9,d5⟩;have d2:=a9.ext;have a2:=a9.new;have b3:=a9.own;obtain⟨a8,c8,rfl⟩:=a9.sl;(have S8:=A.o.keeps d2;have f1:=S8.at'.ext ((Aa K).alloc (.cells #[.string t,.slice a8 (Gc n).length c8,.int .i64 0,.int .i64 0] 142));have d3:=Ae.new K (.cells #[.string t,.slice a8 (Gc n).length c8,.int .i64 0,.int .i64 0] 142);have f2:Xk (K.alloc (.cells #[.string t,.slice a8 (Gc n).length c8,.int .i64 0,.int .i64 0] 142)) K.heap.size (Fq t):=by rw[e4.o];exact⟨_,d3,Jy b3 ((Aa K).alloc _)⟩);obtain⟨ob,g4,Z⟩:=f1.put sh (by rw[a7.o];exact HA.o) f2 (fun x q e=>kL ((S8.at'.items x q).lt));(rw[a7.o]at Z;have b4:Af w ((K.alloc (.cells #[.string t,.slice a8 (Gc n).length c8,.int .i64 0,.int .i64 0] 142)).putObj bg ob):=(S8.ext.alloc _).putObj (.inr S8.new) _;have d6:=S8.ext.size;have b5:RK wr K:=((RK.refl _).ext c9.o).ext d2;have a0:∃ es ck,Ae ((K.alloc (.cells #[.string t,.slice a8 (Gc n).length c8,.int .i64 0,.int .i64 0] 142)).putObj bg ob) bg (.map es ck):=by obtain⟨es,ck,h1,_⟩:=Z.mp;exact⟨_,ck,h1⟩);obtain⟨g5,g6,a0⟩:=a0;have a3:=(b5.ext ((Aa K).alloc (.cells #[.string t,.slice a8 (Gc n).length c8,.int .i64 0,.int .i64 0] 142))).put (Ad.onePut _ bg ob) a0;have b6:=Hd (show EI w ((K.alloc (.cells #[.string t,.slice a8 (Gc n).length c8,.int .i64 0,.int .i64 0] 142)).putObj bg ob) (G++[(kt,K.heap.size,Fq t)])from fun x q c r=>by rcases bR.1 q with q|q;{exact c2.o.rk a3 (fun x q=>(J.o.at'.items x q).lt) x q c r};rw[bL.1 q]at r;obtain⟨rv,r1,r2⟩:=r;(have f8:K.heap.size≠bg:=fun e=>by obtain⟨_,_,h1,_⟩:=S8.at'.mp;have:=h1.lt;omega);have hq:((K.alloc (.cells #[.string t,.slice a8 (Gc n).length c8,.int .i64 0,.int .i64 0] 142)).putObj bg ob).cell? ⟨K.heap.size,1,none⟩=some (.slice a8 (Gc n).length c8):=(d3.keeps (Ad.onePut _ bg ob) f8).cell (i:=1) vF;have r1:_=some rv:=r1;rw[hq]at r1;have e:=bV r1;rw[<-e]at r2;have:=a2 c r2;have:=A.o.ext.size;omega);(have d7:=Hd b4;have d8:=Hd Z;have f9:Hid (w.heap.size<=K.heap.size):=S8.ext.size;clear b5 a0 a3 d6 b4 Z f2 d3 f1 S8 b3 a2 d2 a9 d5 a4 H;go_wp2_with fail);go_roundw;(case rel =>refine⟨i+1,by omega,by go_num,a1.o,G++[(kt,K.heap.size,Fq t)],⟨d7.o,d8.o,?_,A.o.new,?_⟩,b6.o⟩;{rw[e3.o, <-A.o.is,HZ.o,bW];rfl};intro x q;rcases bR.1 q with q|q;{exact A.o.news x q};simp only[bL]at q;subst q;exact f9.o);case measure=>exact vJ};have g0:i=L.length:=vO;(subst g0;have HS:=Hd (show ET w bg G L wr by have:=J.o;rwa [cD]at this);clear J;go_wp2_with fail);go_ret2;exact .inr ⟨by have h:=b2.o;rwa [cD]at h,bg,G,rfl,HS.o,c2.o⟩
def Xq(S G:vT)(M:vM)(x:vB):Bool:=Ji (Hb M) x ||(Be S x.data.toList).isSome ||(Be G x.data.toList).isSome
theorem mT(w0:vW)(s bm:Nat)(room:Int)(S G:vT)(bg b:Nat)(h:Ev w0 s bm room S)(hG:Ln w0 bg G)(W:vW)(M:vM)(hM:Qf w0 s S bg b M W)(x:vB)(hl:M.length<=1000000):vQ 118 #[.string x,.pointer (some ⟨b+4,0,none⟩),.pointer (some ⟨b,0,none⟩),.pointer (some ⟨b+2,0,none⟩),.pointer (some ⟨b+1,0,none⟩)] W fun e w'=>e=.returned (.bool (Xq S G M x))/\Qf w0 s S bg b (M++[x]) w':=by
 obtain⟨es,ck,h5,h6⟩:=hM.tab
 obtain⟨v,n,h1,h2,h3,h4⟩:=hM.var
 obtain⟨ad,cp,rfl⟩:=Ir h2
 obtain⟨cn,a9⟩:=vE (Ez M x)
 have f2:cn<=1000000:=by rw[a9];unfold Ez;refine bF jF ?_;rw[bU];exact hl
 have e6:=h6 x;rw[<-a9]at e6;have d3:(Instr.lookup 133 (.map (some (b+3))) (.string x) false).run prog W=.ok (.int .i64 (cn:Int)) W:=by have:=Xd Al Bi h5 (Df W) x.data.toList false;rw[e6]at this;unfold Jv at this;by_cases h0:cn=0;{rw[if_pos h0]at this;rw[h0];exact this};rw[if_neg h0]at this;exact this
 obtain⟨Gb,a0⟩:=vE (Iy es x.data.toList (.int .i64 ((cn:Int)+1)) ck)
 obtain⟨b5,b1⟩:=vE (if (Dr es x.data.toList).isSome then ck else ck+1)
 obtain⟨A,b6⟩:=vE (W.putObj (b+3) (.map (Al.arr Gb) b5))
 have d4:(Instr.mapUpdate 133 (.map (some (b+3))) (.string x) (.int .i64 ((cn:Int)+1))).run prog W=.ok () A:=by have:=Ze Al Bi h5 x.data.toList (.int .i64 ((cn:Int)+1));rw[<-a0, <-b1, <-b6]at this;exact this
 have B2:Ae A (b+3) (.map (Al.arr Gb) b5):=by rw[b6];exact h5.put_same _
 have e7:∀ y:vB,Dr Gb y.data.toList=Jv (Ez (M++[x]) y):=fun y=>by rw[a0,DO,h6 y,jrO];by_cases hxy:y.data.toList=x.data.toList;{have e4:y=x:=ByteArray.ext (Array.ext' hxy);subst e4;rw[if_pos rfl,if_pos rfl, <-a9];unfold Jv;rw[if_neg vO];simp};rw[if_neg hxy,if_neg (fun e=>hxy e.symm)];rfl
 have b2:(Instr.lookup 133 (.map (some (b+3))) (.string x) false).run prog A=.ok (.int .i64 ((cn:Int)+1)) A:=by have:=Xd Al Bi B2 (Df A) x.data.toList false;rw[a0,DO,if_pos rfl]at this;exact this
 have K2:Ad (fun z=>z=b+3) W A:=by rw[b6];exact Ad.onePut _ _ _
 have q9:W.cell? ⟨b+4,0,none⟩=some (.map (some (b+3))):=hM.c9.cell (i:=0) vF;have E2:Af w0 A:=hM.ext.trans' K2 (fun y hy e=>by have e:y=_:=e;have:=hM.lo;omega);have C9:=hM.c9.keeps K2 vO;have f3:A.cell? ⟨b+4,0,none⟩=some (.map (some (b+3))):=C9.cell (i:=0) vF;have C3:=hM.c3.keeps K2 vO;have f4:A.cell? ⟨b,0,none⟩=some (.pointer (some ⟨s,0,none⟩)):=C3.cell (i:=0) vF;have C5:=hM.c5.keeps K2 vO;have V2:=h1.keeps K2 vO;have O2:=Kq h2 K2 (fun z O e=>by have:=h4 z O;have e:z=_:=e;omega);have f5:A.cell? ⟨b+2,0,none⟩=some (.slice ad n cp):=V2.cell (i:=0) vF;have qs:=(h.st.keeps E2 kI).cell (i:=1) (v:=.map (some bm)) vF;have H:=(h.mp.ext E2).look x false;simp only[cH,if_false]at H;have a4:=Hd (show Ji (Hb M) x=true↔cn≠0 from by rw[FV,Rb,a9];unfold Ez;rw[<-Nat.pos_iff_ne_zero,gE,bC];exact⟨fun hm=>⟨x,hm,rfl⟩,fun ⟨y,hy,e⟩=>by rw[<-show y=x from ByteArray.ext (Array.ext' e)];exact hy⟩)
 have b9:=Hd (nU S M x);have b3:=Hd (show ∃ es ck,Ae A (b+3) (.map (Al.arr es) ck)/\∀ y:vB,Dr es y.data.toList=Jv (Ez (M++[x]) y)from⟨Gb,b5,B2,e7⟩);have d5:Hid (∀ W3:vW,Af w0 W3->Ln W3 bg G):=fun _ e=>hG.ext e
 obtain⟨ok,q⟩:=vE (Xq S G M x)
 rw[<-q];have a5:=Hd q;clear q;have f6:=Hd K2;have d6:=Hd C3;have d7:=Hd C5;have b7:=Hd C9;have b8:=Hd V2;have d8:=Hd O2;have d9:=Hd E2;have H4:=Hd h4;have H3:=Hd h3;have a7:=Hd hM.lo;have b4:Hid (Cq S (M++[x])=Cq S M->Qf w0 s S bg b (M++[x]) A):=(fun e=>⟨E2,hM.lo,C3,C5,C9,⟨Gb,b5,B2,e7⟩,_,n,V2,by rw[e];exact O2,by rw[bK];omega,h4⟩);clear hM h h1 h2 h4 h5 h6 a9 e6 a0 b1 b6 B2 e7 K2 C3 C5 C9 V2 O2 E2 hG
 by_cases hc0:cn=0
 ·subst hc0;(have e0:Ji (Hb M) x=false:=by cases hm:Ji (Hb M) x with| false=>rfl| true=>exact absurd rfl (a4.o.1 hm));have c0:=Hd e0;have f0:(Instr.lookup 133 (.map (some (b+3))) (.string x) false).run prog W=.ok (.int .i64 0) W:=d3;have f1:(Instr.mapUpdate 133 (.map (some (b+3))) (.string x) (.int .i64 1)).run prog W=.ok () A:=d4;have e3:(Instr.lookup 133 (.map (some (b+3))) (.string x) false).run prog A=.ok (.int .i64 1) A:=b2;clear e0 d3 d4 b2;cases hs:Be S x.data.toList with| some y =>(rw[hs]at H;unfold Hk at H;simp only at H;have a8:=Hd (show Cq S (M++[x])=Cq S M by rw[b9.o,c0.o,hs];rfl);have q:ok=true:=by rw[a5.o];unfold Xq;rw[hs];simp);(subst q;clear hs a5;unfold vQ;go_in;go_wp2_with fail);go_ret;exact⟨rfl,b4.o a8.o⟩| none =>(rw[hs]at H;unfold Hk at H;simp only at H;have a8:=Hd (show Cq S (M++[x])=Cq S M++[x] by rw[b9.o,c0.o,hs];rfl);have q:ok=(Be G x.data.toList).isSome:=by rw[a5.o];unfold Xq;rw[hs,c0.o];simp);(have a1:=Hd q;clear hs a5 q;have e1:n+1<=maxLen:=by have:=H3.o;unfold maxLen;omega);have e2:(n+1)*16<=140737488355328:=kL H3.o;cases hyg:Be G x.data.toList with| some yg =>((have c1:=Hd hyg;have q:ok=true:=by rw[a1.o,hyg];rfl);subst q;clear hyg a1;unfold vQ;go_in;obtain⟨i0,hi,c2,c4,c7⟩:=info_parts Bl;(go_wp2_with (at_builtin;refine EX _ rfl (.tmp 24) (.tmp 26) 52 rfl 9 i0 _ 1 16 Bd hi c2 c4 c7 rfl vI (.slice ad n cp) n _ rfl (Jy d8.o ((Aa A).alloc _)) ⟨A.heap.size,0,none⟩ 1 1 [.string x] rfl rfl (Jx (Ae.new A _)) (by simp[Value.oneCell']) e1 e2 ?_;intro v' X r1 r2 K;obtain⟨Z,a2,rfl⟩:=Ir r1;have K6:Ad (fun z=>(Value.slice ad n cp).ownBlock=some z) A X:=((Ad.refl _ A).alloc _).trans r2;have nO:∀ z,z<b+5->¬(Value.slice ad n cp).ownBlock=some z:=(fun z O e=>kL (H4.o z e));have a3:=b8.o.keeps K6 (nO _ vO);have e5:X.cell? ⟨b+2,0,none⟩=some (.slice ad n cp):=a3.cell (i:=0) vF;have e8:X.frozen? ⟨b+2,0,none⟩=false:=a3.frozen;have K7:Ad (fun z=>z=b+2) X (X.setCell ⟨b+2,0,none⟩ (.slice Z (n+1) a2)):=Ad.oneSet X ⟨b+2,0,none⟩ _;have b0:=(d7.o.keeps K6 (nO _ vO)).keeps K7 vO;have e9:=b0.cell (i:=0) (v:=.map (some bg)) vF;have E7:Af w0 (X.setCell ⟨b+2,0,none⟩ (.slice Z (n+1) a2)):=(d9.o.trans' K6 (fun y hy e=>by have:=H4.o y e;have:=a7.o;omega)).trans' K7 (fun y hy e=>by have e:y=_:=e;have:=a7.o;omega);have J:=(d5.o _ E7).look x false;rw[c1.o]at J;unfold Hk at J;simp only[cH,if_false]at J));go_ret;refine⟨rfl,E7,a7.o,(d6.o.keeps K6 (nO _ vO)).keeps K7 vO,b0,(b7.o.keeps K6 (nO _ vO)).keeps K7 vO,?_,.slice Z (n+1) a2,n+1,a3.set_same (i:=0) _,?_,?_,?_⟩;{obtain⟨c8,d0,d1,d2⟩:=b3.o;exact⟨c8,d0,(d1.keeps K6 (nO _ vO)).keeps K7 vO,d2⟩};{rw[a8.o,bW];refine Kq r1 K7 (fun z O e=>?_);rcases K with K|K;{have:=H4.o z (K ▸ O);omega};have h9:=K z O;rw[bG]at h9;have:=b8.o.lt;omega};{have:=H3.o;rw[bK];exact Nat.succ_le_succ this};intro z O;rcases K with K|K;{exact H4.o z (K ▸ O)};have h9:=K z O;rw[bG]at h9;have:=b7.o.lt;omega)| none =>(have c1:=Hd hyg;have q:ok=false:=by rw[a1.o,hyg];rfl);subst q;clear hyg a1;unfold vQ;go_in;obtain⟨i0,hi,c2,c4,c7⟩:=info_parts Bl;(go_wp2_with (at_builtin;refine EX _ rfl (.tmp 24) (.tmp 26) 52 rfl 9 i0 _ 1 16 Bd hi c2 c4 c7 rfl vI (.slice ad n cp) n _ rfl (Jy d8.o ((Aa A).alloc _)) ⟨A.heap.size,0,none⟩ 1 1 [.string x] rfl rfl (Jx (Ae.new A _)) (by simp[Value.oneCell']) e1 e2 ?_;intro v' X r1 r2 K;obtain⟨Z,a2,rfl⟩:=Ir r1;have K6:Ad (fun z=>(Value.slice ad n cp).ownBlock=some z) A X:=((Ad.refl _ A).alloc _).trans r2;have nO:∀ z,z<b+5->¬(Value.slice ad n cp).ownBlock=some z:=(fun z O e=>kL (H4.o z e));have a3:=b8.o.keeps K6 (nO _ vO);have e5:X.cell? ⟨b+2,0,none⟩=some (.slice ad n cp):=a3.cell (i:=0) vF;have e8:X.frozen? ⟨b+2,0,none⟩=false:=a3.frozen;have K7:Ad (fun z=>z=b+2) X (X.setCell ⟨b+2,0,none⟩ (.slice Z (n+1) a2)):=Ad.oneSet X ⟨b+2,0,none⟩ _;have b0:=(d7.o.keeps K6 (nO _ vO)).keeps K7 vO;have e9:=b0.cell (i:=0) (v:=.map (some bg)) vF;have E7:Af w0 (X.setCell ⟨b+2,0,none⟩ (.slice Z (n+1) a2)):=(d9.o.trans' K6 (fun y hy e=>by have:=H4.o y e;have:=a7.o;omega)).trans' K7 (fun y hy e=>by have e:y=_:=e;have:=a7.o;omega);have J:=(d5.o _ E7).look x false;rw[c1.o]at J;unfold Hk at J;simp only[cH,if_false]at J));go_ret;refine⟨rfl,E7,a7.o,(d6.o.keeps K6 (nO _ vO)).keeps K7 vO,b0,(b7.o.keeps K6 (nO _ vO)).keeps K7 vO,?_,.slice Z (n+1) a2,n+1,a3.set_same (i:=0) _,?_,?_,?_⟩;{obtain⟨c8,d0,d1,d2⟩:=b3.o;exact⟨c8,d0,(d1.keeps K6 (nO _ vO)).keeps K7 vO,d2⟩};{rw[a8.o,bW];refine Kq r1 K7 (fun z O e=>?_);rcases K with K|K;{have:=H4.o z (K ▸ O);omega};have h9:=K z O;rw[bG]at h9;have:=b8.o.lt;omega};{have:=H3.o;rw[bK];exact Nat.succ_le_succ this};intro z O;rcases K with K|K;{exact H4.o z (K ▸ O)};have h9:=K z O;rw[bG]at h9;have:=b7.o.lt;omega
 ·have f7:¬((cn:Int)+1<=1):=vO;(have a8:=Hd (show Cq S (M++[x])=Cq S M by rw[b9.o,a4.o.2 hc0];rfl);have q:ok=true:=by rw[a5.o];unfold Xq;rw[a4.o.2 hc0];simp);(subst q;clear a5;unfold vQ;go_in;go_wp2_with fail);go_ret;exact⟨rfl,b4.o a8.o⟩
structure Xx(G:vT):Prop where
 few:G.length<=1000
 refs:∀ y∈G,y.2.2.refs.length<=16
def Qz(S G:vT)(x:vB):Prop:=(Be S x.data.toList).isSome=true\/(Be G x.data.toList).isSome=true
structure Rs(S G:vT)(root:vB)(M:vM)(i:Nat):Prop where
 is:M=root ::((Cq S M).take i).flatMap (Ik G)
 le:i<=(Cq S M).length
 inG:∀ x∈M,Qz S G x
theorem ST{G:vT}(h:Xx G):∀ l:vM,(l.flatMap (Ik G)).length<=16*l.length
 |[]=>by simp
 |x::r=>by
  have e:=ST h r
  have:(Ik G x).length<=16:=by
   unfold Ik;split
   ·rename_i y hy;exact h.refs y (Fa hy).1
   ·simp
  rw[dN,bK,bS];omega
theorem Rs.len{M:vM}(h:Rs S G root M i)(hs:Xx G):M.length<=1+16*i:=by
 have:=ST hs ((Cq S M).take i)
 rw[cV]at this;have e:=congrArg List.length h.is;rw[bS]at e;omega
theorem Rs.at'{M:vM}(h:Rs S G root M i){x:vB}(hx:x∈Cq S M):(Be G x.data.toList).isSome=true:=by
 have e:=DW.1 hx;rcases h.inG x e.1 with h|h
 ·rw[e.2]at h;cases h
 ·exact h
theorem JW{M:vM}(h:∀ x∈Cq S M,(Be G x.data.toList).isSome=true):(Cq S M).length<=G.length:=by
 have A:((Cq S M).map fun x=>x.data.toList).Nodup:=by have:=hZ S M;generalize Cq S M=l at this;induction l with| nil=>simp| cons z r ih =>rw[dF]at this;rw[bN,dF];exact⟨fun H=>by obtain⟨y,q,e⟩:=bC.1 H;exact this.1 (VC e ▸ q),ih this.2⟩
 have:=iI A (l₂:=G.map (·.1)) (fun k J=>by obtain⟨x,K,e⟩:=bC.1 J;obtain⟨y,q⟩:=cX.1 (h x K);exact bC.2 ⟨y,(Fa q).1,by rw[(Fa q).2,e]⟩)
 simpa using this
theorem Rs.step{M:vM}(h:Rs S G root M i){x:vB}(hx:(Cq S M)[i]?=some x)(hr:∀ r∈Ik G x,Qz S G r):Rs S G root (M++Ik G x) (i+1):=by
 obtain⟨X,A⟩:=nT S M (Ik G x)
 have H:i<(Cq S M).length:=(bI.1 hx).1
 refine⟨?_,?_,?_⟩
 ·(have e:(Cq S (M++Ik G x)).take (i+1)=(Cq S M).take i++[x]:=by rw[A,List.take_append_of_le_length vO,cA,hx];rfl);rw[e,dW];have:=h.is;generalize Cq S M=l at this;rw[this];simp
 ·rw[A,bK];omega
 ·intro y q;rcases bR.1 q with q|q;{exact h.inG y q};exact hr y q
theorem uN{M:vM}{x:vB}(h:Xq S G M x=true)(hM:∀ y∈M,Qz S G y):Qz S G x:=by
 unfold Xq at h;simp only[Bool.or_eq_true]at h;rcases h with (h|h)|h
 ·exact hM x ((Rb _ _).1 ((FV _ _).1 h))
 ·exact .inl h
 ·exact .inr h
theorem jyu{M:vM}{x:vB}(h:Xq S G M x=false):¬ Qz S G x:=by
 unfold Xq at h;simp only[gN]at h;rintro (e|e)
 ·rw[h.1.2]at e;cases e
 ·rw[h.2]at e;cases e
def jzI(w0:vW)(s:Nat)(S G:vT)(bg b:Nat)(root:vB)(wv iv:vV)(W:vW):Prop:=wv=.bool true/\∃ (i:Nat) (M:vM),iv=.int .i64 i/\Rs S G root M i/\Qf w0 s S bg b M W
def jxm(w0:vW)(s:Nat)(S G:vT)(bg b:Nat)(M R:vM)(wv jv:vV)(W:vW):Prop:=wv=.bool true/\∃ j:Nat,jv=.int .i64 j/\j<=R.length/\Qf w0 s S bg b (M++R.take j) W/\∀ r∈R.take j,Qz S G r
def tQ(w0:vW)(S G:vT)(root:vB)(e:Ending)(w':vW):Prop:=(e=.returned (.tuple #[.slice none 0 0,.int .i64 2])/\Af w0 w'/\∃ x r,r∈Ik G x/\¬ Qz S G r)\/∃ v n M,e=.returned (.tuple #[v,.int .i64 0])/\Rs S G root M (Cq S M).length/\Cd w0 w' v n (Cq S M)
theorem B_(w0:vW)(s bm:Nat)(room:Int)(S G:vT)(bg:Nat)(h:Ev w0 s bm room S)(hG:Ln w0 bg G)(hs:Xx G)(root:vB)(hr:(Be G root.data.toList).isSome=true):vQ 66 #[.pointer (some ⟨s,0,none⟩),.string root,.map (some bg)] w0 (tQ w0 S G root):=by
 have HS:=Hd h;have HG:=Hd hG;have a3:=Hd hs;have HR:=Hd hr;have c8:=Ec;clear h hG hs hr;unfold vQ;go_in;go_wp2_with fail
 go_step3;go_wp2_with fail
 refine vC (mT w0 s bm room S G bg w0.heap.size HS.o HG.o _ [] (jsX w0 s S bg) root (by simp)) fun w5 J=>?_;rw[show Xq S G [] root=true by unfold Xq;rw[HR.o];simp];have HM:=Hd J;clear J c8
 obtain⟨b,hb⟩:=vE w0.heap.size
 rw[show w0.heap.size+1+1+1+1=w0.heap.size+4 from rfl,show w0.heap.size+1+1+1=w0.heap.size+3 from rfl,show w0.heap.size+1+1=w0.heap.size+2 from rfl];rw[<-hb]at HM ⊢;clear hb;go_wp2_with fail
 go_step3;go_wp2_with fail
 go_loopw [11,12] (fun wv iv wr=>jzI w0 s S G bg b root wv iv wr) (fun _ iv _=>1001-(intOf iv).toNat)
 case atStart =>refine⟨rfl,0,[root],rfl,⟨by simp,cE _,fun x e=>by simp at e;subst e;exact .inr HR.o⟩,HM.o⟩
 case round =>obtain⟨rfl,i,M,rfl,Z,J⟩:=hrel;obtain⟨v,n,A,h2,h3,h4⟩:=J.var;obtain⟨ad,cp,rfl⟩:=Ir h2;(have hn:(Cq S M).length=n:=by have:=h2.1;simpa using this);have b4:=JW (S:=S) (M:=M) (fun x e=>Z.at' e);have e0:=a3.o.few;have q8:=A.cell (i:=0) (v:=.slice ad n cp) vF;have a0:=Z.le;by_cases hlt:i<n;{have b1:(i:Int)<(n:Int):=vO;obtain⟨x,e⟩:∃ x,(Cq S M)[i]?=some x:=⟨_,bB vO⟩;obtain⟨ax,cx,hh,K⟩:=(EC h2).slice;obtain⟨ba,oa,c9,b5⟩:=K i x e;subst c9;cases hh;obtain⟨y,O⟩:=cX.1 (Z.at' (bD e));have hI:=HG.o.items y (Fa O).1;have a4:=MS O;have d0:=a3.o.refs y (Fa O).1;obtain⟨rv,b6,a5⟩:=hI.cells;obtain⟨ar,cr,rfl⟩:=Ir a5;obtain⟨R,hR⟩:=vE y.2.2.refs;have Q5:=Hd (J.c5.cell (i:=0) (v:=.map (some bg)) vF);have Q8:=Hd q8;have QA:=Hd b5;have QR:=Hd ((b6.keeps J.ext kI).cell (i:=1) (v:=.slice ar y.2.2.refs.length cr) vF);have b7:=Hd (HG.o.ext J.ext);have HY:=Hd O;have b8:=Hd (fun hr=>Z.step e hr);have d1:=Hd Z.inG;have d2:=Hd (Z.len a3.o);have b9:=Hd (EC a5);have c0:=Hd J;rw[a4, <-hR]at b8;rw[<-hR]at QR b9 d0;have d3:=Hd (show R=Ik G x by rw[hR,a4]);have b3:i<=1000:=vO;obtain⟨yb,a7⟩:=vE y.2.1;(rw[<-a7]at QR;have d4:=Hd a7;clear a4 hR a7 a5 b6 hI O e K b5 A h2 Z J hn b4 a0;go_wp2_with fail);(refine Ij [0,1,2,3,4,5,6,7,8,9,10] Af Aa Aq vY vY vY ?_;refine Dc ⟨b+1,0,none⟩ _ rfl (fun w1 A=>Bq underlying130 rfl (Am Q5.o ((Ap _).trans A))) (vS ?_);refine Dc ⟨b+2,0,none⟩ _ rfl (fun w1 A=>Bq underlying52 rfl (Am Q8.o ((Ap _).trans A))) (vS ?_);iterate 2 refine vK ?_);refine Dc ⟨ba,oa+i,none⟩ _ rfl (fun w1 A=>Bq underlying9 rfl (Am QA.o ((Ap _).trans A))) (vS ?_);refine Lo _ (.pointer (some ⟨yb,0,none⟩)) rfl (fun w1 A=>by have e:=(b7.o.ext ((Ap _).trans A)).look x false;rw[HY.o]at e;unfold Hk at e;simp only[cH,if_false]at e;rw[<-d4.o]at e;simp[execOp,Act.eval,e,bQ,Result.andThen,cU]) ?_;refine vS ?_;refine Lo _ (.pointer (some ⟨yb,0,none⟩)) rfl (fun w1 _=>by kernel_rfl) (vS ?_);refine vK ?_;(refine Dc ⟨yb,1,none⟩ _ rfl (fun w1 A=>Bq underlying52 rfl (Am QR.o ((Ap _).trans A))) (vS ?_);iterate 2 refine vK ?_);(refine Hv (fun w3 he=>?_);have d5:=Hd (c0.o.keeps ((Ap _).trans he));clear he c0 Q5 Q8 QA QR b7 HY q8;go_wp2_with fail);(go_loopw [11,36] (fun wv jv d6=>jxm w0 s S G bg b M R wv jv d6) (fun _ jv _=>R.length-(intOf jv).toNat));(case atStart=>exact⟨rfl,0,rfl,cE _,by rw[gZ,cB];exact d5.o,fun r hr=>by cases hr⟩);case round =>obtain⟨rfl,j,rfl,hj,H,c1⟩:=hrel;have X:=Hd c1;clear c1;by_cases hlt2:j<R.length;{have b2:(j:Int)<(R.length:Int):=vO;obtain⟨z,hz⟩:∃ z,R[j]?=some z:=⟨_,bB hlt2⟩;obtain⟨e1,e2,d7,q⟩:=b9.o.slice;obtain⟨e3,e4,b0,a1⟩:=q j z hz;(subst b0;cases d7;have q2:=Am a1 H.ext;have c2:=Hd hz;have HT:=Hd (show M++R.take (j+1)=M++R.take j++[z] by rw[cA,hz, <-bZ];rfl);have HL:=Hd (show (M++R.take j).length<=1000000 by have:=d2.o;rw[bK,cV];omega);have c3:=Hd H;clear q a1 H hz;go_wp2_with fail);refine vC (mT w0 s bm room S G bg b HS.o HG.o _ _ c3.o z HL.o) fun w9 a8=>?_;rw[<-HT.o]at a8;have a2:=Hd a8;obtain⟨ok,a9⟩:=vE (Xq S G (M++R.take j) z);rw[<-a9];have c4:=Hd a9;clear a8 c3 q2 a9;cases ok with| false =>(go_wp2_with fail);go_ret2;exact .inl ⟨rfl,a2.o.ext,x,z,by rw[<-d3.o];exact bD c2.o,jyu c4.o.symm⟩| true =>(go_wp2_with fail);go_roundw;(case rel =>refine⟨rfl,j+1,by go_num,by omega,a2.o,oN X.o c2.o (uN c4.o.symm fun y O=>?_)⟩;rcases bR.1 O with O|O;{exact d1.o y O};exact X.o y O);case measure=>exact vJ};have d8:j=R.length:=vO;(subst d8;rw[cD]at H;have a2:=Hd H;clear H;go_wp2_with fail);go_roundw;(case rel=>exact⟨rfl,i+1,M++R,by go_num,b8.o (by have h:=X.o;rwa [cD]at h),a2.o⟩);case measure=>exact vJ};have c7:i=(Cq S M).length:=vO;have HP:=Hd (show Rs S G root M (Cq S M).length by rw[<-c7];exact Z);have d9:=Hd (show Cd w0 wr (.slice ad n cp) n (Cq S M)from⟨⟨_,_,rfl⟩,h2,J.ext,fun z hz=>by have:=h4 z hz;have:=J.lo;omega⟩);have b1:¬(i:Int)<(n:Int):=vO;(clear c7 Z J A h2 h4 hn b4 a0;go_wp2_with fail);go_ret2;exact .inr ⟨.slice ad n cp,n,M,rfl,HP.o,d9.o⟩
theorem SW(h:G.map Mq=Ck L)(hL:∀ t∈L,∃ n,Ht t n)(hl:L.length<=1000):Xx G:=by
 refine⟨?_,fun y q=>?_⟩
 ·have:=(FN L).2.2;rw[<-h,bU]at this;exact bF this hl
 ·obtain⟨t,A,_,e⟩:=Xf h q;rw[e];obtain⟨n,H⟩:=hL t A;exact M_ (Wg H)
theorem KO{M:vM}(h:Rs S G root M i)(hr:r∈M):(Be (S++La G (Cq S M)) r.data.toList).isSome=true:=by
 rw[jzW];cases hs:Be S r.data.toList with
 |some y=>rfl
 |none =>obtain⟨y,e⟩:=cX.1 (h.at' (DW.2 ⟨hr,hs⟩));have q:y∈La G (Cq S M):=List.mem_filterMap.2 ⟨r,DW.2 ⟨hr,hs⟩,e⟩;cases hp:Be (La G (Cq S M)) r.data.toList with| some z=>rfl| none=>exact absurd (Fa e).2.symm (DR.1 hp y q)
structure Lu(w:World)(s bm:Nat)(room:Int)(S:vT)(L:vM)(top:vB)(G:vT)(M:vM)(e:Ending)(w':World):Prop where
 given:G.map Mq=Ck L
 nodes:∀ t∈L,∃ n,Ht t n
 news:∀ y∈G,w.heap.size<=y.2.1
 path:Rs S G (Ak top) M (Cq S M).length
 fits:¬ room-S.length<(Cq S M).length
 res:e=.returned (.tuple #[.string (Ak top),.int .i64 0])
 st:Ev w' s bm room (Yw (Ak top).data.toList (Pq ((Cq S M).flatMap (Ik G)) (S++La G (Cq S M))))
 kp:Ad (fun z=>z=bm\/z∈S.map (·.2.1)) w w'
 rk:RK w w'
 rows:EI w w' G
def WE(Q:Prop)(room:Int)(S:vT)(L:vM)(k:Int):Prop:=(k=2/\Q)\/(k=2/\∃ G,G.map Mq=Ck L/\∃ x r,r∈Ik G x/\¬ Qz S G r)\/(k=3/\∃ top G M,L[0]?=some top/\G.map Mq=Ck L/\Rs S G (Ak top) M (Cq S M).length/\room-S.length<(Cq S M).length)
def OR(Q:Prop)(w:vW)(s bm:Nat)(room:Int)(S:vT)(L:vM)(e:Ending)(w':vW):Prop:=(∃ k:Int,WE Q room S L k/\k≠0/\e=.returned (.tuple #[.string ⟨#[]⟩,.int .i64 k])/\Af w w')\/∃ top G M,L[0]?=some top/\Lu w s bm room S L top G M e w'
theorem oV(hc:Ha w)(hGE:Gj w)(s bm:Nat)(room:Int)(S:vT)(h:Ev w s bm room S)(v:vV)(L:vM)(hv:Ic w v L)(Q:Prop)(hL:Zz Q L)(hll:L.length<=1000)(top:vB)(htop:L[0]?=some top)(hr0:0<=room)(hr1:room<=9223372036854775807)(hS:S.length<=100000)(hSu:∀ x∈S,0<=x.2.2.used/\x.2.2.used<=1000000000)(hSh:∀ x∈S,0<=x.2.2.held/\x.2.2.held<=1000000000):vQ 28 #[.pointer (some ⟨s,0,none⟩),v] w (OR Q w s bm room S L):=by
 have h0:L≠[]:=fun e=>by subst e;cases htop
 have k3:0<L.length:=fZ.2 h0
 obtain⟨a,c,rfl,_⟩:=hv.slice
 have HR:=Hd (jtX w hc hGE _ L hv hll h0 Q hL);have HC:=Hd hc;have HV:=Hd hv;have HS:=Hd h;have X:=Hd htop;have h3:=Hd hSu;have d5:=Hd hSh;clear hc h hv hL htop h0 hSu hSh;unfold vQ;go_in;go_wp2_with fail
 refine HR.o.mono ?_;rintro e w1 (⟨rfl,hE,hq⟩|⟨a0,bg,G,rfl,hG,e4⟩)
 ·have HE:=Hd hE;(have HQ:=Hd hq;clear hE HR hq;go_wp2_with fail);go_ret2;exact .inl ⟨2,.inl ⟨rfl,HQ.o⟩,by decide,rfl,HE.o⟩
 have b5:=Hd a0;have h4:=Hd e4;have h5:Hid (∀ x∈G,x.2.1<w1.heap.size):=fun x q=>(hG.at'.items x q).lt;have h6:=Hd hG.ext;clear a0 e4
 obtain⟨ax,cx,hh,A⟩:=HV.o.slice
 obtain⟨ba,oa,a8,a9⟩:=A 0 top X.o
 subst a8;cases hh;have q1:=Am a9 hG.ext;have HG:=Hd hG;rw[gC]at q1;clear A a9 hG HR;go_wp2_with fail
 refine vH (Tb _ _ [top] (by simp) (BA w1 [top] 9) (HC.o.ext (HG.o.ext.alloc _))) fun w2 hE=>?_;rw[CA];have d0:=((Aa w1).alloc (.cells #[.string top] 9)).trans hE;have H:=Hd (HG.o.keeps d0);have h7:=Hd d0
 obtain⟨rt,c0⟩:=vE (Ak top)
 have c1:=Hd c0;have h8:=Hd (show (Be G rt.data.toList).isSome=true by rw[c0];exact jN HG.o.is (bD X.o));rw[<-c0];clear d0 c0 q1;go_wp2_with fail
 have c2:=Hd (SW H.o.is b5.o hll);have e5:=Hd (HS.o.ext H.o.ext);refine (B_ w2 s bm room S G bg e5.o H.o.at' c2.o rt h8.o).mono ?_;rintro e w3 (⟨rfl,hE,e6⟩|⟨v3,n,M,rfl,hP,hF⟩)
 ·have HE:=Hd (H.o.ext.trans hE);(have h9:=Hd e6;clear hE e6;go_wp2_with fail);go_ret2;exact .inl ⟨2,.inr (.inl ⟨rfl,G,H.o.is,h9.o⟩),by decide,rfl,HE.o⟩
 have d6:=JW (S:=S) (M:=M) (fun x q=>hP.at' q);have k4:=c2.o.few;have hn:(Cq S M).length=n:=by have:=hF.len;simpa using this
 obtain⟨ad,cp,rfl⟩:=hF.sl
 have HP:=Hd hP;have HF:=Hd hF
 obtain⟨F,d1⟩:=vE (Cq S M)
 rw[<-d1]at HF hn d6;have O:=Hd d1;have i0:=Hd (H.o.keeps hF.ext);have e7:=Hd (e5.o.ext hF.ext);clear hP hF d1;go_wp2_with fail
 refine vH (jyY w3 s bm room S e7.o hr0 hr1 vO) fun w4 a4=>?_
 obtain⟨m,hm⟩:=vE (room-(S.length:Int))
 rw[<-hm];have HM:=Hd hm;clear hm
 by_cases hfull:m<(n:Int)
 ·(go_wp2_with fail);go_ret2;exact .inl ⟨3,.inr (.inr ⟨rfl,top,G,M,X.o,H.o.is,by rw[<-c1.o];exact HP.o,by rw[<-O.o,hn, <-HM.o];exact hfull⟩),by decide,rfl,(H.o.ext.trans HF.o.ext).trans a4.o⟩
 ·have d7:=Hd (show RK w1 w4 from(((RK.refl w1).ext h7.o).ext HF.o.ext).ext a4.o);have e8:BQ w4 s bm bg room S G F (.slice ad n cp) 0 w4:=⟨Ad.refl _ _,by rw[gZ];show Ev w4 s bm room (S++[]);rw[cB];exact e7.o.ext a4.o,i0.o.at'.ext a4.o,by rw[hn];exact Jy HF.o.own a4.o⟩;have e9:=Hd e8;have c3:=HS.o.mp.mp;obtain⟨_,_,c3,_⟩:=c3;(have h2:=c3.lt;have i1:Hid (∀ z,(Value.slice ad n cp).ownBlock=some z->z≠bm):=(fun z hz e=>by have:=HF.o.new z hz;have:=H.o.ext.size;omega);have i2:Hid (bg≠bm):=(fun e=>kL H.o.new);have i3:Hid (∀ x∈S,∀ y∈G,x.2.1≠y.2.1):=(fun x q y hy e=>by have:=(HS.o.mp.items x q).lt;have:=H.o.news y hy;omega);have i4:=Hd (show F.Nodup by rw[O.o];exact hZ S M);have i5:Hid (∀ x∈F,Be S x.data.toList=none):=(fun x q=>by rw[O.o]at q;exact (DW.1 q).2);have f0:Hid (∀ x∈F,(Be G x.data.toList).isSome=true):=(fun x q=>by rw[O.o]at q;exact HP.o.at' q);subst hn;clear e8 c3;go_wp2_with fail);(rw[show decide (m<(F.length:Int))=false from decide_eq_false (Int.not_lt.2 hfull)];go_loopw [46] (fun iv wr=>PS w4 s bm bg room S G F (.slice ad F.length cp) iv wr/\RK w1 wr) (fun iv _=>F.length-(intOf iv).toNat));(case atStart=>exact⟨⟨0,cE _,rfl,e9.o⟩,d7.o⟩);case round =>obtain⟨⟨i,hi,rfl,J⟩,f1⟩:=hrel;have f2:=Hd f1;clear f1;have HA:=Hd J;by_cases hlt:i<F.length;{have b1:(i:Int)<(F.length:Int):=vO;obtain⟨x,q⟩:∃ x,F[i]?=some x:=⟨_,bB hlt⟩;obtain⟨ax,cx,hh,A⟩:=(EC J.row).slice;obtain⟨c4,c5,a8,a9⟩:=A i x q;subst a8;cases hh;obtain⟨y,hy⟩:=cX.1 (f0.o x (bD q));have Q1:=Hd (J.st.st.cell (i:=1) (v:=.map (some bm)) vF);have f3:=Hd J.gv;have HX:=Hd q;have HY:=Hd hy;obtain⟨yb,b0⟩:=vE y.2.1;(have f4:=Hd b0;clear A q hy J b0;go_wp2_with fail);refine Kr [0,1,2,3,4,5,6,7,8] [8] Af Aa Aq vY vY vY ?_;refine vP ?_;refine qA _ (.pointer (some ⟨s,0,none⟩)) rfl (fun w1=>by kernel_rfl) (vS ?_);refine vP ?_;(refine qL ⟨s,1,none⟩ _ rfl (fun w1 h1=>Bq underlying130 rfl (Am Q1.o ((Ap _).trans h1))) (vS ?_);iterate 3 refine vP ?_);refine qG _ (.pointer (some ⟨yb,0,none⟩)) rfl vY rfl (fun w1 h1=>by have q:=(f3.o.ext ((Ap _).trans h1)).look x false;rw[HY.o]at q;unfold Hk at q;simp only[cH,if_false]at q;rw[<-f4.o]at q;simp[execOp,Act.eval,q,bQ,Result.andThen,cU]) ?_;refine vS ?_;refine qH _ rfl (fun w5 he K hK=>?_);have f5:=HA.o.ext ((Ap _).trans he);obtain⟨ob,f6,d2⟩:=f5.put i3.o i2.o i1.o i4.o i5.o HX.o HY.o;rw[<-f4.o]at f6;have f7:=Hd d2;obtain⟨k6,k7,b6,_⟩:=d2.st.mp.mp;(have d8:=Hd ((f2.o.ext ((Ap _).trans he)).put (Ad.onePut _ bm ob) b6);clear b6;clear f5 d2 he HA Q1 f3 a9;go_simp;refine hK _ _ ?_;clear hK K;refine qE (fun w7 he=>?_);have i6:=Hd (f7.o.ext he);have d9:=Hd (d8.o.ext he);clear he f7 f6;go_wp2_with fail);go_roundw;(case rel=>exact⟨⟨i+1,by omega,by go_num,i6.o⟩,d9.o⟩);case measure=>exact vJ};have i7:i=F.length:=vO;subst i7;obtain⟨S1,b3⟩:=vE (S++La G F);have c7:=Hd b3;have b4:=Hd (show Zb wr s bm bg room S1 G F (.slice ad F.length cp) [] wr from⟨Ad.refl _ _,by have:=J.st;rw[cD]at this;rw[b3];exact this,⟨G,J.gv,fun k=>rfl⟩,J.row⟩);have HU:=Hd (show ∀ x∈S1,0<=x.2.2.used/\x.2.2.used<=1000000000 from fun x q=>by rw[b3]at q;rcases bR.1 q with q|q;{exact h3.o x q};obtain⟨t,ht,_,e⟩:=Xf H.o.is (Uz q).1;rw[e];exact⟨jG _,by show (0:Int)<=1000000000;decide⟩);have i8:=Hd (show ∀ r∈F.flatMap (Ik G),(Be S1 r.data.toList).isSome=true from fun r hr=>by rw[b3,O.o];refine KO HP.o ?_;have:=HP.o.is;rw[cD, <-O.o]at this;rw[this];exact bM _ hr);obtain⟨w5,a5⟩:=vE wr;(have i9:=Hd a5;have e0:=Hd (show RK w1 w5 by rw[a5];exact f2.o);rw[<-a5]at b4;have b4:=Hd (show Zb w5 s bm bg room S1 G F (.slice ad F.length cp) [] wr by rw[<-a5];exact b4.o);have f8:=Hd (show Ad (fun z=>z=bm) w4 w5 by rw[a5];exact J.kp);clear e9 J HA b3 a5;go_wp2_with fail);(go_loopw [61] (fun iv wr=>PU w5 s bm bg room S1 G F (.slice ad F.length cp) iv wr/\RK w1 wr) (fun iv _=>F.length-(intOf iv).toNat));(case atStart=>exact⟨⟨0,cE _,rfl,b4.o⟩,by rw[<-i9.o];exact e0.o⟩);case round =>obtain⟨⟨i,k8,rfl,J⟩,b7⟩:=hrel;have a3:=Hd b7;clear b7;by_cases hlt2:i<F.length;{have b1:(i:Int)<(F.length:Int):=vO;obtain⟨x,q⟩:∃ x,F[i]?=some x:=⟨_,bB hlt2⟩;obtain⟨ax,cx,hh,A⟩:=(EC J.row).slice;obtain⟨c4,c5,a8,a9⟩:=A i x q;subst a8;cases hh;obtain⟨y,hy⟩:=cX.1 (f0.o x (bD q));obtain⟨G',d3,f9⟩:=J.gv;have hk:=f9 x.data.toList;rw[hy]at hk;obtain⟨y',d4,hk⟩:=dG.1 hk;have a7:=d3.look x false;rw[d4]at a7;unfold Hk at a7;simp only[cH,if_false]at a7;obtain⟨rv,g0,c8⟩:=(d3.items y' (Fa d4).1).cells;(have g2:y'.2.2.refs=Ik G x:=by rw[MS hy];exact congrArg (fun z=>z.2.2) hk);obtain⟨R,hR⟩:=vE (Ik G x);rw[g2, <-hR]at c8;obtain⟨ar,cr,rfl⟩:=Ir c8;have qr:=g0.cell (i:=1) (v:=.slice ar R.length cr) vF;obtain⟨T,hT⟩:=vE ((F.take i).flatMap (Ik G));have j0:=Hd (show (F.take (i+1)).flatMap (Ik G)=T++R by rw[cA,q,dW,hT,hR];simp);have j1:=Hd (show T.length<=16000 by have:=ST c2.o (F.take i);rw[hT];rw[cV]at this;omega);have g3:=Hd (show R.length<=16 by rw[hR,MS hy];exact c2.o.refs y (Fa hy).1);have j2:Hid (∀ r∈R,(Be S1 r.data.toList).isSome=true):=(fun r hr=>i8.o r (dL.2 ⟨x,bD q,by rw[<-hR];exact hr⟩));rw[<-hT]at J;have g4:=Hd (show IE w5 s bm bg room S1 G F (.slice (some ⟨c4,c5,none⟩) F.length cp) T R (.slice ar R.length cr) (.int .i64 0) wr from⟨0,cE _,rfl,by rw[gZ,cB];exact J,c8⟩);obtain⟨yb,b0⟩:=vE y'.2.1;(rw[<-b0]at a7 qr;clear A q hy d3 f9 hk d4 g0 c8 g2 hR hT J b0;go_wp2_with fail);(go_loopw [72] (fun jv g5=>IE w5 s bm bg room S1 G F (.slice (some ⟨c4,c5,none⟩) F.length cp) T R (.slice ar R.length cr) jv g5/\RK w1 g5) (fun jv _=>R.length-(intOf jv).toNat));(case atStart=>exact⟨g4.o,a3.o⟩);case round =>obtain⟨⟨j,hj,rfl,hB,c9⟩,b8⟩:=hrel;have b9:=Hd b8;clear b8;by_cases hlt3:j<R.length;{have b2:(j:Int)<(R.length:Int):=vO;obtain⟨z,hz⟩:∃ z,R[j]?=some z:=⟨_,bB hlt3⟩;obtain⟨k9,l0,j3,Z⟩:=(EC c9).slice;obtain⟨l1,l2,e1,k5⟩:=Z j z hz;subst e1;cases j3;have qs:=hB.st.st.cell (i:=1) (v:=.map (some bm)) vF;obtain⟨zb,u,e2,qu,fu,j4,j5,g6,a1⟩:=hB.bump HU.o (by have:=j1.o;have:=g3.o;rw[bK,cV];omega) z (j2.o z (bD hz));(have l3:=g3.o;have g7:=Hd (bA (show Zb w5 s bm bg room S1 G F (.slice (some ⟨c4,c5,none⟩) F.length cp) (T++R.take (j+1)) _ by rw[cA,hz, <-bZ];exact g6) (a1 _ _ _ c9));clear Z hz hB c9 g6 a1 a7 qr;go_wp2_with fail);go_roundw;(case rel=>exact⟨⟨j+1,by omega,by go_num,g7.o.1,g7.o.2⟩,b9.o.set zb (.inl rfl) _⟩);case measure=>exact vJ};have j6:j=R.length:=vO;(subst j6;rw[cD, <-j0.o]at hB;have j7:=Hd hB;clear hB c9 g4 a7 qr;go_wp2_with fail);go_roundw;(case rel=>exact⟨⟨i+1,by omega,by go_num,j7.o⟩,b9.o⟩);case measure=>exact vJ};have e3:i=F.length:=vO;(subst e3;rw[cD]at J;have a2:(Be S1 rt.data.toList).isSome=true:=by rw[c7.o,O.o];exact KO HP.o (by rw[HP.o.is];exact bO));have j8:=Hd (show ∀ x∈S1,0<=x.2.2.held/\x.2.2.held<=1000000000 from fun x q=>by rw[c7.o]at q;rcases bR.1 q with q|q;{exact d5.o x q};obtain⟨t,ht,_,e⟩:=Xf H.o.is (Uz q).1;rw[e];exact⟨jG _,by show (0:Int)<=1000000000;decide⟩);have qs:=J.st.st.cell (i:=1) (v:=.map (some bm)) vF;obtain⟨zb,u,e2,qu,fu,j4,j5,g8,g9⟩:=J.hold j8.o rt a2;(have j9:=Hd g8;have k0:=Hd (((H.o.ext.trans HF.o.ext).trans a4.o).mono (G:=fun z=>z=bm\/z∈S.map (·.2.1)) kZ);have k1:=Hd g9;have k2:=Hd f8.o;clear J b4 f8 g8 g9 a2;go_wp2_with fail);go_ret2;refine .inr ⟨top,G,M,X.o,H.o.is,b5.o,H.o.news,by rw[<-c1.o];exact HP.o,by rw[<-O.o, <-HM.o];exact Int.not_lt.2 hfull,by rw[c1.o];rfl,?_,?_,((RK.refl w).ext h6.o).trans (a3.o.set zb (.inr rfl) _),h4.o.rk (a3.o.set zb (.inr rfl) _) h5.o⟩;{rw[<-O.o, <-c7.o, <-c1.o];exact j9.o};refine (Ad.trans' (F:=fun z=>z=bm\/z∈S.map (·.2.1)) k0.o k2.o (fun z hz e=>.inl e)).trans' k1.o (fun z hz e=>?_);rw[c7.o,bW]at e;rcases bR.1 e with e|e;{exact .inr e};obtain⟨y,hy,rfl⟩:=bC.1 e;have:=H.o.news y (Uz hy).1;omega
end
section
open Go Go.RowKit
theorem qY(s bm:Nat)(room:Int)(L:vT)(k:vB)(h:Ev w s bm room L):vR 129 #[.pointer (some ⟨s,0,none⟩),.string k] w (.int .i64 (Xn (Be L k.data.toList))):=by
 have H:=h.st.cell (i:=1) (v:=.map (some bm)) vF;have e:=h.mp.look k true;have A:=Hd h.mp.items;simp only[if_true]at e;clear h;cases ha:Be L k.data.toList with
 |none =>(rw[ha]at e;unfold Hk at e;simp only[Option.isSome]at e;clear ha;unfold vR vQ;go_in;go_wp2_with fail);go_ret;exact⟨rfl,Aa w⟩
 |some x =>rw[ha]at e;obtain⟨J,q,_⟩:=(A.o x (Fa ha).1).cells;(have K:=q.cell (i:=3) (v:=.int .i64 x.2.2.held) vF;unfold Hk at e;simp only[Option.isSome]at e;clear ha q;unfold vR vQ;go_in;go_wp2_with fail);go_ret;exact⟨rfl,Aa w⟩
theorem jws(s bm:Nat)(room:Int)(L:vT)(k:vB)(h:Ev w s bm room L)(hb:∀ x∈L, -1000000000<=x.2.2.used/\x.2.2.used<=1000000000 /\ -1000000000<=x.2.2.held/\x.2.2.held<=1000000000):vR 130 #[.pointer (some ⟨s,0,none⟩),.string k] w (.int .i64 (OQ (Be L k.data.toList))):=by
 have q1:=h.st.cell (i:=1) (v:=.map (some bm)) vF;have e:=h.mp.look k true;have HI:=Hd h.mp.items;simp only[if_true]at e;clear h;cases ha:Be L k.data.toList with
 |none =>(rw[ha]at e;unfold Hk at e;simp only[Option.isSome]at e;clear ha hb;unfold vR vQ;go_in;go_wp2_with fail);go_ret;exact⟨rfl,Aa w⟩
 |some x =>rw[ha]at e;have q:=hb x (Fa ha).1;obtain⟨rv,A,_⟩:=(HI.o x (Fa ha).1).cells;have J:=Hd (A.cell (i:=2) (v:=.int .i64 x.2.2.used) vF);have K:=Hd (A.cell (i:=3) (v:=.int .i64 x.2.2.held) vF);unfold Hk at e;simp only[Option.isSome]at e;obtain⟨ky,b,⟨tx,rf,O,X⟩⟩:=x;simp only at e J K q;have a0 : -9223372036854775808<=O+X:=vO;have a1:O+X<=9223372036854775807:=vO;(clear ha A hb;unfold vR vQ;go_in;go_wp2_with fail);refine Ij [0,1,2,3,4,5,6,7,8,9] Af Aa Aq vY vY vY ?_;refine vK ?_;refine Lo _ (.pointer (some ⟨b,0,none⟩)) rfl (fun w1 _=>by kernel_rfl) (vS ?_);refine vK ?_;refine Dc ⟨b,2,none⟩ _ rfl (fun w1 H=>Bq underlying3 rfl (Am J.o ((Ap _).trans H))) (vS ?_);refine vK ?_;refine Lo _ (.pointer (some ⟨b,0,none⟩)) rfl (fun w1 _=>by kernel_rfl) (vS ?_);refine vK ?_;(refine Dc ⟨b,3,none⟩ _ rfl (fun w1 H=>Bq underlying3 rfl (Am K.o ((Ap _).trans H))) (vS ?_);iterate 2 refine vK ?_);(refine Hv (fun w3 Z=>?_);have HE:=Hd ((Ap _).trans Z);clear Z;go_wp2_with fail);go_ret;exact⟨rfl,HE.o⟩
end
section
open Go Go.RowKit
attribute [local go_sem] Oper.semAt_some
def Eo(L:vT)(k:El):vT:=L.filter fun x => !decide (k=x.1)
theorem oY(k:El):∀ L:vT,(L.map (·.1)).Nodup->Sq (L.map Vj) k=(Eo L k).map Vj
 |[],_=>rfl
 |x::r,h=>by
  rw[bN,dF]at h;rw[bN,Sq];unfold Eo
  by_cases e:k=x.1
  ·rw[if_pos (show k=(Vj x).1 from e),gY (by simp[e])]
   congr 1
   symm;rw[fJ];intro y q
   have:k≠y.1:=fun A=>h.1 (bC.2 ⟨y,q,by rw[<-A,e]⟩)
   simpa using this
  ·rw[if_neg (show ¬ k=(Vj x).1 from e),gX (by simp[e]),bN,oY k r h.2];rfl
theorem Ln.del{L:vT}(h:Ln W bm L)(k:vB):∃ o,(∀ A r,(Builtin.delete_ #[130,A] r #[.map (some bm),.string k]).run prog W=.ok (.tuple #[]) (W.putObj bm o))/\Ln (W.putObj bm o) bm (Eo L k.data.toList):=by
 obtain⟨es,ck,H,J⟩:=h.mp
 have q:=J.keys;rw[dA]at q;have q:(L.map (·.1)).Nodup:=q;have K:=J.del k.data.toList;rw[oY _ L q]at K;have hK:Ad (fun z=>z=bm) W (W.putObj bm (.map (Al.arr (Jr es k.data.toList)) ck)):=Ad.onePut W bm _;have O:(Eo L k.data.toList).Sublist L:=jI
 refine⟨_,fun A r=>SK Al Es H k.data.toList A r,⟨_,_,H.put_same _,K⟩,h.blks.sublist (O.map _),fun x hx=>?_⟩
 have X:=h.items x (O.subset hx);refine X.keeps hK (fun e=>?_) h.notRow
 obtain⟨_,Z,_⟩:=X.cells
 have e:x.2.1=bm:=e;rw[e]at Z
 have:=H.uniq Z;cases this
def Kd(S:vT):vM:=S.flatMap fun y=>y.2.2.refs
structure Ni(S:vT):Prop where
 used:∀ x∈S,x.2.2.used=(cK (Kd S) x.1:Int)
 shut:∀ r∈Kd S,r.data.toList∈S.map (·.1)
 held:∀ x∈S,0<=x.2.2.held
 r16:∀ x∈S,x.2.2.refs.length<=16
def Iu(S:vT):Int:=(S.map fun x=>x.2.2.held).sum
theorem Ni.none:Ni []:=⟨by simp,by simp[Kd],by simp,by simp⟩
theorem jU(h:∀ x∈S,x.2.2.refs.length<=16):(Kd S).length<=16*S.length:=by
 induction S with
 |nil=>simp[Kd]
 |cons x r ih =>(have A:=ih fun y q=>h y (bM _ q);have H:=h x bO;have e:Kd (x::r)=x.2.2.refs++Kd r:=by simp[Kd]);rw[e,bK,bS];omega
theorem PE(T:vM)(k:El):cK T k<=T.length:=by
 unfold cK;have:=jF (a:=k) (l:=T.map (·.data.toList));rwa [bU]at this
theorem jzZ{T:vM}(h:0<cK T k):∃ r∈T,r.data.toList=k:=by
 unfold cK at h
 obtain⟨r,q,e⟩:=bC.1 (gE.1 h)
 exact⟨r,q,e⟩
theorem Ni.bd(h:Ni S)(hl:S.length<=20000):∀ x∈S,0<=x.2.2.used/\x.2.2.used<=320000:=fun x e=>by
 have q:=h.used x e;have A:=PE (Kd S) x.1;have H:=jU h.r16;omega
def Nh(T:vM)(x:Gd):Gd:=(x.1,x.2.1,⟨x.2.2.text,x.2.2.refs,x.2.2.used-(cK T x.1:Int),x.2.2.held⟩)
def AH(k:El)(L:vT):vT:=L.map fun x=>if x.1=k then (x.1,x.2.1,Jk 2 (x.2.2.used-1) x.2.2)else x
theorem jsM(S:vT):S.map (Nh [])=S:=by
 have:(Nh []:Gd->Gd)=id:=funext fun x=>by unfold Nh cK;simp
 rw[this,jE]
theorem jqk(T:vM)(r:vB)(S:vT):S.map (Nh (T++[r]))=AH r.data.toList (S.map (Nh T)):=by
 unfold AH;rw[dA];refine cZ fun x _=>?_;simp only[Function.comp];have q:cK (T++[r]) x.1=cK T x.1+(if x.1=r.data.toList then 1 else 0):=by rw[OO];congr 1;have:=KJ r [] x.1;rw[this];simp[cK]
 by_cases e:x.1=r.data.toList
 ·rw[if_pos e]at q;rw[if_pos (show (Nh T x).1=r.data.toList from e)];unfold Nh Jk;simp only[if_true];rw[q];refine congrArg (fun z=>(x.1,x.2.1,z)) ?_;congr 1;(push_cast);omega
 ·rw[if_neg e]at q;rw[if_neg (show ¬(Nh T x).1=r.data.toList from e)];unfold Nh;rw[q];simp
theorem TB(T:vM)(S:vT):(S.map (Nh T)).map (·.1)=S.map (·.1):=by rw[dA];rfl
theorem aC(T:vM)(S:vT):Kd (S.map (Nh T))=Kd S:=by
 unfold Kd;rw[List.flatMap_map];rfl
theorem jwu{L:vT}(h:Ln W bm L)(hy:Be L k=some y):L.map (Cl 2 y.2.1 (y.2.2.used-1))=AH k L:=by
 obtain⟨K,O,_,H⟩:=h.mp
 have q:=H.keys;rw[dA]at q;have q:(L.map (·.1)).Nodup:=q;unfold AH;refine cZ (fun x A=>?_);unfold Cl
 by_cases e:x.2.1=y.2.1
 ·have:x=y:=Pk h.blks A (Fa hy).1 e;subst this;rw[if_pos rfl,if_pos (Fa hy).2]
 ·rw[if_neg e,if_neg];intro J;have:x=y:=Pk q A (Fa hy).1 (J.trans (Fa hy).2.symm);subst this;exact e rfl
theorem ju3(hn:(S.map (·.1)).Nodup)(hy:y∈S)(k:El):cK (Kd S) k=cK y.2.2.refs k+cK (Kd (Eo S y.1)) k:=by
 induction S with
 |nil=>cases hy
 |cons x r ih =>(rw[bN,dF]at hn;have e:Kd (x::r)=x.2.2.refs++Kd r:=by simp[Kd]);rw[e,OO];rcases bT.1 hy with rfl|hy;{(have:Eo (y::r) y.1=r:=by unfold Eo;rw[gY (by simp),fJ];intro z A;have:y.1≠z.1:=fun e=>hn.1 (bC.2 ⟨z,A,e.symm⟩);simpa using this);rw[this]};have q:y.1≠x.1:=fun e=>hn.1 (bC.2 ⟨y,hy,e⟩);(have:Eo (x::r) y.1=x::Eo r y.1:=by unfold Eo;rw[gX (by simpa using q)]);(rw[this,ih hn.2 hy];have H:Kd (x::Eo r y.1)=x.2.2.refs++Kd (Eo r y.1):=by simp[Kd]);rw[H,OO];omega
theorem FS(T:vM)(S:vT)(k:El):Eo (S.map (Nh T)) k=(Eo S k).map (Nh T):=by
 unfold Eo;rw[List.filter_map];rfl
theorem AW{x:Gd}:x∈Eo S k↔x∈S/\x.1≠k:=by
 unfold Eo;rw[cG];simp only[gJ,decide_eq_false_iff_not]
 exact⟨fun h=>⟨h.1,fun e=>h.2 e.symm⟩,fun h=>⟨h.1,fun e=>h.2 e.symm⟩⟩
theorem jxN(hn:(S.map (·.1)).Nodup)(h:Ni S)(hy:y∈S)(h0:y.2.2.used=0):Ni (Eo (S.map (Nh y.2.2.refs)) y.1):=by
 rw[FS];have K:cK (Kd S) y.1=0:=kL (h.used y hy)
 refine⟨fun x A=>?_,fun r J=>?_,fun x A=>?_,fun x A=>?_⟩
 ·obtain⟨z,q,rfl⟩:=bC.1 A;have X:=h.used z (AW.1 q).1;have Z:=ju3 hn hy z.1;show z.2.2.used-(cK y.2.2.refs z.1:Int)=(cK (Kd ((Eo S y.1).map (Nh y.2.2.refs))) z.1:Int);rw[aC];omega
 ·rw[aC]at J;(rw[TB];have H:r∈Kd S:=by obtain⟨z,q,J⟩:=dL.1 J;exact dL.2 ⟨z,(AW.1 q).1,J⟩);obtain⟨z,q,e⟩:=bC.1 (h.shut r H);refine bC.2 ⟨z,AW.2 ⟨q,fun O=>?_⟩,e⟩;have:=WH H;rw[<-e,O]at this;omega
 ·obtain⟨z,q,rfl⟩:=bC.1 A;exact h.held z (AW.1 q).1
 ·obtain⟨z,q,rfl⟩:=bC.1 A;exact h.r16 z (AW.1 q).1
theorem jqe(T:vM)(S:vT):Iu (S.map (Nh T))=Iu S:=by
 unfold Iu;rw[dA];rfl
theorem jsA(hn:(S.map (·.1)).Nodup)(hy:y∈S):Iu S=y.2.2.held+Iu (Eo S y.1):=by
 induction S with
 |nil=>cases hy
 |cons x r ih =>(rw[bN,dF]at hn;have e:∀ (a:Gd) b,Iu (a::b)=a.2.2.held+Iu b:=fun a b=>by unfold Iu;rw[bN,iJ]);rw[e];rcases bT.1 hy with rfl|hy;{(have:Eo (y::r) y.1=r:=by unfold Eo;rw[gY (by simp),fJ];intro z A;have:y.1≠z.1:=fun e=>hn.1 (bC.2 ⟨z,A,e.symm⟩);simpa using this);rw[this]};have q:y.1≠x.1:=fun e=>hn.1 (bC.2 ⟨y,hy,e⟩);(have:Eo (x::r) y.1=x::Eo r y.1:=by unfold Eo;rw[gX (by simpa using q)]);rw[this,e,ih hn.2 hy];omega
theorem jsB(hn:(S.map (·.1)).Nodup)(hb:(S.map (·.2.1)).Nodup)(hy:y∈S)(v:Int):Iu (S.map (Cl 3 y.2.1 v))=Iu S+v-y.2.2.held:=by
 have e:∀ (a:Gd) b,Iu (a::b)=a.2.2.held+Iu b:=fun a b=>by unfold Iu;rw[bN,iJ]
 clear hn;induction S with
 |nil=>cases hy
 |cons x r ih =>rw[bN,dF]at hb;rw[bN,e,e];rcases bT.1 hy with rfl|hy;{(have q:(Cl 3 y.2.1 v y).2.2.held=v:=by unfold Cl Jk;simp);(have H:r.map (Cl 3 y.2.1 v)=r:=by(conv=>rhs;rw[<-jE r]);refine cZ fun z J=>?_;unfold Cl;rw[if_neg (fun e=>hb.1 (bC.2 ⟨z,J,e⟩))];rfl);rw[q,H];omega};have A:¬ x.2.1=y.2.1:=fun e=>hb.1 (bC.2 ⟨y,hy,e.symm⟩);(have q:Cl 3 y.2.1 v x=x:=by unfold Cl;rw[if_neg A]);rw[q,ih hb.2 hy];omega
theorem aP(v:Int)(S:vT):(S.map (Cl 3 c v)).map (·.1)=S.map (·.1):=by
 rw[dA];refine cZ fun x _=>?_;simp only[Function.comp,Cl];split<;>rfl
theorem BX(v:Int)(x:Gd):(Cl 3 c v x).2.2.used=x.2.2.used/\(Cl 3 c v x).2.2.refs=x.2.2.refs/\(Cl 3 c v x).1=x.1/\(Cl 3 c v x).2.2.text=x.2.2.text/\(Cl 3 c v x).2.1=x.2.1:=by
 unfold Cl Jk;split<;>simp
theorem aQ(v:Int)(S:vT):Kd (S.map (Cl 3 c v))=Kd S:=by
 unfold Kd;rw[List.flatMap_map]
 have:(fun x=>(Cl 3 c v x).2.2.refs)=fun x:Gd=>x.2.2.refs:=funext fun x=>(BX c v x).2.1
 rw[this]
theorem jxO(h:Ni S)(c:Nat){v:Int}(hv:0<=v):Ni (S.map (Cl 3 c v)):=by
 refine⟨fun x q=>?_,fun r H=>?_,fun x q=>?_,fun x q=>?_⟩
 ·obtain⟨z,A,rfl⟩:=bC.1 q;rw[aQ,(BX c v z).1,(BX c v z).2.2.1];exact h.used z A
 ·rw[aQ]at H;rw[aP];exact h.shut r H
 ·obtain⟨z,A,rfl⟩:=bC.1 q;unfold Cl Jk;by_cases e:z.2.1=c;{rw[if_pos e];exact hv};rw[if_neg e];exact h.held z A
 ·obtain⟨z,A,rfl⟩:=bC.1 q;rw[(BX c v z).2.1];exact h.r16 z A
def OS(z:Nat)(W:vW)(b:Nat)(it:It):Prop:=b<z/\∃ rv,Ae W b (.cells #[.string it.text,rv,.int .i64 it.used,.int .i64 it.held] 142)/\W.ownsRow 0 9 1 rv it.refs.length (it.refs.map Value.string)/\∀ c,rv.ownBlock=some c->c<z
structure Tj(z:Nat)(W:World)(s bm:Nat)(room:Int)(S:vT):Prop where
 st:Ev W s bm room S
 s0:s<z
 b0:bm<z
 lo:∀ x∈S,OS z W x.2.1 x.2.2
theorem Ev.low(h:Ev W s bm room S):Tj W.heap.size W s bm room S:=by
 obtain⟨K,O,e,_⟩:=h.mp.mp
 refine⟨h,h.st.lt,e.lt,fun x A=>?_⟩
 obtain⟨H,e,q⟩:=(h.mp.items x A).cells
 exact⟨e.lt,H,e,q,fun c J=>(World.ownsRow.lt q c J).2⟩
theorem OS.past{it:It}(h:OS z W b it)(k:Ad F W W')(hF:∀ c,F c->z<=c):OS z W' b it:=by
 obtain⟨hb,q,A,H,e⟩:=h
 exact⟨hb,q,A.keeps k (fun f=>kL (hF b f)),Kq H k (fun c J f=>by have:=hF c f;have:=e c J;omega),e⟩
theorem Tj.past(h:Tj z W s bm room S)(k:Ad F W W')(hF:∀ c,F c->z<=c):Tj z W' s bm room S:=by
 have e:=fun x q=>(h.lo x q).past k hF
 obtain⟨A,H,J,K⟩:=h.st.mp.mp
 refine⟨⟨h.st.st.keeps k (fun f=>by have:=hF s f;have:=h.s0;omega),⟨A,H,J.keeps k (fun f=>by have:=hF bm f;have:=h.b0;omega),K⟩,h.st.mp.blks,fun x q=>?_⟩,h.s0,h.b0,e⟩
 obtain⟨_,O,X,Z,_⟩:=e x q
 exact⟨O,X,Z⟩
theorem Tj.ext(h:Tj z W s bm room S)(k:Af W W'):Tj z W' s bm room S:=h.past k (fun _ f=>f.elim)
theorem Tj.set(h:Tj z W s bm room S)(hy:y∈S)(hf:f=2\/f=3)(v:Int):Tj z (W.setCell ⟨y.2.1,f,none⟩ (.int .i64 v)) s bm room (S.map (Cl f y.2.1 v)):=by
 have J:=h.st.mp.items y hy
 obtain⟨rv,hb,_⟩:=J.cells
 have A:Ad (fun z=>z=y.2.1) W (W.setCell ⟨y.2.1,f,none⟩ (.int .i64 v)):=Ad.oneSet W ⟨y.2.1,f,none⟩ _;have hN:Qa W (fun z=>z=y.2.1):=fun z Z fz e hz=>by have e:z=y.2.1:=e;subst e;have:=hb.uniq hz;injection this with _ h2;exact absurd h2 vI
 refine⟨⟨h.st.st.keeps A (fun e=>?_),h.st.mp.setF J hf v⟩,h.s0,h.b0,fun x hx=>?_⟩
 ·have e:s=y.2.1:=e;rw[e]at h;have:=hb.uniq h.st.st;injection this with _ h2;exact absurd h2 vI
 ·obtain⟨u,hu,rfl⟩:=bC.1 hx;obtain⟨K,q,H,O,X⟩:=h.lo u hu;unfold Cl;split;{rename_i e;refine⟨K,q,?_,?_,X⟩;{show Ae _ u.2.1 _;rw[e]at H ⊢;rcases hf with rfl|rfl;{exact H.set_same (i:=2) _};exact H.set_same (i:=3) _};have:=AO O A hN;rcases hf with rfl|rfl<;>exact this};rename_i e;exact⟨K,q,H.keeps A e,AO O A hN,X⟩
theorem Tj.del(h:Tj z W s bm room S)(k:vB):∃ o,(∀ kt r,(Builtin.delete_ #[130,kt] r #[.map (some bm),.string k]).run prog W=.ok (.tuple #[]) (W.putObj bm o))/\Tj z (W.putObj bm o) s bm room (Eo S k.data.toList):=by
 obtain⟨q,A,O⟩:=h.st.mp.del k
 have H:Ad (fun z=>z=bm) W (W.putObj bm q):=Ad.onePut W bm q
 refine⟨q,A,⟨h.st.st.keeps H (fun e=>?_),O⟩,h.s0,h.b0,fun x X=>?_⟩
 ·have e:s=bm:=e;obtain⟨Z,ck,J,_⟩:=h.st.mp.mp;subst e;have:=J.uniq h.st.st;cases this
 ·obtain⟨l1,rv,K,l3,l4⟩:=h.lo x (AW.1 X).1;refine⟨l1,rv,K.keeps H (fun e=>?_),AO l3 H h.st.mp.notRow,l4⟩;have e:x.2.1=bm:=e;obtain⟨Z,ck,J,_⟩:=h.st.mp.mp;rw[e]at K;have:=J.uniq K;cases this
theorem jtP{w:vW}{T:vM}(h:w.ownsRow B 9 1 (.slice (some ⟨g,0,none⟩) (n+1) cap) (n+1) ((T++[t]).map Value.string)):w.ownsRow B 9 1 (.slice (some ⟨g,0,none⟩) n cap) n (T.map Value.string):=by
 obtain⟨O,⟨q,_⟩|⟨X,H,A,q,Z,h4,h5,h6,h7,J⟩⟩:=h
 ·cases q
 ·obtain⟨ha,_,hc⟩:=dH q;(have hg:g=X:=by have:=bV ha;exact congrArg Addr.block this);(subst hg hc;have K:T.length=n:=by simp at O;omega);refine⟨by simp[K],.inr ⟨g,cap,A,rfl,Z,h4,by omega,h6,h7,?_⟩⟩;(have e:(T++[t]).map Value.string=T.map Value.string++[.string t]:=by simp);rw[e]at J;have:=congrArg (List.take n) J;rw[List.take_take,Nat.min_eq_left vO,List.take_left' (by simp[K])]at this;rw[Nat.mul_one];exact this
def GS(S:vT)(T:vM):Prop:=∀ x∈S,x.2.2.used+x.2.2.held<=0->∃ r∈T,r.data.toList=x.1
def Xz(S0 S:vT):Prop:=∀ x∈S,∃ y∈S0,x.1=y.1/\x.2.1=y.2.1/\x.2.2.text=y.2.2.text/\x.2.2.refs=y.2.2.refs/\x.2.2.held=y.2.2.held
structure tL(z:Nat)(s bm:Nat)(room:Int)(S0 S:vT)(T:vM)(w3:World)(v:Value)(W:World):Prop where
 st:Tj z W s bm room S
 cnt:Ni S
 loose:GS S T
 row:W.ownsRow 0 9 1 v T.length (T.map Value.string)
 new:∀ b,v.ownBlock=some b->z<=b
 sub:Xz S0 S
 sum:Iu S=Iu S0
 len:S.length<=S0.length
 tl:T.length+16*S.length<=1+16*S0.length
 stay:∀ x∈S0,0<x.2.2.held->x.1∈S.map (·.1)
 kp:Ad (fun b=>b=bm\/b∈S0.map (·.2.1)\/z<=b) w3 W
 rk:RK w3 W
def mapSz(W:vW)(bm:Nat):Nat:=match W.heap[bm]? with|some (.map es _)=>es.size|_=>0
theorem Ev.mapSz(h:Ev W s bm room S):mapSz W bm=S.length:=by
 obtain⟨A,H,e,q⟩:=h.mp.mp
 have:=q.lenL
 unfold Go.Proofs.YtgppadbgofalpaaGreatDoor.mapSz;rw[show W.heap[bm]?=_ from e];simp[Fx.arr,this]
theorem kP{T:vM}(h:GS S (T++[t]))(ht:∀ x∈S,x.1=t.data.toList->0<x.2.2.used+x.2.2.held):GS S T:=fun x A H=>by
 obtain⟨r,q,e⟩:=h x A H
 rcases bR.1 q with q|q
 ·exact⟨r,q,e⟩
 ·have:=ht x A (by rw[<-e,bL.1 q]);omega
theorem jsP{T:vM}(h:GS S (T++[t]))(hk:k=t.data.toList):GS (Eo (S.map (Nh R)) k) (T++R):=fun x H J=>by
 rw[FS]at H
 obtain⟨z,A,rfl⟩:=bC.1 H
 have A:=AW.1 A;have J:z.2.2.used-(cK R z.1:Int)+z.2.2.held<=0:=J
 by_cases hc:0<cK R z.1
 ·obtain⟨r,q,e⟩:=jzZ hc
  exact⟨r,List.mem_append_right _ q,e⟩
 ·obtain⟨r,q,e⟩:=h z A.1 vO
  rcases bR.1 q with q|q
  ·exact⟨r,gL _ q,e⟩
  ·exact absurd (e.symm.trans (by rw[bL.1 q,hk])) A.2
theorem jy2(h:Xz S0 S)(R:vM)(k:El):Xz S0 (Eo (S.map (Nh R)) k):=fun x e=>by
 rw[FS]at e
 obtain⟨z,q,rfl⟩:=bC.1 e
 exact h z (AW.1 q).1
theorem oZ(hy:y∈S)(R:vM):(Eo (S.map (Nh R)) y.1).length+1<=S.length:=by
 rw[FS,bU];unfold Eo
 have:=jC (l:=S) (p:=fun x => !decide (y.1=x.1))
 have:=this.2 ⟨y,hy,by simp⟩
 omega
theorem jwB(hn:(S0.map (·.1)).Nodup)(hs:Xz S0 S)(h:∀ x∈S0,0<x.2.2.held->x.1∈S.map (·.1))(hy:y∈S)(h0:y.2.2.held=0)(R:vM):∀ x∈S0,0<x.2.2.held->x.1∈(Eo (S.map (Nh R)) y.1).map (·.1):=fun x A H=>by
 obtain⟨z,J,e⟩:=bC.1 (h x A H)
 rw[FS,TB];refine bC.2 ⟨z,AW.2 ⟨J,fun K=>?_⟩,e⟩
 obtain⟨O,q,X,_,_,_,Z⟩:=hs y hy
 have:x=O:=Pk hn A q (by rw[<-e,K,X])
 subst this;omega
def BL(S:vT):Prop:=∀ x∈S,0<x.2.2.used+x.2.2.held
structure GQ(w:World)(s bm:Nat)(room:Int)(S S':vT)(y:Gd)(w':World):Prop where
 st:Ev w' s bm room S'
 cnt:Ni S'
 full:BL S'
 sum:Iu S'=Iu S-1
 len:S'.length<=S.length
 sub:Xz (S.map (Cl 3 y.2.1 (y.2.2.held-1))) S'
 stay:∀ x∈S.map (Cl 3 y.2.1 (y.2.2.held-1)),0<x.2.2.held->x.1∈S'.map (·.1)
 kp:Ad (fun b=>b=bm\/b∈S.map (·.2.1)) w w'
 rk:RK w w'
def tA(w:vW)(s bm:Nat)(room:Int)(S:vT)(k:vB)(e:Ending)(w':vW):Prop:=
 (Xn (Be S k.data.toList)=0/\e=.returned (.int .i64 4)/\Af w w')\/∃ S' y,Be S k.data.toList=some y/\0<y.2.2.held/\e=.returned (.int .i64 0)/\GQ w s bm room S S' y w'
theorem drop_zero(s bm:Nat)(room:Int)(S:vT)(h:Ev w s bm room S)(k:vB)(hy:Xn (Be S k.data.toList)=0):vR 75 #[.pointer (some ⟨s,0,none⟩),.string k] w (.int .i64 4):=by
 have q:=qY w s bm room S k h;rw[hy]at q;have H:Hid (vQ 129 #[.pointer (some ⟨s,0,none⟩),.string k] w fun e w'=>e=.returned (.int .i64 0)/\Af w w'):=q;clear q h hy;unfold vR vQ;go_in;go_wp2_with fail
 refine H.o.mono ?_;rintro e w1 ⟨rfl,A⟩;have J:=Hd A;clear A;go_wp2_with fail
 go_ret
 exact⟨rfl,J.o⟩
def jzq(z s bm:Nat)(room:Int)(S0:vT)(w3:vW)(v:vV)(W:vW):Prop:=∃ S T,tL z s bm room S0 S T w3 v W
structure XH(z s bm:Nat)(room:Int)(S0 S:vT)(T R:vM)(rv:Value)(w3:World)(j:Nat)(v:Value)(W:World):Prop where
 st:Tj z W s bm room (S.map (Nh (R.take j)))
 row:W.ownsRow 0 9 1 v (T.length+j) ((T++R.take j).map Value.string)
 new:∀ b,v.ownBlock=some b->z<=b
 refs:W.ownsRow 0 9 1 rv R.length (R.map Value.string)
 kp:Ad (fun b=>b=bm\/b∈S0.map (·.2.1)\/z<=b) w3 W
 rk:RK w3 W
def jzp(z s bm:Nat)(room:Int)(S0 S:vT)(T R:vM)(rv:vV)(w3:vW)(v iv:vV)(W:vW):Prop:=∃ j:Nat,j<=R.length/\iv=.int .i64 j/\XH z s bm room S0 S T R rv w3 j v W
theorem KR{G:Bf}{a b c:vW}(h:Ad F a b)(k:Ad G b c)(hG:∀ x,G x->F x):Ad F a c:=h.trans (k.mono fun x _ g=>hG x g)
theorem jxM(h:Ni S)(e:¬ 0<OQ (Be S k)):Be S k=none\/∃ y,Be S k=some y/\y.2.2.used=0/\y.2.2.held=0:=by
 cases hy:Be S k with
 |none=>exact .inl rfl
 |some y =>right;rw[hy]at e;have q:=h.held y (Fa hy).1;have A:=h.used y (Fa hy).1;have e:¬ 0<y.2.2.used+y.2.2.held:=e;exact⟨y,rfl,by omega,by omega⟩
theorem jvQ(h:Ni S)(hl:S.length<=20000)(hR:R.length<=16)(j:Nat):∀ x∈S.map (Nh (R.take j)), -16<=x.2.2.used/\x.2.2.used<=320000:=fun x e=>by
 obtain⟨z,q,rfl⟩:=bC.1 e
 have H:=h.bd hl z q;have A:=PE (R.take j) z.1;rw[cV]at A;show -16<=z.2.2.used-(cK (R.take j) z.1:Int)/\z.2.2.used-(cK (R.take j) z.1:Int)<=320000;omega
theorem jyT{w:vW}{T:vM}(h:w.ownsRow B 9 1 (.slice (some ⟨g,0,none⟩) (n+1) cap) (n+1) ((T++[t]).map Value.string)):w.cell? ⟨g,n,none⟩=some (.string t):=by
 have e:T.length=n:=by have:=h.1;simp at this;omega
 have:=World.ownsRow.cells (g:=g) h vF n (.string t) (by rw[bW,cO (by simp[e]),bU,e,iY];rfl)
 rw[Addr.add_lit,bX]at this;exact this
theorem tX{w:vW}(h:w.ownsRow B 9 1 v (n+1) xs):∃ g cap,v=.slice (some ⟨g,0,none⟩) (n+1) cap:=by
 obtain⟨_,⟨_,q⟩|⟨A,e,H,q,_⟩⟩:=h
 ·omega
 ·exact⟨A,e,q⟩
theorem jyS{w:vW}{m:Nat}{a:Option Addr}(h:w.ownsRow B 9 1 (.slice a (n+1) cap) (n+1) xs)(hm:m=n):m+1<=cap:=by
 subst hm
 obtain⟨_,⟨_,q⟩|⟨J,A,H,q,_,_,K,_⟩⟩:=h
 ·omega
 ·obtain⟨_,_,e⟩:=dH q;omega
theorem jxz(hn:(S.map (·.1)).Nodup){x:Gd}(hx:x∈S)(e:x.1=k):Be S k=some x:=by
 obtain⟨y,q⟩:=cX.1 (Xi.2 (bC.2 ⟨x,hx,e⟩))
 rw[q,jxA hn hx e q]
theorem jsa(s bm:Nat)(room:Int)(S:vT)(h:Ev w s bm room S)(b7:Ni S)(hfl:BL S)(hl:S.length<=20000)(hh:∀ x∈S,x.2.2.held<=1000000)(k:vB)(y:Gd)(hy:Be S k.data.toList=some y)(h1:0<y.2.2.held) :
  vQ 75 #[.pointer (some ⟨s,0,none⟩),.string k] w (tA w s bm room S k):=by
 have HS:=Hd h;have i6:=Hd b7;have g8:=Hd hfl;have HY:=Hd hy;have HH:=Hd hh;have H:=(Fa hy).1;have g2:=hh y H;have hc:=qY w s bm room S k h;rw[hy]at hc
 obtain⟨yb,J⟩:=vE y.2.1
 obtain⟨hd,b4⟩:=vE y.2.2.held
 have g9:Xn (some y)=hd:=b4.symm;rw[g9]at hc;rw[<-b4]at h1 g2;have e6:=Hd J;have d3:=Hd b4;have HC:=Hd hc;have H1:=Hd h1;have m0:(hd == 0)=false:=by simp;omega
 clear h b7 hfl hh hy H hc J b4 g9;unfold vQ;go_in;go_wp2_with fail
 refine HC.o.mono ?_;rintro e w1 ⟨rfl,hE⟩;have h:=HS.o.ext hE;have J:=e6.o;have b4:=d3.o;have hy:=HY.o;have H:=(Fa hy).1;have c0:=h.low.set H (.inr rfl) (hd-1);rw[<-J]at c0
 obtain⟨z,hz⟩:=vE w1.heap.size
 rw[<-hz]at c0;have HZ:=Hd hz;have hK:Ad (fun z=>z=yb) w1 (w1.setCell ⟨yb,3,none⟩ (.int .i64 (hd-1))):=Ad.oneSet w1 ⟨yb,3,none⟩ _;have A:=h.mp.look k false;rw[hy]at A;unfold Hk at A;simp only[cH,if_false]at A;rw[<-J]at A
 obtain⟨S0,O⟩:=vE (S.map (Cl 3 yb (hd-1)))
 rw[<-O]at c0;have e7:=Hd O
 obtain⟨rv,d4,_⟩:=(h.mp.items y H).cells
 rw[<-J, <-b4]at d4;have qs:=h.st.cell (i:=1) (v:=.map (some bm)) vF;have qh:=d4.cell (i:=3) (v:=.int .i64 hd) vF;have fh:w1.frozen? ⟨yb,3,none⟩=false:=d4.frozen;have h3:Ni S0:=by rw[O];exact jxO i6.o yb vO
 have h4:S0.length=S.length:=by rw[O,bU]
 have c3:Iu S0=Iu S-1:=by rw[O,J,jsB h.nd h.mp.blks H];omega
 have c4:(S0.map (·.1)).Nodup:=by rw[O,aP];exact h.nd
 have c7:GS S0 [k]:=by rw[O];intro x hx h0;obtain⟨u,hu,rfl⟩:=bC.1 hx;refine⟨k,by simp,?_⟩;by_cases e:u.2.1=yb;{have:u=y:=Pk h.mp.blks hu H (by rw[e,J]);rw[(BX yb (hd-1) u).2.2.1,this,(Fa hy).2]};unfold Cl at h0;rw[if_neg e]at h0;have:=g8.o u hu;omega
 have h6:=Hd c0;have i7:=Hd h3;have g3:=Hd c3;have g4:=Hd c4;have i8:=Hd c7;have e8:=Hd h4;have h7:=Hd (show S0.map (·.2.1)=S.map (·.2.1) by rw[O,oG]);have HK:=Hd (bA hE hK);have i9:=Hd (show yb∈S.map (·.2.1) by rw[J];exact bC.2 ⟨y,H,rfl⟩);clear h hy H J b4 c0 hK O d4 HS h3 h4 c3 c4 c7 HC hE g8
 obtain⟨w2,a0⟩:∃ w2,w2=w1.setCell ⟨yb,3,none⟩ (.int .i64 (hd-1)):=⟨_,rfl⟩
 rw[<-a0]at h6 HK;have j0:=Hd (show w2.heap.size=z by rw[a0,hz];simp);have g5:=Hd (show RK w1 w2 by rw[a0];exact (RK.refl w1).set yb (.inr rfl) _);go_wp2_with fail
 rw[<-a0, <-hz];clear a0 qs qh fh A hz
 obtain⟨w3,d5⟩:=vE (w2.alloc (.cells #[.string k] 9))
 rw[<-d5];have h8:Av 9 1 w2 w3 (.slice (some ⟨w2.heap.size,0,none⟩) 1 1) 1 [.string k]:=by rw[d5];exact Av.lit #[.string k] (Aa w2) vI rfl
 have e9:=Hd (show w3.ownsRow 0 9 1 (.slice (some ⟨z,0,none⟩) 1 1) 1 [.string k] by have h:=h8.own;rw[j0.o]at h;exact h);have f0:=Hd (show Af w2 w3 by rw[d5];exact (Aa w2).alloc _);clear d5 h8;go_loopw [5] (fun v wr=>jzq z s bm room S0 w1 v wr) (fun v wr=>17*mapSz wr bm+ID v)
 case atStart =>refine⟨S0,[k],h6.o.ext f0.o,i7.o,i8.o,e9.o,fun b hb=>?_,fun x hx=>⟨x,hx,rfl,rfl,rfl,rfl,rfl⟩,rfl,bP _,bP _,fun x hx _=>bC.2 ⟨x,hx,rfl⟩,KR (F:=fun b=>b=bm\/b∈S0.map (·.2.1)\/z<=b) (HK.o.2.mono fun x _ e=>.inr (.inl (by rw[show x=yb from e,h7.o];exact i9.o))) f0.o (fun x e=>e.elim),g5.o.ext f0.o⟩;have e:some z=some b:=hb;have:=bV e;omega
 case round =>obtain⟨S1,T,hD⟩:=hrel;have q:=Hd hD;rcases List.eq_nil_or_concat T with hT|⟨T',t,hT⟩;{subst hT;obtain⟨a,c,rfl⟩:=Ir hD.row;(clear hD;go_wp2_with fail);go_ret;refine .inr ⟨S1,y,HY.o,by rw[<-d3.o];exact H1.o,rfl,q.o.st.st,q.o.cnt,fun x hx=>?_,?_,?_,?_,?_,?_,?_⟩;{by_cases h0:x.2.2.used+x.2.2.held<=0;{obtain⟨r,hr,_⟩:=q.o.loose x hx h0;cases hr};omega};{rw[q.o.sum,g3.o]};{have:=q.o.len;rw[e8.o]at this;exact this};{rw[<-e6.o, <-d3.o, <-e7.o];exact q.o.sub};{rw[<-e6.o, <-d3.o, <-e7.o];exact q.o.stay};{have hz:=HZ.o;refine Ad.trans' (F:=fun b=>b=bm\/b∈S.map (·.2.1)) (HK.o.1.mono fun _ _ g=>g.elim) q.o.kp (fun x hx e=>?_);rcases e with e|e|e;{exact .inl e};{rw[h7.o]at e;exact .inr e};have:=HK.o.1.size;omega};exact ((RK.refl w).ext HK.o.1).trans q.o.rk};(have hT:T=T'++[t]:=by rw[hT];simp);subst hT;have K:=hD.row;rw[show (T'++[t]).length=T'.length+1 by simp]at K;obtain⟨g,cp,rfl⟩:=tX K;have q1:=jyT K;have c8:=Hd (jtP K);obtain⟨n,hn⟩:=vE T'.length;rw[<-hn]at c8 q1 ⊢;have X:=Hd hn;have j1:=hD.len;have h9:=Hd (show S1.length<=20000 by have:=e8.o;omega);have hm:=hD.st.st.mapSz;have f1:=Hd hm;have j2:Hid (z<=g):=hD.new g rfl;have l8:n+1<=cp:=jyS K hn;have HB:=Hd (show ∀ x∈S1, -1000000000<=x.2.2.used/\x.2.2.used<=1000000000 /\ -1000000000<=x.2.2.held/\x.2.2.held<=1000000000 from fun x hx=>by have:=hD.cnt.bd h9.o x hx;have:=hD.cnt.held x hx;obtain⟨u,hu,_,_,_,_,e5⟩:=hD.sub x hx;(have h5:u.2.2.held<=1000000:=by rw[e7.o]at hu;obtain⟨v,hv,rfl⟩:=bC.1 hu;have:=HH.o v hv;unfold Cl Jk;split;{show hd-1<=1000000;omega};exact this);omega);(have b8:=Hd (show n+1+16*S1.length<=1+16*S0.length by have h:=hD.tl;rw[bK, <-hn]at h;exact h);have l9:n<=400000:=by have:=b8.o;have:=e8.o;omega);(clear hD K hn j1 hm;go_wp2_with fail);refine vC (jws wr s bm room S1 t q.o.st.st HB.o) fun w5 hE=>?_;obtain⟨cn,b7⟩:=vE (OQ (Be S1 t.data.toList));rw[<-b7];have c9:=Hd b7;have a1:=q.o.st.ext hE;have b2:=Hd a1;have a8:=Hd (Jy c8.o hE);have f2:=Hd (q.o.kp.trans (hE.mono (fun _ _ g=>g.elim)));have b5:=Hd (q.o.rk.ext hE);have qs:=a1.st.st.cell (i:=1) (v:=.map (some bm)) vF;have A:=a1.st.mp.look t false;simp only[cH,if_false]at A;have d0:=Hd a1.st.mapSz;have b6:=Hd (show ∀ b c m,(Value.slice (some ⟨g,0,none⟩) m c).ownBlock=some b->z<=b from fun b c m hb=>by have e:some g=some b:=hb;have:=bV e;have:=j2.o;omega);clear hE b7 a1 q1;by_cases hp:0<cn;{(go_wp2_with fail);go_roundw;(case rel =>refine⟨S1,T',b2.o,q.o.cnt,kP q.o.loose (fun x hx e=>?_),by rw[<-X.o];exact a8.o,fun b hb=>b6.o b _ _ hb,q.o.sub,q.o.sum,q.o.len,by have:=b8.o;have:=X.o;omega,q.o.stay,f2.o,b5.o⟩;have h1:=c9.o;rw[show Be S1 t.data.toList=some x from jxz q.o.st.st.nd hx e]at h1;have h1:cn=x.2.2.used+x.2.2.held:=h1;omega);case measure=>rw[d0.o,f1.o];simp[ID]};(have f3:¬ 0<OQ (Be S1 t.data.toList):=by rw[<-c9.o];exact hp);rcases jxM q.o.cnt f3 with hno|⟨y1,hy1,d6,hh0⟩;{rw[hno]at A;(unfold Hk at A;simp only at A;have j3:=Hd hno;clear f3 hno;go_wp2_with fail);go_roundw;(case rel =>exact⟨S1,T',b2.o,q.o.cnt,kP q.o.loose (fun x hx e=>absurd e.symm (DR.1 j3.o x hx)),by rw[<-X.o];exact a8.o,fun b hb=>b6.o b _ _ hb,q.o.sub,q.o.sum,q.o.len,by have:=b8.o;have:=X.o;omega,q.o.stay,f2.o,b5.o⟩);case measure=>rw[d0.o,f1.o];simp[ID]};rw[hy1]at A;unfold Hk at A;simp only at A;have a2:=(Fa hy1).1;obtain⟨_,rv,i1,d7,i2⟩:=b2.o.lo y1 a2;obtain⟨R,hR⟩:=vE y1.2.2.refs;rw[<-hR]at d7;obtain⟨ar,cr,rfl⟩:=Ir d7;have qr:=i1.cell (i:=1) (v:=.slice ar R.length cr) vF;have a3:=Hd (show R.length<=16 by rw[hR];exact q.o.cnt.r16 y1 a2);have j4:=Hd (show ∀ r∈R,r.data.toList∈S1.map (·.1)from fun r hr=>q.o.cnt.shut r (dL.2 ⟨y1,a2,by rw[<-hR];exact hr⟩));have j5:=Hd (show XH z s bm room S0 S1 T' R (.slice ar R.length cr) w1 0 (.slice (some ⟨g,0,none⟩) n cp) w5 from⟨by rw[gZ,jsM];exact b2.o,by rw[gZ,cB,gC, <-X.o];exact a8.o,fun b hb=>b6.o b _ _ hb,d7,f2.o,b5.o⟩);have j6:=Hd hR;have j7:=Hd i2;have d8:=Hd (bA a2 (Fa hy1).2);have f4:=Hd (bA d6 hh0);obtain⟨m1,d1⟩:=vE y1.2.1;(rw[<-d1]at A qr;clear f3 hy1 d6 hh0 a2 i1 d7 i2 hR d1;go_wp2_with fail);(go_loopw [5,65] (fun v5 iv j8=>jzp z s bm room S0 S1 T' R (.slice ar R.length cr) w1 v5 iv j8) (fun _ iv _=>R.length-(intOf iv).toNat));(case atStart=>exact⟨0,cE _,rfl,j5.o⟩);case round =>obtain⟨j,hj,rfl,Z⟩:=hrel;have HI:=Hd Z;obtain⟨a5,c5,rfl⟩:=Ir Z.row;by_cases hlt:j<R.length;{have b1:(j:Int)<(R.length:Int):=vO;obtain⟨r,hr⟩:∃ r,R[j]?=some r:=⟨_,bB hlt⟩;obtain⟨ax,cx,j9,b3⟩:=(EC Z.refs).slice;obtain⟨ba,oa,k0,m2⟩:=b3 j r hr;subst k0;cases j9;have k1:=Z.st.st.st.cell (i:=1) (v:=.map (some bm)) vF;have a4:=Z.st.st.mp.look r false;simp only[cH,if_false]at a4;obtain⟨x1,d9⟩:=cX.1 (Xi.2 (show r.data.toList∈(S1.map (Nh (R.take j))).map (·.1) by rw[TB];exact j4.o r (bD hr)));rw[d9]at a4;unfold Hk at a4;simp only at a4;have a7:=(Fa d9).1;have k2:=jvQ q.o.cnt h9.o a3.o j x1 a7;obtain⟨rx,e0,_⟩:=(Z.st.st.mp.items x1 a7).cells;(have c1:=Z.st.set a7 (.inl rfl) (x1.2.2.used-1);rw[jwu Z.st.st.mp d9, <-jqk]at c1;have b9:Ad (fun z=>z=x1.2.1) wr (wr.setCell ⟨x1.2.1,2,none⟩ (.int .i64 (x1.2.2.used-1))):=Ad.oneSet wr ⟨x1.2.1,2,none⟩ _;have f5:Qa wr (fun z=>z=x1.2.1):=fun z m3 fz e hz=>by have e:z=x1.2.1:=e;subst e;have:=e0.uniq hz;injection this with _ h2;exact absurd h2 vI);have f6:=Hd (AO Z.row b9 f5);have f7:=Hd (AO Z.refs b9 f5);have i3:=Hd (show x1.2.1∈S0.map (·.2.1)from by obtain⟨u,hu,e⟩:=bC.1 a7;obtain⟨u0,d6,_,e2,_⟩:=q.o.sub u hu;exact bC.2 ⟨u0,d6,by rw[<-e];exact e2.symm⟩);have qx:=e0.cell (i:=2) (v:=.int .i64 x1.2.2.used) vF;have fx:wr.frozen? ⟨x1.2.1,2,none⟩=false:=e0.frozen;obtain⟨u,hu⟩:=vE x1.2.2.used;obtain⟨xb,i4⟩:=vE x1.2.1;(rw[<-hu]at k2 c1 qx f6 f7 b9;rw[<-i4]at a4 qx fx c1 f6 f7 b9 i3;have k3:=Hd b9;have k4:=Hd (show Tj z (wr.setCell ⟨xb,2,none⟩ (.int .i64 (u-1))) s bm room (S1.map (Nh (R.take (j+1)))) by rw[cA,hr];exact c1);have k5:=Hd (show T'++R.take (j+1)=(T'++R.take j)++[r] by rw[cA,hr, <-bZ];rfl);have f8:=Jx (Ae.new (wr.setCell ⟨xb,2,none⟩ (.int .i64 (u-1))) (.cells #[.string r] 9));rw[fO]at f8;have k6:=Hd f8;have k7:T'.length+j+1<=maxLen:=by have:=b8.o;have:=X.o;have:=a3.o;unfold maxLen;omega);(have k8:(T'.length+j+1)*16<=140737488355328:=by have:=b8.o;have:=X.o;have:=a3.o;omega);clear Z hr b3 d9 a7 e0 c1 b9 f5 hu i4 f8 A qr qs;obtain⟨i0,hi,k9,l0,l1⟩:=info_parts Bl;(go_wp2_with (at_builtin;refine EX _ rfl (.tmp 84) (.tmp 86) 52 rfl 9 i0 _ 1 16 Bd hi k9 l0 l1 rfl vI (.slice a5 (T'.length+j) c5) (T'.length+j) _ rfl (Jy f6.o ((Aa _).alloc _)) ⟨wr.heap.size,0,none⟩ 1 1 [.string r] rfl rfl k6.o (by simp[Value.oneCell']) k7 k8 ?_;intro v' w6 r1 r2 r3;have l2:=Hd r1;have e1:=Hd r2;have e9:=Hd r3;obtain⟨a6,c6,rfl⟩:=Ir r1;clear r1 r2 r3));go_roundw;(case rel =>(have m4:z<=wr.heap.size:=by have:=HI.o.kp.size;have:=HZ.o;omega);have e3:=(Aa (wr.setCell ⟨xb,2,none⟩ (.int .i64 (u-1)))).alloc (.cells #[.string r] 9);refine⟨j+1,by omega,by go_num,(k4.o.ext e3).past e1.o (fun c hc=>HI.o.new c hc),?_,fun b hb=>?_,Kq (Jy f7.o e3) e1.o (fun c hc f=>by have:=j7.o c hc;have:=HI.o.new c f;omega),?_,((HI.o.rk.set xb (.inl rfl) _).ext e3).keeps e1.o (fun c hc=>by have:=HI.o.new c hc;have:=HZ.o;omega)⟩;{have h:=l2.o;rw[k5.o,bW];exact h};{rcases e9.o with h|h;{exact HI.o.new b (h ▸ hb)};have:=h b hb;rw[bG,fO]at this;omega};refine KR (KR (KR HI.o.kp k3.o (fun x e=>.inr (.inl ?_))) e3 (fun x e=>e.elim)) e1.o (fun x e=>.inr (.inr (HI.o.new x e)));rw[show x=xb from e];exact i3.o);case measure=>exact vJ};have l3:j=R.length:=vO;subst l3;have c2:=Z.st;rw[cD]at c2;have a9:=Z.row;rw[cD]at a9;obtain⟨ob,m5,f9⟩:=c2.del t;have k1:=c2.st.st.cell (i:=1) (v:=.map (some bm)) vF;have e4:Ad (fun z=>z=bm) wr (wr.putObj bm ob):=Ad.onePut wr bm ob;have i5:=Hd f9;have l4:=Hd (Kq a9 e4 (fun b hb e=>by have:=Z.new b hb;have:=c2.b0;have e:b=bm:=e;omega));have l5:=Hd Z.new;have l6:=Hd (KR Z.kp e4 (fun x e=>.inl e));obtain⟨m6,m7,d2,_⟩:=f9.st.mp.mp;(have g6:=Hd (Z.rk.put e4 d2);clear d2;clear c2 a9 f9 e4 Z HI A qr qs;go_wp2_with fail);go_roundw;(case rel =>have H:=d8.o.1;have hk:=d8.o.2;have g0:=oZ H R;rw[hk]at g0;have m8:=q.o.len;have m9:=b8.o;have l7:=X.o;have g7:=a3.o;refine⟨Eo (S1.map (Nh R)) t.data.toList,T'++R,i5.o,?_,jsP q.o.loose rfl,by rw[bK];exact l4.o,l5.o,jy2 q.o.sub R _,?_,by omega,by rw[bK];omega,?_,l6.o,g6.o⟩;{have:=jxN q.o.st.st.nd q.o.cnt H f4.o.1;rw[hk, <-j6.o]at this;exact this};{rw[FS,jqe, <-q.o.sum,jsA q.o.st.st.nd H,hk,f4.o.2];omega};have:=jwB g4.o q.o.sub q.o.stay H f4.o.2 R;rw[hk]at this;exact this);case measure =>have g0:=oZ d8.o.1 R;rw[d8.o.2]at g0;have g7:=a3.o;have l7:=X.o;rw[i5.o.st.mapSz,f1.o];simp only[ID];omega
theorem ju8(s bm:Nat)(room:Int)(S:vT)(h:Ev w s bm room S)(hcn:Ni S)(hfl:BL S)(hl:S.length<=20000)(hh:∀ x∈S,x.2.2.held<=1000000)(k:vB):vQ 75 #[.pointer (some ⟨s,0,none⟩),.string k] w (tA w s bm room S k):=by
 by_cases q:Xn (Be S k.data.toList)=0
 ·exact (drop_zero w s bm room S h k q).mono fun e w' ⟨A,H⟩=>.inl ⟨q,A,H⟩
 ·cases hy:Be S k.data.toList with| none=>rw[hy]at q;exact absurd rfl q| some y =>rw[hy]at q;have q:¬ y.2.2.held=0:=q;have:=hcn.held y (Fa hy).1;exact jsa w s bm room S h hcn hfl hl hh k y hy vO
end
section
open Go Go.RowKit
theorem jP{M:vM}:Kd (Gh S G M top)=Kd S++(Cq S M).flatMap (Ik G):=by
 rw[Vc];have h:=jrp ((Cq S M).flatMap (Ik G)) (Ak top) (S++La G (Cq S M));unfold Kd;rw[h,dW, <-ZC]
theorem IW{M:vM}:(Gh S G M top).map (·.1)=(S++La G (Cq S M)).map (·.1):=by rw[Vc,jro]
theorem pF{M:vM}(hc:Ni S)(hG:G.map Mq=Ck L)(hf:Xx G)(hP:Rs S G (Ak top) M (Cq S M).length):Ni (Gh S G M top):=by
 have J:∀ r∈(Cq S M).flatMap (Ik G),r∈M:=fun r A=>by have:=hP.is;rw[cD]at this;rw[this];exact bM _ A
 refine⟨fun x H=>?_,fun r A=>?_,fun x H=>?_,fun x H=>?_⟩
 ·rw[jP,OO];rw[Vc]at H;obtain⟨z,q,rfl⟩:=bC.1 H;show z.2.2.used+((cK ((Cq S M).flatMap (Ik G)) z.1:Nat):Int)=((cK (Kd S) z.1+cK ((Cq S M).flatMap (Ik G)) z.1:Nat):Int);rcases bR.1 q with q|q;{have:=hc.used z q;omega};obtain⟨K,f,O,X⟩:=Uz q;obtain⟨t,Z,_,e⟩:=Xf hG K;(have h0:cK (Kd S) z.1=0:=jxG fun r A er=>by have:=hc.shut r A;rw[er,X, <-Xi,(DW.1 O).2]at this;cases this);(have hu:z.2.2.used=0:=by rw[e];rfl);omega
 ·rw[IW];rw[jP]at A;rcases bR.1 A with A|A;{rw[bW];exact gL _ (hc.shut r A)};exact Xi.1 (KO hP (J r A))
 ·rw[Vc]at H;obtain⟨z,q,rfl⟩:=bC.1 H;show 0<=z.2.2.held+((cK [Ak top] z.1:Nat):Int);rcases bR.1 q with q|q;{have:=hc.held z q;omega};obtain⟨t,Z,_,e⟩:=Xf hG (Uz q).1;(have hu:z.2.2.held=0:=by rw[e];rfl);omega
 ·rw[Vc]at H;obtain⟨z,q,rfl⟩:=bC.1 H;show z.2.2.refs.length<=16;rcases bR.1 q with q|q;{exact hc.r16 z q};exact hf.refs z (Uz q).1
theorem nV{M:vM}(hc:Ni S)(hfl:BL S)(hG:G.map Mq=Ck L)(hP:Rs S G (Ak top) M (Cq S M).length):BL (Gh S G M top):=fun x J=>by
 rw[Vc]at J
 obtain⟨z,q,rfl⟩:=bC.1 J
 show 0<z.2.2.used+((cK ((Cq S M).flatMap (Ik G)) z.1:Nat):Int)+(z.2.2.held+((cK [Ak top] z.1:Nat):Int));rcases bR.1 q with q|q
 ·have:=hfl z q;omega
 ·obtain⟨A,f,H,K⟩:=Uz q
  obtain⟨t,X,_,e⟩:=Xf hG A
  have Z:z.2.2.used=0:=by rw[e];rfl
  have hh:z.2.2.held=0:=by rw[e];rfl
  have O:=(DW.1 H).1
  have:=hP.is
  rw[cD]at this;rw[this]at O;rcases bT.1 O with h|h
  ·have:1<=cK [Ak top] z.1:=by rw[K,h];exact WH (by simp)
   omega
  ·have:1<=cK ((Cq S M).flatMap (Ik G)) z.1:=by rw[K];exact WH h
   omega
theorem jwD(T:vM)(r:vB)(S:vT):Iu (S.map (CW T r))=Iu S+((S.map (·.1)).count r.data.toList:Int):=by
 induction S with
 |nil=>simp[Iu]
 |cons x l ih =>(have e:∀ (a:Gd) b,Iu (a::b)=a.2.2.held+Iu b:=fun a b=>by unfold Iu;rw[bN,iJ]);(rw[bN,e,e,ih,bN,List.count_cons];have q:(CW T r x).2.2.held=x.2.2.held+((cK [r] x.1:Nat):Int):=rfl;have A:cK [r] x.1=if x.1=r.data.toList then 1 else 0:=by have:=KJ r [] x.1;rw[this];simp[cK]);rw[q,A];by_cases hx:x.1=r.data.toList;{rw[if_pos hx,if_pos (by simp[hx])];push_cast;omega};rw[if_neg hx,if_neg (by simpa using hx)];push_cast;omega
theorem jy4(A B:vT):Iu (A++B)=Iu A+Iu B:=by unfold Iu;rw[bW,List.sum_append]
theorem oM:∀ {B:vT},(∀ x∈B,x.2.2.held=0)->Iu B=0
 |[],_=>rfl
 |x::r,h=>by
  have e:Iu (x::r)=x.2.2.held+Iu r:=by unfold Iu;rw[bN,iJ]
  rw[e,h x bO,oM fun y q=>h y (bM _ q)];rfl
theorem eO:∀ {l:List El},l.Nodup->∀ {k:El},k∈l->l.count k=1
 |[],_,_,q=>by cases q
 |x::r,h,k,q=>by
  rw[dF]at h;rw[List.count_cons]
  by_cases e:x=k
  ·subst e
   rw[List.count_eq_zero_of_not_mem h.1];simp
  ·have q:k∈r:=(bT.1 q).resolve_left fun A=>e A.symm
   rw[eO h.2 q];simp[e]
theorem jy3{M:vM}(hn:((Gh S G M top).map (·.1)).Nodup)(hG:G.map Mq=Ck L)(hP:Rs S G (Ak top) M (Cq S M).length):Iu (Gh S G M top)=Iu S+1:=by
 have q:(Ak top).data.toList∈(S++La G (Cq S M)).map (·.1):=Xi.1 (KO hP (by rw[hP.is];exact bO));rw[IW]at hn;rw[Vc,jwD,jy4,oM (B:=La G (Cq S M)) (fun x A=>by obtain⟨t,H,_,e⟩:=Xf hG (Uz A).1;rw[e];rfl),eO hn q]
 omega
theorem OF{M:vM}:(Gh S G M top).length<=S.length+(Cq S M).length:=by
 rw[Vc,bU,bK]
 have:(La G (Cq S M)).length<=(Cq S M).length:=List.length_filterMap_le _ _
 omega
theorem mF{M:vM}{n:Int}(h:∀ x∈S,x.2.2.held<=n)(h0:0<=n)(hG:G.map Mq=Ck L):∀ x∈Gh S G M top,x.2.2.held<=n+1:=fun x A=>by
 rw[Vc]at A
 obtain⟨z,q,rfl⟩:=bC.1 A
 show z.2.2.held+((cK [Ak top] z.1:Nat):Int)<=n+1;have H:=PE [Ak top] z.1;rw[List.length_singleton]at H;rcases bR.1 q with q|q
 ·have:=h z q;omega
 ·obtain⟨t,J,_,e⟩:=Xf hG (Uz q).1
  have K:z.2.2.held=0:=by rw[e];rfl
  omega
structure Kp(U:vM)(S:vT):Prop where
 is:∀ x∈S,∃ t∈U,x.1=ky t/\x.2.2.text=t/\x.2.2.refs=Gc (Bo t)
 cnt:Ni S
 full:BL S
theorem Kp.text(hU:He U)(h:Kp U S)(ht:t∈U)(hk:ky t∈S.map (·.1)):∃ x,Be S (ky t)=some x/\x∈S/\x.2.2.text=t/\x.2.2.refs=Gc (Bo t):=by
 obtain⟨x,q⟩:=cX.1 (Xi.2 hk)
 obtain⟨A,H⟩:=Fa q
 obtain⟨J,e,K,O,X⟩:=h.is x A
 have:J=t:=wQ hU e ht (K.symm.trans H)
 subst this
 exact⟨x,q,A,O,X⟩
theorem Kp.shut(hU:He U)(h:Kp U S)(ht:t∈U)(hk:ky t∈S.map (·.1))(hr:r∈Gc (Bo t)):r.data.toList∈S.map (·.1):=by
 obtain⟨x,_,e,_,q⟩:=h.text hU ht hk
 exact h.cnt.shut r (dL.2 ⟨x,e,by rw[q];exact hr⟩)
def LE(U:vM):Prop:=∀ t∈U,∃ n,Ht t n
theorem oD(w:vW)(hU:He U)(h:Kp U S)(hm:Dv m=0)(hs:∀ t∈Nf m,t∈U)(e:ky (Ds m).text∈S.map (·.1)):∀ t∈Nf m,ky t∈S.map (·.1):=
 jwm w hm (fun k=>k.data.toList∈S.map (fun x:Gd=>x.1)) (fun t q A r e=>h.shut hU (hs t q) A e) e
theorem Kp.has(w:vW)(hU:He U)(h:Kp U S)(hm:Dv m=0)(hs:∀ t∈Nf m,t∈U)(hr:ky (Ds m).text∈S.map (·.1)):Ru S m:=
 ⟨hm,fun t e=>by
  have e:=(Rb (Bz (Ds m)) t).2 e
  obtain⟨x,q,_,A,_⟩:=h.text hU (hs t e) (oD w hU h hm hs hr t e)
  exact⟨x,q,A⟩⟩
theorem Kp.nodes(h:Kp U S)(hN:∀ t∈U,∃ n,Ht t n):∀ x∈S,∃ n,Ht x.2.2.text n:=fun x q=>by
 obtain⟨t,A,_,e,_⟩:=h.is x q
 rw[e];exact hN t A
theorem E_(hm:Dv m=0):LE (Nf m):=fun t e=>by
 obtain⟨n,q,_⟩:=(XC hm).node t e
 exact⟨n,q⟩
structure Rw(S:vT)(m:vL)(L:vM):Prop where
 ok:Dv m=0
 head:L[0]?=some (Ds m).text
 sub:∀ t∈L,t∈Nf m
 all:∀ t∈Nf m,t∈L\/ky t∈S.map (·.1)
theorem Rw.refs(w:vW){S:vT}{m:vL}{L:vM}(h:Rw S m L){G:vT}(hG:G.map Mq=Ck L){x r:vB}(q:r∈Ik G x):Qz S G r:=by
 unfold Ik at q;cases ha:Be G x.data.toList with
 |none=>rw[ha]at q;cases q
 |some y =>rw[ha]at q;obtain⟨t,K,_,e⟩:=Xf hG (Fa ha).1;have q:r∈y.2.2.refs:=q;rw[e]at q;obtain⟨n,J,A⟩:=(XC h.ok).node t (h.sub t K);have q:r∈Gc (Bo t):=q;rw[BW w (Wg J) J]at q;obtain⟨O,H,e⟩:=A r q;subst e;rcases h.all O H with h1|h1;{exact .inr (jN hG h1)};exact .inl (Xi.2 h1)
theorem Rw.why(w:vW)(h:Rw S m L){k:Int}(hk:WE False room S L k):k=3/\room<(S.length:Int)+(L.length:Int):=by
 rcases hk with⟨_,e⟩|⟨_,G,hG,x,r,hr,hno⟩|⟨rfl,top,G,M,_,hG,hP,hroom⟩
 ·exact e.elim
 ·exact absurd (h.refs w hG hr) hno
 ·have e:=JW (S:=S) (M:=M) (fun x q=>hP.at' q);have A:=(FN L).2.2;rw[<-hG,bU]at A;exact⟨rfl,by omega⟩
theorem aZ(f:Gd->Gd)(hf:∀ x,(f x).1=x.1):∀ (L:vT) (k:El),Be (L.map f) k=(Be L k).map f
 |[],k=>rfl
 |x::L,k=>by
  unfold Be;rw[bN,fL,fL,hf];cases e:decide (k=x.1)with
  |true=>rfl
  |false=>exact aZ f hf L k
theorem eG(r:vB)(k:El):cK [r] k=if k=r.data.toList then 1 else 0:=by
 have:=KJ r [] k
 rw[this];unfold cK;simp
structure Rt(w:World)(U:vM)(S:vT)(m:vL)(L:vM)(S':vT):Prop where
 kp:Kp U S'
 key:∀ k,k∈S'.map (·.1)↔k∈S.map (·.1)\/∃ t∈Nf m,k=ky t
 held:∀ k,Xn (Be S' k)=Xn (Be S k)+if k=ky (Ds m).text then 1 else 0
 sum:Iu S'=Iu S+1
 len:S'.length<=S.length+L.length
 blk:∀ x∈S',x.2.1∈S.map (·.2.1)\/w.heap.size<=x.2.1
 bd:∀ n:Int,0<=n->(∀ x∈S,x.2.2.held<=n)->∀ x∈S',x.2.2.held<=n+1
theorem Rw.add(hU:He U)(hK:Kp U S)(h:Rw S m L)(hs:∀ t∈Nf m,t∈U)(hl:L.length<=1000){M:vM}(hA:Lu w s bm room S L (Ds m).text G M e w'):Rt w U S m L (Gh S G M (Ds m).text):=by
 have X:=hA.path;have O:=hA.given;have hF:=SW O hA.nodes hl;have a3:((Gh S G M (Ds m).text).map (·.1)).Nodup:=hA.st.nd;have q:∀ x∈La G (Cq S M),x∈G/\(∃ t∈L,x.1=ky t/\x.2.2=Fq t)/\Be S x.1=none:=fun x A=>by obtain⟨h1,z,J,e⟩:=Uz A;exact⟨h1,Xf O h1,by rw[e];exact (DW.1 J).2⟩
 have a4:∀ x∈S++La G (Cq S M),∃ t∈U,x.1=ky t/\x.2.2.text=t/\x.2.2.refs=Gc (Bo t):=fun x A=>by rcases bR.1 A with A|A;{exact hK.is x A};obtain⟨t,Z,e1,e2⟩:=(q x A).2.1;exact⟨t,hs t (h.sub t Z),e1,by rw[e2];rfl,by rw[e2];rfl⟩
 have a0:Kp U (Gh S G M (Ds m).text):=by refine⟨fun x' a1=>?_,pF hK.cnt O hF X,nV hK.cnt hK.full O X⟩;rw[Vc]at a1;obtain⟨x,A,rfl⟩:=bC.1 a1;exact a4 x A
 have H:ky (Ds m).text∈(Gh S G M (Ds m).text).map (·.1):=by rw[IW];exact Xi.1 (KO X (by rw[X.is];exact bO))
 have a2:∀ k,Be (Gh S G M (Ds m).text) k=(Be (S++La G (Cq S M)) k).map (CW ((Cq S M).flatMap (Ik G)) (Ak (Ds m).text)):=fun k=>by rw[Vc];exact aZ (CW ((Cq S M).flatMap (Ik G)) (Ak (Ds m).text)) (fun _=>rfl) _ k
 refine⟨a0,fun k=>?_,fun k=>?_,jy3 a3 O X,?_,fun x A=>?_,fun n hn hb=>mF hb hn O⟩
 ·constructor;{intro K;rw[IW,bW,bR]at K;rcases K with K|K;{exact .inl K};obtain⟨x,A,rfl⟩:=bC.1 K;obtain⟨t,Z,e1,_⟩:=(q x A).2.1;exact .inr ⟨t,h.sub t Z,e1⟩};rintro (K|⟨t,Z,rfl⟩);{rw[IW,bW,bR];exact .inl K};exact oD w hU a0 h.ok hs H t Z
 ·rw[a2];(have J:(if k=ky (Ds m).text then (1:Int)else 0)=((cK [Ak (Ds m).text] k:Nat):Int):=by rw[eG];unfold ky;split<;>rfl);rw[J];unfold Be;rw[iT];cases hS:List.find? (fun x=>decide (k=x.1)) S with| some y =>have a5:=(Fa (L:=S) (k:=k) hS).2;show y.2.2.held+((cK [Ak (Ds m).text] y.1:Nat):Int)=y.2.2.held+_;rw[a5]| none =>cases hP2:List.find? (fun x=>decide (k=x.1)) (La G (Cq S M))with| some y =>have hy:=Fa (L:=La G (Cq S M)) (k:=k) hP2;obtain⟨t,Z,e1,e2⟩:=(q y hy.1).2.1;show y.2.2.held+((cK [Ak (Ds m).text] y.1:Nat):Int)=0+_;rw[hy.2,e2];rfl| none =>show (0:Int)=0+_;rw[eG];(have:k≠(Ak (Ds m).text).data.toList:=fun e=>by have h1:=a2 k;have h2:=Xi.2 H;unfold ky at h2;rw[<-e,h1]at h2;unfold Be at h2;rw[iT,hS,hP2]at h2;cases h2);rw[if_neg this];rfl
 ·have h1:=OF (S:=S) (G:=G) (M:=M) (top:=(Ds m).text);have h2:=JW (S:=S) (M:=M) (fun x A=>X.at' A);have h3:=(FN L).2.2;rw[<-O,bU]at h3;omega
 ·rw[Vc]at A;obtain⟨z,J,rfl⟩:=bC.1 A;rcases bR.1 J with J|J;{exact .inl (bC.2 ⟨z,J,rfl⟩)};exact .inr (hA.news z (q z J).1)
theorem Kp.drop(h:Kp U S){w:vW}(hD:GQ w s bm room S S' y w'):Kp U S':=
 ⟨fun x e=>by
  obtain⟨z,q,A,_,H,J,_⟩:=hD.sub x e
  obtain⟨u,K,rfl⟩:=bC.1 q
  obtain⟨k1,O,X,Z,k5⟩:=BX y.2.1 (y.2.2.held-1) u
  obtain⟨t,ht,f1,f2,f3⟩:=h.is u K
  exact⟨t,ht,by rw[A,X];exact f1,by rw[H,Z];exact f2,by rw[J,O];exact f3⟩,hD.cnt,hD.full⟩
end
section
open Go Go.RowKit
section
variable {w:vW} {s bm:Nat} {room:Int} {S:vT} {L:vM} {top:vB} {G:vT} {M:vM} {e:Ending} {w':vW}
theorem Lu.nodesS(h:Lu w s bm room S L top G M e w')(hN:∀ x∈S,∃ n,Ht x.2.2.text n):∀ x∈Gh S G M top,∃ n,Ht x.2.2.text n:=fun x A=>by
 rw[Vc]at A
 obtain⟨z,q,rfl⟩:=bC.1 A
 rcases bR.1 q with q|q
 ·exact hN z q
 ·obtain⟨t,H,_,e⟩:=Xf h.given (Uz q).1
  obtain⟨n,J⟩:=h.nodes t H
  refine⟨n,?_⟩
  show Ht z.2.2.text n;rw[e];exact J
theorem Lu.lenS(h:Lu w s bm room S L top G M e w')(hr:(S.length:Int)<=room):((Gh S G M top).length:Int)<=room:=by
 have q:=h.fits;have A:=OF (S:=S) (G:=G) (M:=M) (top:=top);omega
theorem Lu.len2(h:Lu w s bm room S L top G M e w'):(Gh S G M top).length<=S.length+L.length:=by
 have H:=OF (S:=S) (G:=G) (M:=M) (top:=top);have J:=JW (S:=S) (M:=M) (fun x q=>h.path.at' q);have A:=(FN L).2.2;rw[<-h.given,bU]at A;omega
theorem Lu.newS(h:Lu w s bm room S L top G M e w'):∀ x∈Gh S G M top,x.2.1∈S.map (·.2.1)\/w.heap.size<=x.2.1:=fun x A=>by
 rw[Vc]at A
 obtain⟨z,q,rfl⟩:=bC.1 A
 rcases bR.1 q with q|q
 ·exact .inl (bC.2 ⟨z,q,rfl⟩)
 ·exact .inr (h.news z (Uz q).1)
theorem Lu.cntS(h:Lu w s bm room S L top G M e w')(hl:L.length<=1000)(hc:Ni S)(hf:BL S):Ni (Gh S G M top)/\BL (Gh S G M top):=
 ⟨pF hc h.given (SW h.given h.nodes hl) h.path,nV hc hf h.given h.path⟩
end
end
section
open Go Go.RowKit
structure Kf(w0:World)(s bm:Nat)(room:Int)(S:vT)(W:World)(n:Nat):Prop where
 st:Ev W s bm room S
 all:PV S
 bnew:w0.heap.size<=bm
 new:∀ x∈S,w0.heap.size<=x.2.1
 cnt:Ni S
 full:BL S
 len:S.length<=n
 fit:(S.length:Int)<=room
 held:∀ x∈S,x.2.2.held<=n
theorem Kf.ext(h:Kf w0 s bm room S W n)(e:Af W W'):Kf w0 s bm room S W' n:=
 ⟨h.st.ext e,h.all,h.bnew,h.new,h.cnt,h.full,h.len,h.fit,h.held⟩
theorem Kf.mono{m:Nat}(h:Kf w0 s bm room S W n)(e:n<=m):Kf w0 s bm room S W m:=
 ⟨h.st,h.all,h.bnew,h.new,h.cnt,h.full,bF h.len e,h.fit,fun x q=>kL (h.held x q)⟩
theorem Kf.bds(h:Kf w0 s bm room S W n)(hn:n<=20000):S.length<=100000/\(∀ x∈S,0<=x.2.2.used/\x.2.2.used<=1000000000)/\(∀ x∈S,0<=x.2.2.held/\x.2.2.held<=1000000000):=
 ⟨kL h.len,fun x e=>by
  have q:=h.cnt.used x e;have A:=PE (Kd S) x.1;have H:=jU h.cnt.r16
  have:=h.len
  omega,fun x e=>⟨h.cnt.held x e,kL (h.held x e)⟩⟩
theorem Kf.none(h:Ev W' s bm (max room 0) [])(hb:W.heap.size<=bm)(hw:w0.heap.size<=W.heap.size):Kf w0 s bm (max room 0) [] W' 0:=
 ⟨h,fun x e=>(by cases e),bF hw hb,fun x e=>(by cases e),Ni.none,fun x e=>(by cases e),bP _,by show (0:Int)<=_;omega,fun x e=>(by cases e)⟩
theorem Kf.add{M:vM}(h:Kf w0 s bm room S W n)(hw:w0.heap.size<=W.heap.size)(hl:L.length<=1000)(h1:1<=L.length)(hY:Lu W s bm room S L top G M e W'):Kf w0 s bm room (Gh S G M top) W' (n+L.length):=by
 obtain⟨A,H⟩:=hY.cntS hl h.cnt h.full
 refine⟨hY.st,hY.nodesS h.all,h.bnew,fun x q=>?_,A,H,bF hY.len2 (kL h.len),hY.lenS h.fit,fun x q=>?_⟩
 ·rcases hY.newS x q with e|e;{obtain⟨y,J,e⟩:=bC.1 e;rw[<-e];exact h.new y J};exact bF hw e
 ·have:=mF (top:=top) (M:=M) h.held vO hY.given x q;omega
theorem Kf.drop(h:Kf w0 s bm room S W n)(hy:y∈S)(hD:GQ W s bm room S S' y W'):Kf w0 s bm room S' W' n:=by
 have q:∀ x∈S',∃ z∈S,x.2.1=z.2.1/\x.2.2.text=z.2.2.text/\x.2.2.held<=n:=fun x A=>by obtain⟨v,J,_,K,O,_,X⟩:=hD.sub x A;obtain⟨z,H,rfl⟩:=bC.1 J;have hb:=h.held z H;refine⟨z,H,?_⟩;rw[K,O,X];unfold Cl;by_cases hc:z.2.1=y.2.1;{rw[if_pos hc];refine⟨rfl,rfl,?_⟩;show y.2.2.held-1<=(n:Int);have:=h.held y hy;omega};rw[if_neg hc];exact⟨rfl,rfl,hb⟩
 refine⟨hD.st,fun x A=>?_,h.bnew,fun x A=>?_,hD.cnt,hD.full,bF hD.len h.len,?_,fun x A=>(q x A).choose_spec.2.2.2⟩
 ·obtain⟨z,H,_,e,_⟩:=q x A;rw[e];exact h.all z H
 ·obtain⟨z,H,e,_⟩:=q x A;rw[e];exact h.new z H
 ·have Z:=hD.len;have:=h.fit;omega
theorem Ev.keeps{L:vT}(h:Ev W s bm room L)(k:Ad F W W')(hs:¬ F s)(hm:¬ F bm)(hL:∀ x∈L,¬ F x.2.1)(hF:Qa W F):Ev W' s bm room L:=⟨h.st.keeps k hs,h.mp.keeps k hm hL hF⟩
theorem Kf.keeps(h:Kf w0 s bm room S W n)(k:Ad F W W')(hs:¬ F s)(hm:¬ F bm)(hL:∀ x∈S,¬ F x.2.1)(hF:Qa W F):Kf w0 s bm room S W' n:=
 ⟨h.st.keeps k hs hm hL hF,h.all,h.bnew,h.new,h.cnt,h.full,h.len,h.fit,h.held⟩
theorem jva{w:vW}(h:GQ w s bm room S S' y w'):∀ x∈S',∃ z∈S,x.2.1=z.2.1:=fun x e=>by
 obtain⟨v,q,_,A,_⟩:=h.sub x e
 obtain⟨z,H,rfl⟩:=bC.1 q
 refine⟨z,H,?_⟩
 rw[A];unfold Cl;split<;>rfl
def PG(S:vT)(r:vB)(S':vT):Prop:=(Xn (Be S r.data.toList)=0/\S'=S)\/∃ w s bm room y w',Ev w s bm room S/\Be S r.data.toList=some y/\0<y.2.2.held/\GQ w s bm room S S' y w'
def Tp(l:List Au)(es:List (Ce Int))(S:vT)(es':List (Ce Int))(S':vT):Prop:=
 ∀ J:List (Ce Int)->vT->Prop,(∀ e1 S1 x r S2,J e1 S1->x∈e1->Bx l x.1=false->x.2.1=.string r->PG S1 r S2->J (Jr e1 x.1) S2)->J es S->J es' S'
theorem Tp.refl:Tp l es S es S:=fun _ _ h=>h
theorem Tp.step(h:Tp l es S e1 S1)(h1:x∈e1)(h2:Bx l x.1=false)(h3:x.2.1=.string r)(h4:PG S1 r S2):Tp l es S (Jr e1 x.1) S2:=fun J e q=>e _ _ x r _ (h J e q) h1 h2 h3 h4
theorem Tp.sub(h:Tp l es S es' S'):∀ x∈S',∃ z∈S,x.2.1=z.2.1:=
 h (fun _ T=>∀ x∈T,∃ z∈S,x.2.1=z.2.1) (fun _ S1 _ _ S2 A _ _ _ J u H=>by
  rcases J with⟨_,rfl⟩|⟨_,_,_,_,_,_,_,_,_,hD⟩
  ·exact A u H
  ·obtain⟨v,K,e⟩:=jva hD u H
   obtain⟨O,q,X⟩:=A v K
   exact⟨O,q,e.trans X⟩) fun x Z=>⟨x,Z,rfl⟩
def Rj(s:List (Ce Int)):Array Nat:=(s.map (·.2.2)).toArray
theorem jvP{s:List (Ce Int)}(hx:x∈Fl es (Rj s)):(Fl es (Rj (s++[x]))).length<(Fl es (Rj s)).length:=by
 have e:Fl es (Rj (s++[x]))=(Fl es (Rj s)).filter (fun y => !(y.2.2 == x.2.2)):=by unfold Fl Rj;rw[List.filter_filter];refine iU (fun y _=>?_);simp only[List.contains_toArray,bW,bN,fX,List.contains_append];by_cases h1:y.2.2=x.2.2<;>simp[h1]
 rw[e,jC]
 exact⟨x,hx,by simp⟩
def Su(l:List Au)(sn:List (Ce Int))(x:Ce Int):Bool:=Bx l x.1 || !(sn.map (·.2.2)).contains x.2.2
theorem YC{k:Int}:∀ {l:List (Ce Int)},(l.map (·.1)).Nodup->Jr l k=l.filter fun x => !decide (k=x.1)
 |[],_=>rfl
 |x::r,h=>by
  have q:x.1 ∉ r.map (·.1)/\(r.map (·.1)).Nodup:=dF.1 h;unfold Jr
  by_cases hk:k=x.1
  ·rw[if_pos hk,gY (by simp[hk])]
   refine (fJ.2 fun y A=>?_).symm
   have:k≠y.1:=fun e=>q.1 (bC.2 ⟨y,A,by rw[<-e,hk]⟩)
   simp[this]
  ·rw[if_neg hk,gX (by simp[hk]),YC q.2]
theorem lR{y:Ce Int}(h:y.2.2≠x.2.2):((sn++[x]).map (·.2.2)).contains y.2.2=(sn.map (·.2.2)).contains y.2.2:=by
 simp only[bW,bN,fX,List.contains_append]
 have:[x.2.2].contains y.2.2=false:=by rw[dO];intro e;have:=cJ.1 e;exact h (bL.1 this)
 rw[this,Bool.or_false]
theorem jtN(hst:(es.map (·.2.2)).Nodup)(hx:x∈es)(hb:Bx l x.1=true):es.filter (Su l (sn++[x]))=es.filter (Su l sn):=by
 refine iU fun y q=>?_;unfold Su
 by_cases h1:Bx l y.1=true
 ·rw[h1];rfl
 ·have:y.2.2≠x.2.2:=fun e=>h1 (by rw[Pk hst q hx e];exact hb);rw[lR this]
theorem oC(hst:(es.map (·.2.2)).Nodup)(hkn:(es.map (·.1)).Nodup)(hx:x∈es)(hb:Bx l x.1=false):Jr (es.filter (Su l sn)) x.1=es.filter (Su l (sn++[x])):=by
 rw[YC ((List.filter_sublist.map _).nodup hkn),List.filter_filter];refine iU fun y q=>?_;unfold Su
 by_cases h1:x.1=y.1
 ·have:y=x:=Pk hkn q hx h1.symm;subst this;simp[hb]
 ·have:y.2.2≠x.2.2:=fun e=>h1 (by rw[Pk hst q hx e]);rw[lR this];simp[h1]
theorem jwn(h:Fl (es.filter (Su l sn)) (Rj sn)=[]):es.filter (Su l sn)=es.filter fun x=>Bx l x.1:=by
 refine iU fun y q=>?_
 by_cases e:Bx l y.1=true
 ·unfold Su;rw[e];rfl
 ·have e:Bx l y.1=false:=dO.2 e;unfold Su;rw[e];cases hc:(sn.map (·.2.2)).contains y.2.2 with| true=>rfl| false =>(have:y∈Fl (es.filter (Su l sn)) (Rj sn):=by unfold Fl Rj;refine cG.2 ⟨cG.2 ⟨q,by unfold Su;rw[hc];simp⟩,by simpa using hc⟩);rw[h]at this;cases this
def PQ(w:vW)(r:Nat):Array Nat:=match w.heap[r]? with|some (.mapIter _ _ s _)=>s|_=>#[]
theorem NC{w:vW}{r:Nat}{m:Option Nat}{s:Array Nat}(h:Ae w r (.mapIter m a s b)):PQ w r=s:=by
 unfold PQ;rw[show w.heap[r]?=_ from h]
theorem jzb{a:Act}{w:vW}(x y:Operand)(hx:a.eval x=.map (some rm))(hy:a.eval y=.int .i64 bk)
  (ho:o.op=Op.call { callee:=Callee.builtin Builtin.delete,args:=#[x,y],argTypes:=#[72,3] }) (hb:Ae w rm (.map (EB.arr es) ck))
  (h:∀ W,Ae W rm (.map (EB.arr (Jr es bk)) ck)->Ad (fun z=>z=rm) w W->K (a.put o.dst (.tuple #[])) W):o.wp prog a w K Q:=by
 have q:=SK EB Fp hb bk 3 o.type;have e:EB.κ bk=.int .i64 bk:=rfl;rw[e]at q;unfold Oper.wp;simp[execOp,ho,resolve,invoke,builtin,hx,hy,q,Result.andThen];exact h _ (hb.put_same _) (Ad.onePut w rm _)
def CY(rm bm:Nat)(S:vT):Bf:=fun z=>z=rm\/z=bm\/z∈S.map (·.2.1)
def xZ(w w0:vW)(D:Nat->Prop)(b:Nat)(M:Cn)(a:Option Addr)(c rm sb cb:Nat)(es:List (Ce Int))(ck bm:Nat)(room:Int)(S:vT)(n r:Nat)(wr:vW):Prop:=
 ∃ sn S',Ae wr r (.mapIter (some rm) ck (Rj sn) ck)/\Ky D wr b M a c rm sb cb (es.filter (Su M.all sn)) ck/\Kf w0 sb bm room S' wr n/\Ad (CY rm bm S) w wr/\Tp M.all es S (es.filter (Su M.all sn)) S'/\((∀ x∈es,Bx M.all x.1=true)->S'=S/\Af w wr)
theorem jrE(w0:vW)(D:Nat->Prop)(b:Nat)(M:Cn)(a:Option Addr)(c rm sb cb:Nat)(es:List (Ce Int))(ck bm:Nat)(room:Int)(S:vT)(n:Nat)(h:Ky D w b M a c rm sb cb es ck)(hs:Kf w0 sb bm room S w n)(hn:n<=20000)
  (X:∀ z,z=b\/z=rm\/D z->z≠bm/\z≠sb/\z ∉ S.map (·.2.1)) (a5:rm≠b) (a0:∀ z,D z->z≠rm/\z<w.heap.size) (hl:M.all.length<=1000)
  (a2:(es.map (·.2.2)).Nodup) (a7:(es.map (·.1)).Nodup) (a8:∀ x∈es,x.2.2<ck) (J:∀ x∈es,∃ r,x.2.1=.string r) :
  vQ 35 #[.pointer (some ⟨b,0,none⟩)] w fun e w'=>e=.returned (.tuple #[])/\∃ S',Ky D w' b M a c rm sb cb (es.filter fun x=>Bx M.all x.1) ck/\Kf w0 sb bm room S' w' n/\Ad (CY rm bm S) w w'/\Tp M.all es S (es.filter fun x=>Bx M.all x.1) S'/\((∀ x∈es,Bx M.all x.1=true)->S'=S/\Af w w'):=by
 have g8:∀ (fn:Fn) (first cap:Array vV) (w:vW),(Instr.makeFunc fn first cap).run prog w=.ok (.func fn first cap) w:=fun _ _ _ _=>rfl;have e8:=TU EB Fp h.map;have q3:w.cell? ⟨b,3,none⟩=some (.map (some rm)):=h.blk.cellL rfl;have H:=Hd (bA h (bA hs (bA hn (bA X (bA a5 (bA a0 hl))))));have HE:=Hd (bA a2 (bA a7 (bA a8 J)))
 obtain⟨nl,e9⟩:=vE M.all.length
 have f0:=Hd e9;clear h hs hn X a5 a0 hl a2 a7 a8 J e9;unfold vQ;go_in;go_wp2_with fail
 go_loopw [] (fun wr=>xZ w w0 D b M a c rm sb cb es ck bm room S n w.heap.size wr) (fun wr=>(Fl es (PQ wr w.heap.size)).length)
 case atStart =>(have hE:=(Aa w).alloc (.mapIter (some rm) ck #[] ck);have hf:es.filter (Su M.all [])=es:=fJ.2 fun y _=>by unfold Su;simp);refine⟨[],S,Ae.new w _,?_,H.o.2.1.ext hE,hE.mono kZ,?_,fun _=>⟨rfl,hE⟩⟩;{rw[hf];exact H.o.1.ext hE};rw[hf];exact .refl
 case round =>obtain⟨sn,S',hB,hM,hS,hK,b7,A⟩:=hrel;have q:=b7.sub;have d8:=Hd b7;clear b7;obtain⟨a2,a7,a8,J⟩:=HE.o;have HR:=Hd (bA hB (bA hM (bA hS (bA hK (bA q A)))));rcases UW EB hM.map hB (fun x hx=>a8 x (cG.1 hx).1) 0 with⟨hl0,hnx⟩|⟨x,b8,w2,hnx,b9,O⟩;{have c0:=jwn hl0;(have f8:=Hd c0;clear c0 hl0 hB hM hS hK q A a2 a7 a8 J e8 q3;go_wp2_with fail);refine bodyPost_end (results_none rfl _ _ _) rfl ?_;obtain⟨hB,hM,hS,hK,q,A⟩:=HR.o;have b7:=d8.o;rw[f8.o]at hM b7;exact⟨rfl,S',hM,hS,hK,b7,A⟩};have c1:=(cG.1 b8).1;have a9:=(cG.1 c1).1;obtain⟨rr,c7⟩:=J x a9;have d3:rm≠w.heap.size:=kL H.o.1.map.lt;have f1:=hM.map.keeps O d3;have c0:=TH EB f1 c1 b9 ((List.filter_sublist.map _).nodup a2);obtain⟨kx,a3⟩:=vE x.1;(rw[c7]at c0 hnx;have e6:(Instr.entry (.pointer (some ⟨w.heap.size,0,none⟩))).run prog w2=.ok (.tuple #[.int .i64 kx,.string rr]) w2:=by rw[a3];exact c0);(have e7:(Instr.next (.pointer (some ⟨w.heap.size,0,none⟩)) false 0).run prog wr=.ok (.tuple #[.bool true,.int .i64 kx,.string rr]) w2:=by rw[a3];exact hnx);have f2:b≠w.heap.size:=kL H.o.1.blk.lt;(have f9:∀ z,D z->z<w.heap.size\/True:=fun _ _=>.inr trivial;have q2:(w2.alloc (.cells #[.int .i64 kx] 3)).cell? ⟨b,2,none⟩=some (.slice a nl c):=by rw[f0.o];exact ((hM.blk.keeps O f2).alloc _).cellL rfl);(have g0:=Hd (show Rj (sn++[x])=(Rj sn).push x.2.2 by unfold Rj;simp);have HX:=Hd (bA b8 (bA c1 (bA a9 (bA c7 (bA a3 (bA b9 O))))));clear c0 hnx hB hM hS hK q A a2 a7 a8 J e8 q3 b8 c1 a9 c7 a3 b9 O f1 g0 f9;go_wp2_with fail);have k3:=(Aa w2).alloc (.cells #[.int .i64 kx] 3);have d4:=Ae.new w2 (.cells #[.int .i64 kx] 3);generalize w2.alloc (.cells #[.int .i64 kx] 3)=w3 at k3 d4 q2 ⊢;obtain⟨b8,c1,a9,c7,a3,b9,O⟩:=HX.o;obtain⟨hB,hM,hS,hK,q,A⟩:=HR.o;have a0:∀ z,D z->¬ z=w.heap.size:=fun z hz e=>kL ((H.o.2.2.2.2.2.1 z hz).2);have f3:=(hM.ver.keeps O a0).ext k3;have d9:=I_ 74 jrM (fun args w=>by kernel_rfl) w3 D a c M.all f3 (kL H.o.2.2.2.2.2.2) w2.heap.size kx (d4.cell (i:=0) rfl);rw[<-f0.o]at d9;refine d9.mono ?_;rintro e w4 ⟨rfl,e0⟩;have c2:=k3.trans e0;have a5:b≠w.heap.size:=f2;have d3:rm≠w.heap.size:=kL H.o.1.map.lt;(have b0:=(hM.keeps O a5 d3 a0).ext c2;have a4:=H.o.2.1.st;have c8:Qa wr (fun z=>z=w.heap.size):=fun z g2 fz e e1=>by have e:z=w.heap.size:=e;subst e;cases hB.uniq e1);have b1:=(hS.keeps O (by have:=a4.st.lt;show ¬ sb=w.heap.size;omega) (by obtain⟨_,_,h1,_⟩:=a4.mp.mp;have:=h1.lt;show ¬ bm=w.heap.size;omega) (fun y hy e=>by obtain⟨z,hz,e2⟩:=q y hy;have:=(a4.mp.items z hz).lt;have e:y.2.1=w.heap.size:=e;omega) c8).ext c2;(have b2:Ad (CY rm bm S) w w4:=(hK.trans' (G:=fun z=>z=w.heap.size) O kJ).trans (c2.mono kZ);have b3:Ae w4 w.heap.size (.mapIter (some rm) ck (Rj (sn++[x])) ck):=by(have e:Rj (sn++[x])=(Rj sn).push x.2.2:=by unfold Rj;simp);rw[e];exact b9.keeps c2 kI);(have c3:(∀ x∈es,Bx M.all x.1=true)->S'=S/\Af w w4:=fun ha=>⟨(A ha).1,((A ha).2.trans' (G:=fun z=>z=w.heap.size) O kJ).trans c2⟩;have d1:x∈Fl es (Rj sn):=by obtain⟨h1,h2⟩:=cG.1 b8;exact cG.2 ⟨a9,h2⟩);(have HM:=Hd (show (Fl es (Rj (sn++[x]))).length<(Fl es (PQ wr w.heap.size)).length by rw[NC hB];exact jvP d1);have H4:=Hd (bA b0 (bA b1 (bA b2 (bA b3 (bA c3 (bA q a5))))));have g3:=Hd ((d4.keeps e0 kI));have g4:w2.heap.size≠rm:=by have:=H.o.1.map.lt;have:=hK.size;have:=O.size;omega);clear b8 c1 a9 c7 b9 O hB hM hS hK q A a0 f3 d9 k3 d4 e0 c2 d3 b0 a4 c8 b1 b2 b3 c3 d1 q2 e6 e7 a5;cases hh:Bx M.all kx with| true =>(have HH:=Hd hh;clear hh;go_wp2_with fail);go_roundw;(case rel =>obtain⟨b0,b1,b2,b3,c3,q,_⟩:=H4.o;(refine⟨sn++[x],S',b3,?_,b1,b2,?_,c3⟩<;>rw[jtN HE.o.1 HX.o.2.2.1 (by rw[<-a3];exact HH.o)]);{exact b0};exact d8.o);case measure=>rw[NC H4.o.2.2.2.1];exact HM.o| false =>(have HH:=Hd hh;clear hh;go_wp2_with fail);have f4:rm≠b:=H.o.2.2.2.2.1;refine Nc [0,1,2,3,4,5] [5] Af (Ad (fun z=>z=rm)) Aa Aq (fun x y z h k=>Ad.trans h k) (fun x y h=>h.mono kZ) vY vY vY ?_;refine vD ?_;refine Lr _ (.pointer (some ⟨b,0,none⟩)) rfl (fun w1 _=>by kernel_rfl) (vS ?_);refine vD ?_;refine Fc ⟨b,3,none⟩ (.map (some rm)) rfl (fun w5 h5=>Dt (fun w=>by kernel_rfl) ((H4.o.1.blk.drew.keeps h5 (fun e=>f4 e.symm)).cellL rfl)) (vS ?_);refine Fc ⟨w2.heap.size,0,none⟩ (.int .i64 kx) rfl (fun w5 h5=>Dt (fun w=>by kernel_rfl) ((g3.o.drew.keeps h5 g4).cell (i:=0) rfl)) (vS ?_);refine Hl _ rfl (fun wb hb K hK=>?_);have kb:Af w4 wb:=(Ap _).trans hb;refine jzb _ _ rfl rfl rfl (H4.o.1.map.keeps kb kI) (fun W5 c9 a1=>hK _ _ a1 ?_);have HS:=Hd (bA kb (bA c9 a1));clear hK K hb kb c9 a1;refine vS ?_;refine Mr (fun w6 h6=>?_);obtain⟨kb,c9,a1⟩:=HS.o;obtain⟨b0,b1,b2,b3,c3,q,a5⟩:=H4.o;obtain⟨e3,d5,hn,X,_,a0,hl⟩:=H.o;obtain⟨a2,a7,a8,J⟩:=HE.o;(have a9:=HX.o.2.2.1;have a3:=HX.o.2.2.2.2.1;have g5:=e3.map.lt;have d6:=X rm (.inr (.inl rfl));have d7:=b0.ext kb;have b4:Ky D w6 b M a c rm sb cb (es.filter (Su M.all (sn++[x]))) ck:=by have h5:=c9.keeps h6 kI;rw[<-oC a2 a7 a9 (by rw[<-a3];exact HH.o), <-a3];exact⟨(d7.blk.keeps a1 (fun e=>f4 e.symm)).keeps h6 kI,(d7.ver.keeps a1 (fun z hz e=>(a0 z hz).1 e)).ext h6,h5⟩);(have c8:Qa wb (fun z=>z=rm):=fun z g2 fz e e1=>by have e:z=rm:=e;subst e;cases d7.map.uniq e1);have Z:=((b1.ext kb).keeps a1 (fun e=>d6.2.1 e.symm) (fun e=>d6.1 e.symm) (fun y hy e=>by obtain⟨z,hz,e2⟩:=q y hy;have e:y.2.1=rm:=e;exact d6.2.2 (bC.2 ⟨z,hz,by rw[<-e2,e]⟩)) c8).ext h6;(have c4:Ad (CY rm bm S) w w6:=((b2.trans (kb.mono kZ)).trans (a1.mono fun z _ e=>.inl e)).trans (h6.mono kZ);have c5:=((b3.keeps kb kI).keeps a1 (by show ¬ w.heap.size=rm;omega)).keeps h6 kI;have q4:w6.cell? ⟨b,4,none⟩=some (.pointer (some ⟨sb,0,none⟩)):=b4.blk.cellL rfl;have f5:=ju8 w6 sb bm room S' Z.st Z.cnt Z.full (kL Z.len) (fun y hy=>kL (Z.held y hy)) rr;have H6:=Hd (bA b4 (bA Z (bA c4 (bA c5 q))));have g6:=Hd f5;clear kb c9 a1 b0 b1 b2 b3 c3 q a5 e3 d5 hn X a0 hl a2 a7 a8 J g5 d6 d7 b4 c8 Z c4 c5 f5 h6 HS;go_wp2_with fail);refine g6.o.mono ?_;rintro e w7 h7;have f6:=Hd (show ¬(∀ x∈es,Bx M.all x.1=true)from fun ha=>by have:=ha x HX.o.2.2.1;rw[<-HX.o.2.2.2.2.1,HH.o]at this;cases this);have b5:=fun S2 (h:PG S' rr S2)=>d8.o.step HX.o.2.1 (by rw[<-HX.o.2.2.2.2.1];exact HH.o) HX.o.2.2.2.1 h;rw[oC HE.o.1 HE.o.2.1 HX.o.2.2.1 (by rw[<-HX.o.2.2.2.2.1];exact HH.o)]at b5;have d2:=Hd b5;clear b5;rcases h7 with⟨h0,rfl,hE7⟩|⟨S2,y,hy,hpos,rfl,hD⟩;{have d0:=Hd hE7;(have b6:=Hd (d2.o S' (.inl ⟨h0,rfl⟩));clear hE7 h0;go_wp2_with fail);go_roundw;(case rel =>obtain⟨b4,Z,c4,c5,q⟩:=H6.o;exact⟨sn++[x],S',c5.keeps d0.o kI,b4.ext d0.o,Z.ext d0.o,c4.trans (d0.o.mono kZ),b6.o,fun ha=>absurd ha f6.o⟩);case measure=>rw[NC (H6.o.2.2.2.1.keeps d0.o kI)];exact HM.o};have HD:=Hd (bA hy hD);(have b6:=Hd (d2.o S2 (.inr ⟨_,_,_,_,y,_,H6.o.2.1.st,hy,hpos,hD⟩));clear hy hD hpos;go_wp2_with fail);obtain⟨b4,Z,c4,c5,q⟩:=H6.o;obtain⟨e3,d5,hn,X,_,a0,hl⟩:=H.o;obtain⟨hy,hD⟩:=HD.o;(have e4:∀ z,(z=bm\/z∈S'.map (·.2.1))->z=bm\/z∈S.map (·.2.1):=fun z hz=>hz.imp id fun h=>by obtain⟨u,hu,rfl⟩:=bC.1 h;obtain⟨v,hv,e⟩:=q u hu;exact bC.2 ⟨v,hv,e.symm⟩);(have e5:∀ z,(z=b\/z=rm\/D z)->¬(z=bm\/z∈S'.map (·.2.1)):=fun z hz e=>by have:=X z hz;rcases e4 z e with h|h;{exact this.1 h};exact this.2.2 h);(have g9:bm<w.heap.size:=by obtain⟨_,_,h1,_⟩:=d5.st.mp.mp;exact h1.lt);have g7:=c5.keeps hD.kp (fun e=>by rcases e4 _ e with h|h;{omega};obtain⟨u,hu,e⟩:=bC.1 h;have:=(d5.st.mp.items u hu).lt;omega);have f7:=Hd g7;go_roundw;(case rel =>refine⟨sn++[x],S2,f7.o,b4.keeps hD.kp (e5 b (.inl rfl)) (e5 rm (.inr (.inl rfl))) (fun z hz=>e5 z (.inr (.inr hz))),Z.drop (Fa hy).1 hD,c4.trans (hD.kp.mono fun z _ e=>.inr (e4 z e)),b6.o,fun ha=>absurd ha f6.o⟩);case measure=>rw[NC f7.o];exact HM.o
structure Hz(w0:World)(D:Nat->Prop)(W:World)(b:Nat)(M:Cn)(a:Option Addr)(c rm sb cb:Nat)(es:List (Ce Int))(ck bm:Nat)(room:Int)(S:vT)(n:Nat):Prop where
 m:Ky D W b M a c rm sb cb es ck
 s:Kf w0 sb bm room S W n
 sep:∀ z,z=b\/z=rm\/D z->z≠bm/\z≠sb/\z ∉ S.map (·.2.1)
 rb:rm≠b
 db:¬ D b
 dr:∀ z,D z->z≠rm/\z<W.heap.size
 ok:Ew M
 st:(es.map (·.2.2)).Nodup
 kn:(es.map (·.1)).Nodup
 lt:∀ x∈es,x.2.2<ck
 val:∀ x∈es,∃ r,x.2.1=.string r
theorem Hz.ext{a:Option Addr}{c:Nat}(h:Hz w0 D W b M a c rm sb cb es ck bm room S n)(k:Af W W'):Hz w0 D W' b M a c rm sb cb es ck bm room S n:=
 ⟨h.m.ext k,h.s.ext k,h.sep,h.rb,h.db,fun z e=>⟨(h.dr z e).1,bE (h.dr z e).2 k.size⟩,h.ok,h.st,h.kn,h.lt,h.val⟩
theorem Hz.lt'{a:Option Addr}{c:Nat}(h:Hz w0 D W b M a c rm sb cb es ck bm room S n):b<W.heap.size/\rm<W.heap.size/\sb<W.heap.size/\bm<W.heap.size/\∀ z∈S.map (·.2.1),z<W.heap.size:=
 ⟨h.m.blk.lt,h.m.map.lt,h.s.st.st.lt,by obtain⟨_,_,e,_⟩:=h.s.st.mp.mp;exact e.lt,fun z q=>by
  obtain⟨x,A,rfl⟩:=bC.1 q
  exact (h.s.st.mp.items x A).lt⟩
theorem Hz.turn{a a':Option Addr}{c:Nat}(h:Hz w0 D W b M a c rm sb cb es ck bm room S n)(k:Af W W')(hv:Cz (Fo W W') W' (.slice a' M'.all.length c') M'.all)(hM':Ew M')
  (hB:Ae W'' b (.cells (([.int .i64 (M'.win:Int),.int .i64 (M'.next:Int),.slice a' M'.all.length c']:List vV)++(Qw M a c rm sb cb).drop 3).toArray 78)) (k':Ad (fun z=>z=b) W' W''):Hz w0 (Fo W W') W'' b M' a' c' rm sb cb es ck bm room S n:=by
 obtain⟨l1,l2,l3,l4,O⟩:=h.lt'
 have H:∀ z,Fo W W' z->W.heap.size<=z/\z<W'.heap.size:=fun z q=>q;have J:=h.s.ext k;have A:=h.sep b (.inl rfl)
 refine⟨h.m.turn k hv hB k' h.rb (fun z q e=>kL ((H z q).1)),J.keeps k' (fun e=>A.2.1 e.symm) (fun e=>A.1 e.symm) (fun x X e=>A.2.2 (bC.2 ⟨x,X,e⟩)) (fun z Z fz e K=>?_),fun z q=>?_,h.rb,fun e=>kL ((H b e).1),fun z q=>⟨fun e=>kL ((H z q).1),bE (H z q).2 k'.size⟩,hM',h.st,h.kn,h.lt,h.val⟩
 ·have e:z=b:=e;subst e;have:=(h.m.ext k).blk.uniq K;injection this with _ e _;exact absurd e vI
 ·rcases q with q|q|q;{exact h.sep z (.inl q)};{exact h.sep z (.inr (.inl q))};have h1:=(H z q).1;exact⟨by omega,by omega,fun e=>kL (O z e)⟩
theorem TT(w0:vW)(D:Nat->Prop)(b:Nat)(M:Cn)(a:Option Addr)(c rm sb cb:Nat)(es:List (Ce Int))(ck bm:Nat)(room:Int)(S:vT)(n:Nat)(h:Hz w0 D w b M a c rm sb cb es ck bm room S n)(hn:n<=20000)(hl:M.all.length<=1000):vQ 35 #[.pointer (some ⟨b,0,none⟩)] w fun e w'=>e=.returned (.tuple #[])/\∃ H,Hz w0 D w' b M a c rm sb cb (es.filter fun x=>Bx M.all x.1) ck bm room H n/\Ad (CY rm bm S) w w'/\Tp M.all es S (es.filter fun x=>Bx M.all x.1) H/\((∀ x∈es,Bx M.all x.1=true)->H=S/\Af w w'):=by
 refine (jrE w w0 D b M a c rm sb cb es ck bm room S n h.m h.s hn h.sep h.rb h.dr hl h.st h.kn h.lt h.val).mono ?_;rintro e w' ⟨Z,H,hM,hS,X,A,J⟩;have q:(es.filter fun x=>Bx M.all x.1).Sublist es:=jI
 refine⟨Z,H,⟨hM,hS,fun z O=>?_,h.rb,h.db,fun z O=>⟨(h.dr z O).1,bE (h.dr z O).2 X.size⟩,h.ok,(q.map _).nodup h.st,(q.map _).nodup h.kn,fun x K=>h.lt x (q.subset K),fun x K=>h.val x (q.subset K)⟩,X,A,J⟩
 obtain⟨h1,h2,h3⟩:=h.sep z O
 refine⟨h1,h2,fun e=>?_⟩
 obtain⟨x,K,e⟩:=bC.1 e
 obtain⟨y,hy,e2⟩:=A.sub x K
 exact h3 (bC.2 ⟨y,hy,by rw[<-e,e2]⟩)
theorem kE{x:Int}:(Kt M x).2≠0->(Kt M x).1=M:=by
 unfold Kt;split
 ·exact fun _=>rfl
 ·split;{exact fun _=>rfl};split;{exact fun _=>rfl};exact fun h=>absurd rfl h
theorem kF{x:Int}:(Kt M x).1.all.length<=M.all.length:=by
 unfold Kt;split
 ·exact bP _
 ·split;{exact bP _};split;{exact bP _};refine bF AL.length_le ?_;unfold Ke;rw[gV];exact bP _
theorem eJ(w0:vW)(D:Nat->Prop)(b:Nat)(M:Cn)(a:Option Addr)(c rm sb cb:Nat)(es:List (Ce Int))(ck bm:Nat)(room:Int)(S:vT)(n:Nat)(h:Hz w0 D w b M a c rm sb cb es ck bm room S n)(hn:n<=20000)(hl:M.all.length<=900)(at':Int):vQ 21 #[.pointer (some ⟨b,0,none⟩),.int .i64 at'] w fun e w'=>e=.returned (.int .i64 (Kt M at').2)/\Ad (fun z=>z=b\/CY rm bm S z) w w'/\∃ D' a' c' es' S',Hz w0 D' w' b (Kt M at').1 a' c' rm sb cb es' ck bm room S' n/\((Kt M at').2≠0->es'=es/\S'=S)/\((Kt M at').2=0->es'=es.filter fun x=>Bx (Kt M at').1.all x.1)/\Tp (Kt M at').1.all es S es' S'/\((∀ x∈es,Bx (Kt M at').1.all x.1=true)->S'=S):=by
 have H:=Hd h;have HP:=Hd (bA hn hl);have b7:=h.m.blk.lt
 obtain⟨R,hR⟩:=vE (Kt M at')
 have HR:=Hd hR;rw[<-hR]
 obtain⟨nl,a7⟩:=vE M.all.length
 have HN:=Hd a7;clear h hn hl hR a7;unfold vQ;go_in;go_wp2_with fail
 refine vC (CM w D b M a c rm sb cb es ck H.o.m) fun w2 q=>?_;have q0:w2.cell? ⟨b,0,none⟩=some (.int .i64 (M.win:Int)):=(H.o.m.ext q).blk.cellL rfl;have q1:w2.cell? ⟨b,1,none⟩=some (.int .i64 (M.next:Int)):=(H.o.m.ext q).blk.cellL rfl;have q2:w2.cell? ⟨b,2,none⟩=some (.slice a nl c):=by rw[HN.o];exact (H.o.m.ext q).blk.cellL rfl
 have A:=Hd q;clear q;go_wp2_with fail
 have hp:=jwH w2 D M _ (H.o.m.ext A.o).ver H.o.ok HP.o.2 at';rw[<-HN.o, <-HR.o]at hp;refine hp.mono ?_;rintro e w3 ⟨av,rfl,a8,a1⟩
 obtain⟨a3,c3,b4⟩:=a1.sl
 subst b4;have K:=Hd (bA a8 a1);clear hp a8 a1 q0 q1 q2;unfold Il;have b5:=((H.o.m.ext A.o).ext K.o.1).blk
 by_cases he:R.2=0
 ·have J:=Hd he;(rw[he];clear he;go_wp2_with (first|(refine Di Co rfl rfl ?_;intro W4 a2 a4)|(refine Bv (vs:=[.int .i64 (R.1.win:Int),.int .i64 (R.1.next:Int),.slice a3 R.1.all.length c3]) rfl rfl rfl rfl a2 rfl Ao (by simp[Value.oneCell']) ?_;intro W5 O a5;have q0:W5.cell? ⟨w3.heap.size,0,none⟩=some (.int .i64 (R.1.win:Int)):=O.cellL rfl;have q1:W5.cell? ⟨w3.heap.size,1,none⟩=some (.int .i64 (R.1.next:Int)):=O.cellL rfl;have q2:W5.cell? ⟨w3.heap.size,2,none⟩=some (.slice a3 R.1.all.length c3):=O.cellL rfl;have k5:Af w3 W5:=a4.trans' a5 kJ;have X:=Hd (bA k5 (b5.keeps k5 kI));clear k5)|(refine SG (old:=Qw M a c rm sb cb) (vs:=[.int .i64 (R.1.win:Int),.int .i64 (R.1.next:Int),.slice a3 R.1.all.length c3]) rfl rfl rfl rfl X.o.2 (by show 3<=6;decide) Ao (by simp[Value.oneCell']) ?_;intro W6 b6 a9)));(have kx:=A.o.trans (K.o.1.trans X.o.1);have hv:=(K.o.2.ext X.o.1).mono (fun z hz=>(show Fo w W5 z from⟨by have:=hz.1;have:=A.o.size;omega,by have:=hz.2;have:=X.o.1.size;omega⟩));have b0:=H.o.turn kx hv (by rw[HR.o];exact jwI H.o.ok at') b6 a9;have b1:=TT W6 w0 _ b R.1 a3 c3 rm sb cb es ck bm room S n b0 HP.o.1 (by rw[HR.o];have:=kF (M:=M) (x:=at');have:=HP.o.2;omega);have K6:=Hd (bA kx a9);refine b1.mono ?_;clear b1 b0 hv kx q0 q1 q2;rintro e w7 ⟨rfl,S',b2,b3,Z,a0⟩;have H7:=Hd (bA b2 (bA b3 (bA Z fun h=>(a0 h).1)));clear b2 b3 Z a0;go_wp2_with fail);go_ret;refine⟨by rw[J.o];rfl,?_,_,a3,c3,_,S',H7.o.1,fun h=>absurd J.o h,fun _=>rfl,H7.o.2.2⟩;exact ((K6.o.1.mono kZ).trans (K6.o.2.mono fun z _ e=>.inl e)).trans (H7.o.2.1.mono fun z _ e=>.inr e)
 ·(have e1:(R.2 != 0)=true:=by simpa using he);(have J:=Hd he;clear he;go_wp2_with (first|(refine Di Co rfl rfl ?_;intro W4 a2 a4)|(refine Bv (vs:=[.int .i64 (R.1.win:Int),.int .i64 (R.1.next:Int),.slice a3 R.1.all.length c3]) rfl rfl rfl rfl a2 rfl Ao (by simp[Value.oneCell']) ?_;intro W5 O a5)));go_ret;have k5:Af w3 W5:=a4.trans' a5 kJ;have hk:=A.o.trans (K.o.1.trans k5);have g1:=kE (M:=M) (x:=at') (by rw[<-HR.o];exact J.o);rw[<-HR.o]at g1;refine⟨rfl,hk.mono kZ,D,a,c,es,S,?_,fun _=>⟨rfl,rfl⟩,fun h=>absurd h J.o,.refl,fun _=>rfl⟩;rw[g1];exact H.o.ext hk
end
section
open Go Go.RowKit
attribute [local go_sem] Oper.semAt_some
theorem jtU(s bm:Nat)(room:Int)(L:vT)(h:Ev w s bm room L)(hl:L.length<=1000000):vQ 63 #[.pointer (some ⟨s,0,none⟩)] w fun e w'=>∃ v,e=.returned v/\Cd w w' v L.length (EV (Rl (L.map (·.1)))):=by
 have q1:=h.st.cell (i:=1) (v:=.map (some bm)) vF
 obtain⟨es,ck,hm,a8⟩:=h.mp.mp
 have c9:=SF Al Es hm;have a9:es.length=L.length:=a8.lenL;rw[a9]at c9
 obtain⟨i0,hi,b7,b8,b9⟩:=info_parts Jc
 obtain⟨w1,a0,a1,b0⟩:=run_make_own (P:=prog) (w:=w) w.heap.size 52 9 i0 _ 1 Cg.ht hi b7 b8 .i64 .i64 L.length (by rw[b9];omega) (by unfold maxLen;omega) (bP _)
 have k1:Af w w1:=Ad.of_grown b0 (fun _ e=>by cases e);have c0:=Av.made w a1 b0;have d4:=Am q1 k1;have J:=hm.keeps k1 kI;have d5:=TU Al Es J;have HM:=Hd a8;have K1:=Hd k1;have c1:=Hd c0;have c2:=Hd hm;clear h a1 b0 hm a8 hi b7 b8 b9 k1 c0 J;unfold vQ;go_in;go_wp2_with fail
 obtain⟨r,hr⟩:=vE w1.heap.size
 have HR:=Hd hr;rw[<-hr];clear hr;go_loopw [3] (fun v wr=>yD w r bm ck es v wr) (fun v _=>L.length-ID v)
 case atStart =>have hz:=K1.o.size;refine⟨[],⟨c1.o.mono ((Aa w1).alloc _),?_,fun x hx=>(by cases hx),List.nodup_nil,fun b hb e=>?_⟩⟩;{rw[HR.o];exact Ae.new w1 _};have:=c1.o.lt b hb;rw[HR.o]at e;omega
 case round =>obtain⟨q,H⟩:=hrel;obtain⟨ad,cp,rfl⟩:=H.row.sl;have a4:=(c2.o).keeps H.row.ext kI;have b3:q.length<=es.length:=H.len;rcases UW Al a4 H.it HM.o.lt 0 with⟨hl0,hnx⟩|⟨x,hxl,w2,hnx,hr2,hk2⟩;{have hp:=H.done hl0 HM.o.born;(have a2:q.length=L.length:=by rw[hp.length_eq,a9]);(have c3:Rl (q.map (·.1))=Rl (L.map (·.1)):=by rw[aS (hp.map _),HM.o.keysL]);(have d0:=Hd c3;have K:=Hd (show Av 9 1 w wr (.slice ad q.length cp) q.length ((q.map (·.1)).map encStr)from H.row);have b1:=Hd a2;clear H a4 hp c3 a2 hl0 a0;go_wp2_with fail);(refine vC (sO K.o (by rw[b1.o];exact hl)) fun w3 a5=>?_;rw[d0.o]at a5;rw[b1.o]at a5 ⊢;have d1:=Hd a5;clear a5 K b1;go_wp2_with fail);go_ret;refine⟨_,rfl,?_⟩;unfold Cd;rw[pM];exact d1.o};(have d6:w.heap.size<=r:=by rw[HR.o];exact K1.o.size);(have d7:=c2.o.lt;have c4:=a4.keeps hk2 (fun e=>by have e:bm=r:=e;omega);have b2:x∈es:=(cG.1 hxl).1;have c5:x.2.2 ∉ q.map (·.2.2):=by have:=(cG.1 hxl).2;simpa [BN]using this);(have c7:=TH Al c4 b2 hr2 HM.o.born;have O:((q++[x]).map (·.2.2)).Nodup:=by rw[bW,dS];exact⟨H.nd,by simp,fun a ha b hb e=>by simp at hb;subst hb;subst e;exact c5 ha⟩);(have X:∀ y∈q++[x],y∈es:=fun y hy=>by rcases bR.1 hy with hy|hy;{exact H.sub y hy};simp at hy;exact hy ▸ b2);(have b4:q.length+1<=L.length:=by have:=iI (JZ _ O) (fun y hy=>X y hy);rw[a9]at this;simpa using this);(have A:Av 9 1 w w2 (.slice ad q.length cp) q.length (Yy q):=H.row.keeps hk2 (fun b hb e=>H.ne b hb e) kJ;have a3:Ae w2 r (.mapIter (some bm) ck (BN (q++[x])) ck):=by(have e:BN (q++[x])=(BN q).push x.2.2:=by unfold BN;simp);rw[e];exact hr2);(have Z:=Hd (bA O (bA X H.ne));have K:=Hd A;have d2:=Hd a3;have J:q.length+1<=maxLen:=by unfold maxLen;omega);have c8:(q.length+1)*16<=140737488355328:=vO;have d8:=hr2.lt;obtain⟨kx,a7⟩:=vE x.1;(have d3:=Hd a7;have b5:(Instr.entry (.pointer (some ⟨r,0,none⟩))).run prog w2=.ok (.tuple #[encStr kx,x.2.1]) w2:=by rw[a7];exact c7);(have b6:(Instr.next (.pointer (some ⟨r,0,none⟩)) false 0).run prog wr=.ok (.tuple #[.bool true,encStr kx,x.2.1]) w2:=by rw[a7];exact hnx);obtain⟨n,hn⟩:=vE q.length;(have HN:=Hd hn;rw[<-hn]at J c8 b4 A K Z ⊢;clear H a4 c4 hxl hr2 hk2 b2 c5 c7 O X A a3 a0 hnx a7 b3 hn;unfold encStr at b5 b6;go_wp2_with (at_builtin;refine Rc Cg (K.o.mono ((Aa w2).alloc _)) (.tmp 20) (.tmp 22) rfl rfl rfl (Jx (Ae.new w2 _)) (news:=[encStr kx]) (by intro u hu;simp at hu;rcases hu with rfl;rfl) rfl rfl J c8 ?_;intro v' w' r1 r2 r3));have HX:=Hd (bA r1 (bA r2 r3));obtain⟨d9,e0,rfl⟩:=r1.sl;(clear r1 r2 r3;go_wp2_with fail);go_roundw;(case rel =>obtain⟨r1,r2,r3⟩:=HX.o;have e1:=((Aa w2).alloc (.cells #[.string ⟨kx.toArray⟩] 9)).size;refine⟨q++[x],?_,?_,Z.o.2.1,Z.o.1,?_⟩;{(have e:Yy (q++[x])=Yy q++[encStr kx]:=by unfold Yy;simp[d3.o]);rw[e,bK, <-HN.o];exact r1};{refine (d2.o.alloc _).keeps r2 (fun e=>Z.o.2.2 r e rfl)};intro b hb e;rcases r3 with r3|r3;{exact Z.o.2.2 b (r3 ▸ hb) e};have:=r3 b hb;omega);case measure=>simp[ID];omega
end
section
open Go Go.RowKit
theorem jrI(w0:vW)(D:Nat->Prop)(b:Nat)(M:Cn)(a:Option Addr)(c rm sb cb:Nat)(es:List (Ce Int))(ck bm:Nat)(room:Int)(S:vT)(n:Nat)(h:Hz w0 D w b M a c rm sb cb es ck bm room S n)(hn:S.length<=100000):vQ 23 #[.pointer (some ⟨b,0,none⟩)] w fun e w'=>∃ v,e=.returned v/\Cd w w' v S.length (EV (Rl (S.map (·.1)))):=by
 have H:=Hd h;have O:=Hd hn;clear h hn;unfold vQ;go_in;go_wp2_with fail
 refine vH (CM w D b M a c rm sb cb es ck H.o.m) fun J q=>?_;have Z:J.cell? ⟨b,4,none⟩=some (.pointer (some ⟨sb,0,none⟩)):=(H.o.m.ext q).blk.cellL rfl;go_wp2_with fail
 refine (jtU J sb bm room S (H.o.s.st.ext q.o) (kL O.o)).mono ?_;rintro e w3 ⟨v,rfl,K⟩;have A:=Hd K;clear K;go_wp2_with fail
 go_ret
 exact⟨v,rfl,A.o.sl,A.o.own,q.o.trans A.o.ext,fun z X=>by have:=A.o.new z X;have:=q.o.size;omega⟩
theorem Sl:prog.underlying 64=some (.slice 3):=vY
theorem Sb:(prog.info? 3).map (fun i=>(i.zero,i.size,i.bytes))=some (some (.int .i64 0),1,8):=vY
theorem Sf:Me prog 64 3 1 8:=Me.mk' Sl Sb rfl vI
def QV(l:List Au):List vV:=l.map fun v=>.int .i64 (v.block:Int)
def xY(w:vW)(l:List Au)(lv iv:vV)(wr:vW):Prop:=∃ i:Nat,i<=l.length/\iv=.int .i64 i/\Av 3 1 w wr lv i (QV (l.take i))
theorem jpU(w0:vW)(D:Nat->Prop)(b:Nat)(M:Cn)(a:Option Addr)(c rm sb cb:Nat)(es:List (Ce Int))(ck bm:Nat)(room:Int)(S:vT)(n:Nat)(h:Hz w0 D w b M a c rm sb cb es ck bm room S n)(hl:M.all.length<=1000):vQ 22 #[.pointer (some ⟨b,0,none⟩)] w fun e w'=>∃ v,e=.returned v/\Av 3 1 w w' v M.all.length (QV M.all):=by
 have H:=Hd h
 obtain⟨A,q⟩:=vE M.all.length
 have K:=Hd q;have a0:A<=1000:=by rw[q];exact hl
 rw[<-q];clear h hl q;unfold vQ;go_in;go_wp2_with fail
 refine vC (CM w D b M a c rm sb cb es ck H.o.m) fun w2 J=>?_;have q2:w2.cell? ⟨b,2,none⟩=some (.slice a A c):=by rw[K.o];exact (H.o.m.ext J).blk.cellL rfl
 have X:=Hd J;clear J;go_wp2_with fail
 go_loopw [3,15] (fun lv Z wr=>xY w M.all lv Z wr) (fun _ Z _=>A-(intOf Z).toNat)
 case atStart=>exact⟨0,cE _,rfl,Av.nil _ _ X.o⟩
 case round =>obtain⟨i,hi,rfl,O⟩:=hrel;have HR:=Hd O;obtain⟨al,cl,rfl⟩:=O.sl;rw[<-K.o]at hi;have hE:=O.ext;clear O;by_cases hlt:i<A;{obtain⟨x,hx⟩:∃ x,M.all[i]?=some x:=⟨_,bB (by rw[<-K.o];exact hlt)⟩;obtain⟨b1,o1,a1,c1,a2,c2,rfl,p0,p1,p2,p3,_,_⟩:=(H.o.m.ver.ext hE).at' hx;have HX:=Hd hx;have a4:(i:Int)<(A:Int):=vO;(have a5:=hi;clear hx hE;go_wp2_with (at_builtin;go_loud (refine Rc Sf (news:=[.int .i64 (x.block:Int)]) (HR.o.mono (((Aa wr).alloc _).alloc _)) (.tmp 19) (.tmp 22) rfl rfl rfl (by have:=NV (wr.alloc (.cells #[.int .i64 (x.block:Int),.slice a1 x.ents.length c1,.slice a2 x.chgs.length c2,.int .i64 (x.pins:Int)] 91)) 3 [.int .i64 (x.block:Int)];rw[bG]at this;exact this) (by simp[Value.oneCell']) rfl rfl (by unfold maxLen;omega) vO ?_);intro v' w' r1 r2 r3));have R1:=Hd r1;obtain⟨a3,c3,rfl⟩:=r1.sl;(clear r1 r2 r3;go_wp2_with fail);go_roundw;{refine⟨i+1,by rw[<-K.o];exact hlt,by simp,?_⟩;have:=R1.o;unfold QV at this ⊢;rw[cA,HX.o,bW];exact this};show A-((i:Int)+1).toNat<A-(i:Int).toNat;omega};obtain rfl:i=A:=vO;(go_wp2_with fail);go_ret;refine⟨_,rfl,?_⟩;have:=HR.o;rw[K.o,cD]at this;rw[K.o];exact this
theorem pE(w0:vW)(D:Nat->Prop)(b:Nat)(M:Cn)(a:Option Addr)(c rm sb cb:Nat)(es:List (Ce Int))(ck bm:Nat)(room:Int)(S:vT)(n:Nat)(h:Hz w0 D w b M a c rm sb cb es ck bm room S n)(hl:M.all.length<=900)(at':Int):vQ 20 #[.pointer (some ⟨b,0,none⟩),.int .i64 at'] w fun e w'=>e=.returned (.tuple #[.int .i64 ((Ek M at').2.1:Int),.int .i64 (Ek M at').2.2])/\Ad (fun z=>z=b) w w'/\∃ D' H J,Hz w0 D' w' b (Ek M at').1 H J rm sb cb es ck bm room S n:=by
 refine (jxK w D b M a c rm sb cb es ck h.m h.ok hl h.db h.rb at').mono ?_;rintro e w' ⟨X,K,H,J,Z⟩
 obtain⟨l1,l2,l3,l4,l5⟩:=h.lt'
 have A:=h.sep b (.inl rfl)
 refine⟨X,K,_,H,J,Z,h.s.keeps K (fun e=>A.2.1 e.symm) (fun e=>A.1 e.symm) (fun x hx e=>A.2.2 (bC.2 ⟨x,hx,e⟩)) (fun z a0 fz e O=>?_),fun z q=>?_,h.rb,fun e=>?_,fun z q=>?_,uW h.ok at',h.st,h.kn,h.lt,h.val⟩
 ·have e:z=b:=e;subst e;have:=h.m.blk.uniq O;injection this with _ e _;exact absurd e vI
 ·rcases q with q|q|q|q;{exact h.sep z (.inl q)};{exact h.sep z (.inr (.inl q))};{exact h.sep z (.inr (.inr q))};have h1:=q.1;exact⟨by omega,by omega,fun e=>kL (l5 z e)⟩
 ·rcases e with e|e;{exact h.db e};have:=e.1;omega
 ·rcases q with q|q;{exact⟨(h.dr z q).1,bE (h.dr z q).2 K.size⟩};exact⟨kL q.1,q.2⟩
theorem juT(w0:vW)(D:Nat->Prop)(b:Nat)(M:Cn)(a:Option Addr)(c rm sb cb:Nat)(es:List (Ce Int))(ck bm:Nat)(room:Int)(S:vT)(n:Nat)(h:Hz w0 D w b M a c rm sb cb es ck bm room S n)(hn:n<=20000)(hl:M.all.length<=1000)(u:FrameMode)(bd bw bc bb:Nat)
  (hd:w.cell? ⟨bd,0,none⟩=some (.bool true)) (hc:w.cell? ⟨bc,0,none⟩=some (.pointer (some ⟨b,0,none⟩))) :
  CallsD prog 34 #[.pointer (some ⟨bd,0,none⟩),.pointer (some ⟨bw,0,none⟩),.pointer (some ⟨bc,0,none⟩),.pointer (some ⟨bb,0,none⟩)] u w fun e A w'=>A=u/\e=.returned (.tuple #[])/\∃ S',Hz w0 D w' b M a c rm sb cb (es.filter fun x=>Bx M.all x.1) ck bm room S' n/\Ad (CY rm bm S) w w'/\Tp M.all es S (es.filter fun x=>Bx M.all x.1) S'/\((∀ x∈es,Bx M.all x.1=true)->S'=S/\Af w w'):=by
 have H:=Hd (TT w w0 D b M a c rm sb cb es ck bm room S n h hn hl);clear h hn hl;go_enter_d func34,ntmps34;go_wp2_with fail
 refine H.o.mono ?_;rintro e K ⟨rfl,q⟩;have J:=Hd q;clear q hd hc;go_wp2_with fail
 refine bodyPost_end (results_none rfl _ _ _) rfl ?_
 exact⟨rfl,J.o⟩
theorem jxL(w0:vW)(D:Nat->Prop)(b:Nat)(M:Cn)(a:Option Addr)(c rm sb cb:Nat)(es:List (Ce Int))(ck bm:Nat)(room:Int)(S:vT)(n:Nat)(hn:n<=20000)(hl:M.all.length<=1000)(u:FrameMode)(bd bw bc bb:Nat)(x1 x2 x3:vV)(v0:vV)
  (hd:w.cell? ⟨bd,0,none⟩=some (.bool false)) (hc:w.cell? ⟨bc,0,none⟩=some (.pointer (some ⟨b,0,none⟩))) (hw:Ae w bw (.cells (LH M (.slice a M.all.length c)).toArray 70)) (hbb:Ae w bb (.cells #[v0] 3)) (hne:bb≠b/\bc≠b/\bc≠bb)
  (hB:Ae w b (.cells ([x1,x2,x3]++(Qw M a c rm sb cb).drop 3).toArray 78))
  (hfix:∀ W,Ad (fun z=>z=b\/z=bb) w W->Ae W b (.cells (Qw M a c rm sb cb).toArray 78)->Hz w0 D W b M a c rm sb cb es ck bm room S n) (q:∀ x∈es,Bx M.all x.1=true) :
  CallsD prog 34 #[.pointer (some ⟨bd,0,none⟩),.pointer (some ⟨bw,0,none⟩),.pointer (some ⟨bc,0,none⟩),.pointer (some ⟨bb,0,none⟩)] u w fun e u' w'=>u'=u/\e=.returned (.tuple #[])/\Hz w0 D w' b M a c rm sb cb es ck bm room S n/\Ad (fun z=>z=b\/z=bb) w w'/\Ae w' bb (.cells #[.int .i64 0] 3):=by
 have q0:w.cell? ⟨bw,0,none⟩=some (.int .i64 (M.win:Int)):=hw.cellL rfl;have q1:w.cell? ⟨bw,1,none⟩=some (.int .i64 (M.next:Int)):=hw.cellL rfl
 obtain⟨nl,A⟩:=vE M.all.length
 have q2:w.cell? ⟨bw,2,none⟩=some (.slice a nl c):=by rw[A];exact hw.cellL rfl
 have a4:=Hd A;have HB:=Hd (bA hB hbb);have HF:=Hd hfix;have HA:=Hd (bA hn (bA hl q));clear hw hB hfix q A hn hl hbb
 obtain⟨n1,n2,n3⟩:=hne
 go_enter_d func34,ntmps34;go_wp2_with (first
  |(refine SG (old:=[x1,x2,x3]++(Qw M a c rm sb cb).drop 3) (vs:=[.int .i64 (M.win:Int),.int .i64 (M.next:Int),.slice a nl c]) rfl rfl rfl rfl HB.o.1 (by show 3<=6;decide) Ao (by simp[Value.oneCell']) ?_;intro W2 a5 H
    have b2:=HB.o.2.keeps H n1;have p2:=b2.cell (i:=0) (v:=v0) rfl;have f2:W2.frozen? ⟨bb,0,none⟩=false:=b2.frozen;have c2:=Dw hc H n2)
  |(refine LW rfl bb 0 (.int .i64 0) rfl rfl rfl rfl vY p2 f2 ?_;intro J K
    have c3:J.cell? ⟨bc,0,none⟩=some (.pointer (some ⟨b,0,none⟩)):=by rw[K];exact Dw c2 (Ad.oneSet W2 ⟨bb,0,none⟩ (.int .i64 0)) n3
    have a0:=Hd K;clear K))
 have k3:Ad (fun z=>z=bb) W2 J:=by rw[a0.o];exact Ad.oneSet W2 ⟨bb,0,none⟩ (.int .i64 0)
 have O:Ad (fun z=>z=b\/z=bb) w J:=(H.mono fun z _ e=>.inl e).trans (k3.mono fun z _ e=>.inr e);have a1:Ae J b (.cells (Qw M a c rm sb cb).toArray 78):=by
  have:=a5.keeps k3 (fun e=>n1 e.symm)
  rw[a4.o]at this;exact this
 have a2:Ae J bb (.cells #[.int .i64 0] 3):=by
  have:=b2.set_same (i:=0) (.int .i64 0)
  rw[a0.o];exact this
 have hI:=HF.o J O a1;have a3:=TT J w0 D b M a c rm sb cb es ck bm room S n hI HA.o.1 HA.o.2.1;refine a3.mono ?_;rintro e w4 ⟨rfl,S',X,_,_,q⟩
 obtain⟨rfl,Z⟩:=q HA.o.2.2
 have hf:es.filter (fun x=>Bx M.all x.1)=es:=fJ.2 HA.o.2.2;rw[hf]at X;have HR:=Hd (bA X (bA (O.trans (Z.mono kZ)) (a2.keeps Z kI)));clear k3 O a1 a2 hI a3 X Z hf q;go_wp2_with fail
 refine bodyPost_end (results_none rfl _ _ _) rfl ?_
 exact⟨rfl,HR.o⟩
end
section
open Go Go.RowKit
attribute [local go_sem] Oper.semAt_some
end
section
open Go Go.RowKit
theorem Hz.back{a:Option Addr}{c:Nat}(h:Hz w0 D W b M a c rm sb cb es ck bm room S n)(k:Ad (fun z=>z=b) W W')(hB:Ae W' b (.cells (Qw M a c rm sb cb).toArray 78)):Hz w0 D W' b M a c rm sb cb es ck bm room S n:=by
 have q:=h.sep b (.inl rfl)
 refine⟨⟨hB,h.m.ver.keeps k (fun z A e=>h.db (by have e:z=b:=e;rw[<-e];exact A)),h.m.map.keeps k h.rb⟩,h.s.keeps k (fun e=>q.2.1 e.symm) (fun e=>q.1 e.symm) (fun x J e=>q.2.2 (bC.2 ⟨x,J,e⟩)) (fun z K O e H=>?_),h.sep,h.rb,h.db,fun z A=>⟨(h.dr z A).1,bE (h.dr z A).2 k.size⟩,h.ok,h.st,h.kn,h.lt,h.val⟩
 have e:z=b:=e;subst e
 have:=h.m.blk.uniq H
 injection this with _ e _;exact absurd e vI
theorem Lg:(callFunc 36 args).run prog w=.ok (.enter 36 args) w:=vY
theorem VO{a:Act}{w:vW}{T T2:TypeId}{x y:Operand}(ho:o.op=.store T x y)(hx:a.eval x=.pointer (some ⟨b,0,none⟩))(hy:a.eval y=.agg vs.toArray)
  (hB:Ae w b (.cells old.toArray T2)) (hl:vs.length<=old.length) (hi:(P.info? T).map (·.size)=some vs.length) (h1:∀ v∈vs,v.oneCell'=true)
  (h:∀ W,Ae W b (.cells (vs++old.drop vs.length).toArray T2)->Ad (fun z=>z=b) w W->K (a.put o.dst undef) W):o.wp P a w K Q:=by
 refine wp_store_mid T x y ho b 0 vs.toArray hx hy (by have:=TS hB (o:=0) (n:=vs.length) vO;simpa using this) (by simpa using hi) (all_oneCell_toArray h1) (h _ ?_ (Ad.oneSetCells b vs 0 w))
 have:=Ae.setCells vs 0 w old hB vO
 simpa using this
def QB(w0 w:vW)(s bm:Nat)(room:Int)(S:vT)(n:Nat)(N:Int->Prop)(R:vB->vT->Prop)(e:Ending)(w':vW):Prop:=
 (∃ k:Int,k≠0/\N k/\e=.returned (.tuple #[.string ⟨#[]⟩,.int .i64 k])/\Af w w')\/∃ t S',R t S'/\e=.returned (.tuple #[.string t,.int .i64 0])/\Kf w0 s bm room S' w' (n+1000)/\Ad (fun z=>z=bm\/z∈S.map (·.2.1)) w w'/\∀ x∈S',x.2.1∈S.map (·.2.1)\/w.heap.size<=x.2.1
theorem jxt(h:PW L):Zz (∃ t∈L,¬ ∃ n,Ht t n) L:=fun t e=>by
 by_cases hn:∃ n,Ht t n
 ·exact .inl hn
 ·exact .inr ⟨(h t e).resolve_left hn,t,e,hn⟩
end
