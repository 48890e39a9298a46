/- Lemmas. -/
import Derived.Test.YtgmmpefjadjajaaGreatDoorPa0
import Derived.Test.YtgmmpefjadjajaaGreatDoorPa23
namespace Go.Proofs.YtgmmpefjadjajaaGreatDoor
open Go.Proofs.Tryz
set_option linter.unusedSimpArgs false
set_option linter.unusedVariables false
set_option maxRecDepth 100000
set_option maxHeartbeats 16000000
variable (args:Array vV)(c:Nat)(w:vW)(window:Int){K:Act->vW->Prop}{ad ad2:Addr}{tmps:Array vV}{F:Bd}{e:Ending}{x:Ce Int}{Q:Exit->Act->vW->Prop}{fn:Func}{room bk:Int}{k:Eo}{es e1 es' sn:List (Ce Int)}{X:List VX}{l Y:List Au}{old vs xs:List vV}{M M':Dm}{win b s bm T B n i next sz by' g z p c' cap cb a sb ck f rm:Nat}{D E:Nat->Prop}{y:Gk}{o:Oper}{P:Program}{t root top r:vB}{m:vL}{L R U:vM}{S G S0 S' S1 S2:vT}{v:vV}{w0 w' W W' W'':vW}
section
open Go Go.RowKit
theorem SD{α:Type}{l:List α}{x:α}(h:l[i]?=some x):l.take (i+1)=l.take i++[x]/\l.drop i=x::l.drop (i+1):=by
 obtain⟨e,q⟩:=bI.1 h
 exact⟨by rw[cB,h];rfl,by rw[<-q];exact gY e⟩
theorem e9{x:Au}(h:l[i]?=some x)(hk:i+1=l.length\/Si win next x=true):l.take (i+1)++Iu win next (l.drop (i+1))=l.take i++Iu win next (l.drop i):=by
 obtain⟨q,A⟩:=SD h
 rw[q,A,bZ]
 congr 1
 by_cases hd:l.drop (i+1)=[]
 ·rw[hd];rfl
 ·rw[FW hd];have:Si win next x=true:=hk.resolve_left λe=>hd (by rw[e];exact gI);rw[if_pos this];rfl
theorem jp1{x:Au}(h:l[i]?=some x)(hY:Y=l.take (i+1)++Iu win next (l.drop (i+1)))(hi:i+1≠l.length)(hk:Si win next x=false):Y.take i++Y.drop (i+1)=l.take i++Iu win next (l.drop i):=by
 obtain⟨H,K⟩:=SD h
 have hl:=(bI.1 h).1;have O:l.drop (i+1)≠[]:=λe=>by have:=congrArg List.length e;rw[gW]at this;have:l.length-(i+1)=0:=this;omega
 have A:(l.take (i+1)).length=i+1:=by rw[cR];omega
 have q:(l.take i).length=i:=by rw[cR];omega
 have X:Y.drop (i+1)=Iu win next (l.drop (i+1)):=by rw[hY];exact List.drop_left' A
 have Z:Y.take i=l.take i:=by rw[hY,H,bZ];exact List.take_left' q
 rw[X,Z,K,FW O,if_neg (by rw[hk];simp)]
theorem m4{x:Au}(h:l[i]?=some x)(hY:Y=l.take (i+1)++Iu win next (l.drop (i+1))):Y[i]?=some x/\(i+1=Y.length↔i+1=l.length)/\i+1<=Y.length:=by
 obtain⟨H,O⟩:=SD h
 have X:=(bI.1 h).1;have q:(l.take (i+1)).length=i+1:=by rw[cR];omega
 have A:Y.length=i+1+(Iu win next (l.drop (i+1))).length:=by rw[hY,bK,q]
 refine⟨by rw[hY,H,bZ,cN (by rw[cR];omega),show i-(l.take i).length=0 by rw[cR];omega];rfl,⟨λe=>?_,λe=>?_⟩,by omega⟩
 ·by_cases hd:l.drop (i+1)=[];{have:=congrArg List.length hd;rw[gW]at this;have:l.length-(i+1)=0:=this;omega};have:=NY (win:=win) (next:=next) hd;have K:(Iu win next (l.drop (i+1))).length=0:=vO;exact absurd (bF K) this
 ·(have:Iu win next (l.drop (i+1))=[]:=by rw[e,gI];rfl);rw[A,this];rfl
theorem eQ{t T:TypeId}(I:Mn P t T sz by'){w:vW}{a:Act}{m c:Nat}{olds news:List vV}(s x:Operand)(hs:a.eval s=.slice (some ad) n n)(hx:a.eval x=.slice (some ad2) m c)
  (h1:∀ j u,olds[j]?=some u->w.cell? (ad.add j)=some u) (h2:∀ j u,news[j]?=some u->w.cell? (ad2.add j)=some u) (hlo:olds.length=n*sz) (hl:news.length=m*sz) (hm:0<m)
  (ho:o.op=Op.call { callee:=Callee.builtin Builtin.append,args:=#[s,x],argTypes:=#[t,t] }) (h63:n+m<=1000000) (hby:by'<=1000)
  (h:∀ A w',w'.ownsRow w T sz A (n+m) (olds++news)->Af w w'->K (a.put o.dst A) w'):o.wp P a w K Q:=by
 obtain⟨i,z,X,Z,e3,e4,e5⟩:=I.hi
 have H:n+m<=maxLen:=by unfold maxLen;omega
 have O:(n+m)*by'<=140737488355328:=bH (Nat.mul_le_mul h63 hby) vI
 obtain⟨A,w',q,r1,r2⟩:=run_append_arg_grows (P:=P) w t o.type T i z sz by' I.ht X Z e3 e4 e5 I.hsz ad n n olds hlo h1 ad2 m c news hl h2 vO H O
 unfold Oper.wp;simp[execOp,ho,resolve,invoke,builtin,hs,hx,q,Result.andThen];exact h A w' r1 (Ad.y3 r2 λr e _=>by cases e)
def Uc(D:Nat->Prop)(w:vW)(b o c:Nat)(X:List VX):Prop:=X.length<=c/\b<(w:Nat)/\D b/\∀ j u,(Hw X)[j]?=some u->w.cell? ⟨b,o+j,none⟩=some u
theorem Uc.Z{w:vW}{b o c:Nat}(h:Uc D w b o c X)(k:Ad F w w')(hF:∀ b,D b->¬ F b)(hE:∀ b,D b->E b):Uc E w' b o c X:=
 ⟨h.1,bE h.2.1 k.size,hE b h.2.2.1,λj u e=>Ed (h.2.2.2 j u e) k (hF b h.2.2.1)⟩
theorem zP{w:vW}(h:Dh D w v l)(hl:l≠[]):∃ X b o c,v=.slice (some ⟨b,o,none⟩) l.length c/\X.map VX.v=l/\DA D w X/\Uc D w b o c X:=by
 obtain⟨X,A,H,K⟩:=h.g
 rcases h with⟨_,_,_,e⟩|⟨b,o,c,e1,e2,e3,e4,_⟩
 ·exact absurd e hl
 ·rcases K.at' with⟨_,_,_,e⟩|⟨b',o',c',k1,k2⟩;{exact absurd (bF e) hl};rw[e1]at k1;obtain⟨q,_,O⟩:=dF k1;have q:=bV q;injection q with q1 q2 _;subst q1 q2;exact⟨X,b,o,c,e1,A,H,by rw[show X.length=l.length by rw[<-A,bT]];exact e4,e3,e2,k2⟩
theorem PP{w:vW}{o c:Nat}(h:Uc D w b o c X)(hH:DA D w X):Dh D w (.slice (some ⟨b,o,none⟩) X.length c) (X.map VX.v):=by
 refine .inr ⟨b,o,c,by rw[bT],h.2.2.1,h.2.1,by rw[bT];exact h.1,λj x q=>?_⟩;rw[bY,dH]at q
 obtain⟨y,A,rfl⟩:=q
 obtain⟨H,K⟩:=hH y (bD A)
 have e:∀ i u,i<4->y.cells[i]?=some u->w.cell? ⟨b,o+j*4+i,none⟩=some u:=λi u O Z=>by rw[show o+j*4+i=o+(j*4+i) by omega];exact h.2.2.2 _ u (by rw[KC X j y A i O];exact Z)
 exact⟨e 0 _ vI rfl,⟨_,e 1 _ vI rfl,H⟩,⟨_,e 2 _ vI rfl,K⟩,e 3 _ vI rfl⟩
def DD(w:vW)(D:Nat->Prop)(wr:vW):Nat->Prop:=λb=>D b\/((w:Nat)+2<=b/\b<(wr:Nat))
theorem DD.mono{w wr ws:vW}(h:(wr:Nat)<=↑ws):∀ b,DD w D wr b->DD w D ws b:=λb hb=>hb.imp id λ⟨e,q⟩=>⟨e,by omega⟩
def uA(w:vW)(D:Nat->Prop)(M:Dm)(iv:vV)(wr:vW):Prop:=∃ (k:Nat) (X:List VX) (b o c:Nat),k<=M.all.length/\iv=.int .i64 ((k:Int)-1)/\X.map VX.v=M.all.take k++Iu M.win M.next (M.all.drop k) /\
 Ae wr w (.cells #[(M.win:Int),(M.next:Int),.slice (some ⟨b,o,none⟩) X.length c] 72)/\Ae wr ((w:Nat)+1) (.cells #[qa,qa,qe] 72) /\
 Af w wr/\(w:Nat)+2<=↑wr/\Uc (DD w D wr) wr b o c X/\DA (DD w D wr) wr X
theorem mF(D:Nat->Prop)(hD:∀ b,D b->b<(w:Nat))(M:Dm)(av:vV)(hv:Dh D w av M.all)(hne:M.all≠[])(hw:M.win<=8)(hnx:M.next<=2000000)(hl:M.all.length<=1000)(hbp:∀ x∈M.all,x.block<=2000000/\x.pins<=2000000) :
  vQ 89 #[Il M av] w λe w'=>∃ av',e=.returned (Il ⟨M.win,M.next,Iu M.win M.next M.all⟩ av')/\Af w w'/\Dh (DD w D w') w' av' (Iu M.win M.next M.all):=by
 obtain⟨X0,b0,o0,c0,rfl,a9,b1,b2⟩:=zP hv hne
 obtain⟨n,b5⟩:=vE M.all.length
 rw[<-b5];have HN:=J b5;have HD:=J hD;have H0:=J (kT a9 b1 b2);have HB:=J hbp;have HW:=J (kT hw hnx hl);have d9:=Qh (x:=(n:Int)-1) vO vO;unfold Il;clear hv a9 b1 b2 b5 hD hbp hne hw hnx hl;unfold vQ;go_in;go_wp2
 go_loopw [3] (λiv wr=>uA w D M iv wr) (λiv _=>(intOf iv+1).toNat)
 case atStart =>obtain⟨a9,b1,b2⟩:=H0.o;(have hE:=((Aa w).alloc (.cells #[(M.win:Int),(M.next:Int),.slice (some ⟨b0,o0,none⟩) n c0] 72)).alloc (.cells #[qa,qa,qe] 72);have O:X0.length=n:=by rw[HN.o, <-a9,bT]);refine⟨n,X0,b0,o0,c0,Nat.le_of_eq HN.o,rfl,?_,?_,by have:=Ae.new (w.alloc (.cells #[(M.win:Int),(M.next:Int),.slice (some ⟨b0,o0,none⟩) n c0] 72)) (.cells #[qa,qa,qe] 72);rwa [show (w.alloc (.cells #[(M.win:Int),(M.next:Int),.slice (some ⟨b0,o0,none⟩) n c0] 72)).heap.size=(w:Nat)+1 from gN _]at this,hE,Nat.le_of_eq (by show _=(Array.push _ _).size;rw[gN];show _=(Array.push _ _).size+1;rw[gN]),b2.Z hE (λ_ _ e=>e) λ_ h=>.inl h,?_⟩;{rw[a9,HN.o,cF,gI];simp[Iu]};{rw[O];exact (Ae.new w _).alloc _};exact λx hx=>⟨((b1 x hx).1.Z hE λ_ _ e=>e).mono λ_ h=>.inl h,((b1 x hx).2.Z hE λ_ _ e=>e).mono λ_ h=>.inl h⟩
 case round =>obtain⟨k,X,b,o,c,hk,rfl,hX,A,a2,hE,a5,hL,hH⟩:=hrel;have a7:=J (kQ hX hL hH hE A a2 a5);have m0:=A.cell (i:=0) rfl;have m1:=A.cell (i:=1) rfl;have m2:=A.cell (i:=2) rfl;cases k with| zero =>(have e0:((0:Nat):Int)-1 = -1:=by decide);(rw[e0];clear hX hL hH hE A a2 a5 hk;have d4:=J a7.o.i;go_wp2_with (refine Bt (vs:=[(M.win:Int),(M.next:Int),.slice (some ⟨b,o,none⟩) X.length c]) rfl rfl rfl rfl d4.o rfl Aq zc ?_;intro W8 d5 b6));refine bodyPost_ret (Zq rfl rfl (Vl W8 ((w:Nat)+1) 0 [(M.win:Int),(M.next:Int),.slice (some ⟨b,o,none⟩) X.length c] rfl λj v hv=>by rw[bX];exact d5.z1 hv)) rfl ?_;obtain⟨hX,hL,hH,hE,_,_,a5⟩:=a7.o;(have d6:X.map VX.v=Iu M.win M.next M.all:=by rw[hX];rfl);have hF:∀ b,DD w D wr b->¬ b=(w:Nat)+1:=λb hb e=>hb.elim (λh=>by have:=HD.o b h;omega) (λh=>by omega);have hs:=b6.size;refine⟨.slice (some ⟨b,o,none⟩) X.length c,rfl,hE.O b6 λx hx e=>by have e:x=(w:Nat)+1:=e;omega,?_⟩;have hv:=(PP hL hH).Z b6 hF;rw[d6]at hv;exact hv.mono (DD.mono hs)| succ i =>have e0:((i+1:Nat):Int)-1=(i:Int):=vO;rw[e0];obtain⟨x,hx⟩:∃ x,M.all[i]?=some x:=⟨_,bB vO⟩;obtain⟨hy,a3,b7⟩:=m4 hx hX;(have O:(X.map VX.v).length=X.length:=bT _;have a1:X.length<=1000:=by have h1:=congrArg List.length hX;rw[O,bK,cR, ]at h1;have h2:=(BG (win:=M.win) (next:=M.next) (l:=M.all.drop (i+1))).length_le;rw[gW]at h2;have:=HW.o.C;have:=HN.o;omega);(have b8:=J (sZ wr (DD w D wr) ⟨M.win,M.next,X.map VX.v⟩ (some ⟨b,o,none⟩) c (by have:=PP hL hH;rw[O];exact this) i x hy (by rw[O];omega) HW.o.1 HW.o.b (HB.o x (bD hx)).1 (HB.o x (bD hx)).2);have b8:Hid (vR 130 #[.agg #[(M.win:Int),(M.next:Int),.slice (some ⟨b,o,none⟩) X.length c],(i:Int)] wr (decide (i+1=X.length) || Si M.win M.next x:)):=J (by have:=b8.o;rw[O]at this;exact this);have q:=J (kY hx hy a3 b7 O a1);clear A a2 hX hL hH hE hx hy a3 b7 O a1;go_wp2_with fail);refine b8.o.mono ?_;rintro e w2 ⟨rfl,c3⟩;have H:=J c3;clear m0 m1 m2 c3;by_cases hkp:i+1=X.length\/Si M.win M.next x=true;{(have e1:(decide (i+1=X.length) || Si M.win M.next x)=true:=by rcases hkp with h|h;{rw[decide_eq_true h];rfl};rw[h,Bool.or_true]);(rw[e1];have a8:=J hkp;clear e1 hkp;go_wp2_with fail);(have ew:Go.RowKit.wrap64 ((i:Int)-1)=(i:Int)-1:=by have:=q.o.D;unfold Go.RowKit.wrap64;omega);rw[ew];go_roundw;{obtain⟨hX,hL,hH,hE,A,a2,a5⟩:=a7.o;have hs:=H.o.size;refine⟨i,X,b,o,c,by omega,rfl,?_,A.Z H.o λh=>h,a2.Z H.o λh=>h,hE.trans H.o,by omega,hL.Z H.o (λ_ _ e=>e) (DD.mono hs),λy hy=>⟨((hH y hy).1.Z H.o λ_ _ e=>e).mono (DD.mono hs),((hH y hy).2.Z H.o λ_ _ e=>e).mono (DD.mono hs)⟩⟩;rw[hX];exact e9 q.o.1 (a8.o.imp (λe=>q.o.2.2.1.1 (by rw[q.o.e];exact e)) id)};show ((i:Int)-1+1).toNat<((i:Int)+1).toNat;omega};(have e1:(decide (i+1=X.length) || Si M.win M.next x)=false:=by rw[decide_eq_false λh=>hkp (.inl h),dK.2 λh=>hkp (.inr h)];rfl);(rw[e1];have a8:=J hkp;clear e1 hkp;go_wp2_with fail);obtain⟨hX,hL,hH,hE,A,a2,a5⟩:=a7.o;(have A:=A.Z H.o (λh=>h);have M2:=J (A.cell (i:=2) (v:=.slice (some ⟨b,o,none⟩) X.length c) rfl);have s1:(i:Int)<=(c:Int):=by have:=hL.1;have:=q.o.D;omega);(have s2:(i:Int)+1<=(X.length:Int):=by have:=q.o.D;omega);(have s3:(X.length:Int)<=(c:Int):=by have:=hL.1;omega);have s4:=Qh (x:=(i:Int)+1) vO (by have:=q.o.D;omega);clear hX hL hH hE A a2 a5;refine BF [0,1,2,3,4,5,6,7,8,9,10,11] 12 [10] Af Af Aa Ap Ap (λx y h=>h) vY vY vY ?_;refine vZ ?_;(refine Vi ⟨↑w,2,none⟩ _ rfl (λw1 h1=>De zf (Am M2.o (((Aa w2).drew).trans h1))) ?_;refine vS ?_;iterate 3 refine vZ ?_);refine vZ ?_;(refine Vi ⟨↑w,2,none⟩ _ rfl (λw1 h1=>De zf (Am M2.o (((Aa w2).drew).trans h1))) ?_;refine vS ?_;iterate 3 refine vZ ?_);(refine Zs _ rfl vY rfl (λwb hb K hK=>?_);have kb:Af w2 wb:=(Ao _).trans hb;have b3:=a7.o.2.1.Z (H.o.trans kb) (λ_ _ e=>e) (DD.mono (H.o.trans kb).size);have c4:¬ c=i+1:=by rcases q.o.D with⟨h1,h2,h3⟩;have:=b3.1;intro e;exact a8.o (.inl vO));(have c5:(X.take i).length=i:=by rw[cR];have:=q.o.D;omega);have c7:(X.drop (i+1)).length=X.length-(i+1):=gW;refine eQ Oi (olds:=Hw (X.take i)) (news:=Hw (X.drop (i+1))) (ad:=⟨b,o,none⟩) (ad2:=⟨b,o+(i+1)*4,none⟩) (n:=i) (m:=X.length-(i+1)) (c:=c-(i+1)) _ _ rfl (by show Value.slice (if c=i+1 then _ else _) _ _=_;rw[if_neg c4]) (λj u hu=>?_) (λj u hu=>?_) (by rw[Zv,c5]) (by rw[Zv,c7]) (by have:=q.o.D;have:¬ i+1=X.length:=λe=>a8.o (.inl e);omega) rfl (by have:=q.o.D;omega) vI (λv' w' r1 r2=>?_);{rw[Go.WideShapes.add_plain];refine b3.2.2.2 j u ?_;rw[<-cX i X,FV];rw[cJ (bI.1 hu).1];exact hu};{rw[Go.WideShapes.add_plain,show o+(i+1)*4+j=o+((i+1)*4+j) by omega];refine b3.2.2.2 _ u ?_;rw[<-cX (i+1) X,FV,cN (by rw[Zv,cR];have:=q.o.D;omega)];rw[show (i+1)*4+j-(Hw (X.take (i+1))).length=j by rw[Zv,cR];have:=q.o.D;omega];exact hu};refine hK _ _ r2 ?_;have HS:=J (kT kb r1 r2);clear hK K hb kb r1 r2 b3 c4 c5 c7;refine vS ?_;refine vZ ?_;refine BJ _ rfl vY rfl (λwc hc K hK=>?_);obtain⟨kb,r1,r2⟩:=HS.o;have kc:=(H.o.trans (kb.trans (r2.trans hc)));have b9:=(a7.o.e).Z kc (λh=>h);have q7:=b9.cell (i:=2) (v:=.slice (some ⟨b,o,none⟩) X.length c) rfl;have f7:wc.frozen? ⟨↑w,2,none⟩=false:=b9.frozen;have d7:=J (bA kc hc);have d8:=q.o.D;(obtain⟨g,Z,c8,a4,c1,b4⟩:∃ g Z,v'=.slice (some ⟨g,0,none⟩) (i+(X.length-(i+1))) Z/\i+(X.length-(i+1))<=Z/\(wb:Nat)<=g/\g<(w':Nat):=by obtain⟨e6,⟨_,h0⟩|⟨g,Z,e7,e,hg,e2,h5,_⟩⟩:=r1;{have:¬ i+1=X.length:=λe=>a8.o (.inl e);omega};exact⟨g,Z,e,h5,hg,(dD.1 e2).1⟩);have HG:=J (kT a4 c1 b4);obtain⟨nl,c2⟩:=vE (i+(X.length-(i+1)));(rw[<-c2]at c8;have c9:=J c2;have e3:=J r1;subst c8;clear kb r1 r2 kc b9 d8 a4 c1 b4 c2 hc;go_simp;refine hK _ _ ?_;clear hK K q7 f7;go_wp2_with fail);(have ew:Go.RowKit.wrap64 ((i:Int)-1)=(i:Int)-1:=by have:=q.o.D;unfold Go.RowKit.wrap64;omega);rw[ew];go_roundw;{obtain⟨hX,hL,hH,hE,A,a2,a5⟩:=a7.o;obtain⟨hx,hy,a3,b7,O,_⟩:=q.o;obtain⟨kc,hc⟩:=d7.o;obtain⟨kb,_,r2⟩:=HS.o;obtain⟨a4,c1,b4⟩:=HG.o;(have a0:=Ad.z4 wc ⟨↑w,2,none⟩ (.slice (some ⟨g,0,none⟩) nl Z);have e8:(w:Nat)+2<=↑wb:=by have:=(H.o.trans kb).size;omega);have e4:g≠(w:Nat):=vO;(have d0:(wr:Nat)<=(wc.setCell ⟨↑w,2,none⟩ (.slice (some ⟨g,0,none⟩) nl Z)).heap.size:=bH kc.size a0.size;have d1:g<(wc.setCell ⟨↑w,2,none⟩ (.slice (some ⟨g,0,none⟩) nl Z)).heap.size:=bE b4 (bH hc.size a0.size);have d2:(X.take i++X.drop (i+1)).length=nl:=by rw[c9.o,bK,cR,gW];omega);have d3:∀ z,DD w D wr z->¬ z=(w:Nat):=λz hz e=>hz.elim (λh=>by have:=HD.o z h;omega) (λh=>by omega);refine⟨i,X.take i++X.drop (i+1),g,0,Z,by omega,rfl,?_,?_,?_,?_,by omega,⟨?_,d1,.inr ⟨by omega,d1⟩,λj u hu=>?_⟩,λy hy=>?_⟩;{rw[bW,jO,List.map_drop];exact jp1 hx hX (λe=>a8.o (.inl (by rw[<-O];exact a3.2 e))) (dK.2 λh=>a8.o (.inr h))};{rw[d2];exact (A.Z kc λh=>h).z2 (i:=2) (.slice (some ⟨g,0,none⟩) nl Z)};{exact (a2.Z kc λh=>h).z6 (p:=⟨↑w,2,none⟩) (by show (w:Nat)+1≠↑w;omega) _};{exact (hE.trans kc).O a0 (λx hx e=>by have e:x=(w:Nat):=e;omega)};{rw[d2,c9.o];exact a4};{have:=World.ownsRow.cells e3.o rfl j u (by rw[<-FV];exact hu);rw[Go.WideShapes.add_plain]at this;exact Ed (Am this hc) a0 e4};(have e5:y∈X:=by rcases bR.1 hy with h|h;{exact gE h};exact List.mem_of_mem_drop h);obtain⟨k1,k2⟩:=hH y e5;exact⟨((k1.Z kc λ_ _ e=>e).Z a0 d3).mono (DD.mono d0),((k2.Z kc λ_ _ e=>e).Z a0 d3).mono (DD.mono d0)⟩};show ((i:Int)-1+1).toNat<((i:Int)+1).toNat;omega
theorem M9:((Js window).win:Int)=min (max window 1) 8:=by
 show ((min (max window 1) 8).toNat:Int)=_;omega
theorem wM:vQ 24 #[.int .i64 window] w λe w'=>∃ av,e=.returned (Il (Js window) av)/\Af w w'/\Dh (Fs w w') w' av (Js window).all:=by
 have HW:=J (M9 window)
 obtain⟨R,hR⟩:=vE (Js window)
 have HR:=J hR;rw[<-hR];unfold vQ;go_in;go_wp2_with (first|(refine Di Cy rfl rfl ?_;intro A H K)|(refine Bt (vs:=[.int .i64 (min (max window 1) 8),.int .i64 1,.slice (some A) 1 1]) rfl rfl rfl rfl (H.alloc _) rfl Aq zc ?_;intro W8 X O))
 refine bodyPost_ret (Zq rfl rfl (Vl W8 w 0 [.int .i64 (min (max window 1) 8),.int .i64 1,.slice (some A) 1 1] rfl λj v hv=>by rw[bX];exact X.z1 hv)) rfl ?_;have hn:=Ae.new A (.cells #[qa,qe,qe,qa] 91);have h1:=H.lt;have q:=hn.Z O vO;have hE:Af w W8:=(K.alloc _).O O kJ
 refine⟨.slice (some A) 1 1,?_,hE,?_⟩
 ·unfold Il;rw[HR.o,HW.o];rfl
 ·rw[HR.o];refine .inr ⟨↑A,0,1,rfl,⟨kL K.size,q.lt⟩,q.lt,bO _,λj x Z=>?_⟩;(have:j=0:=by have:=(bI.1 Z).1;have:j<1:=this;omega);subst this;have e:(⟨0,[],[],0⟩:Au)=x:=bV Z;subst e;exact⟨q.cell (i:=0) rfl,⟨qe,q.cell (i:=1) rfl,.inl ⟨none,0,rfl,rfl⟩,λb e=>by cases e⟩,⟨qe,q.cell (i:=2) rfl,.inl ⟨none,0,rfl,rfl⟩,λb e=>by cases e⟩,q.cell (i:=3) rfl⟩
theorem Nd:(Instr.alloc 170 true (.tuple #[])).run prog w=.ok w (w.alloc (.cells [Value.int .i64 0,.slice none 0 0,.slice none 0 0,.int .i64 0,.slice none 0 0].toArray 170)):=vY
theorem Rj:(prog.info? 170).map (·.size)=some 5:=vY
structure MB(w:World)(T:Nat)(W:World)(g:Nat)(X:List VX):Prop where
 lo:(w:Nat)+2<=g
 gt:g<T
 tw:T<=(W:Nat)
 blk:Ae W g (.cells (Hw X).toArray 91)
 hold:DA (λb=>(w:Nat)+2<=b/\b<T/\b≠g) W X
 ext:Af w W
theorem MB.Z{w:vW}(h:MB w T W g X)(k:Ad F W W')(hF:∀ b,(w:Nat)+2<=b->b<T->¬ F b)(hF':∀ b,b<(w:Nat)->¬ F b):MB w T W' g X:=
 ⟨h.lo,h.gt,bH h.tw k.size,h.blk.Z k (hF g h.lo h.gt),λx q=>⟨(h.hold x q).1.Z k λb hb=>hF b hb.1 hb.2.1,(h.hold x q).2.Z k λb hb=>hF b hb.1 hb.2.1⟩,h.ext.O k λx q e=>hF' x q e⟩
theorem MB.more{w:vW}(h:MB w T W g X)(k:Af W W'):MB w T W' g X:=h.Z k (λ_ _ _ e=>e) λ_ _ e=>e
theorem MB.side{w:vW}(h:MB w T W g X)(k:Ad F W W')(hF:∀ b,F b->b=(w:Nat)\/b=(w:Nat)+1\/T<=b):MB w T W' g X:=
 h.Z k (λb q A e=>by rcases hF b e with h|h|h<;>omega) λb q e=>by have:=h.lo;have:=h.gt;rcases hF b e with h|h|h<;>omega
theorem MB.vrow{w:vW}(h:MB w T W g X):Dh (λb=>(w:Nat)+2<=b/\b<T) W (.slice (some g) X.length X.length) (X.map VX.v):=by
 refine PP ⟨bO _,h.blk.lt,⟨h.lo,h.gt⟩,λj u q=>by rw[bX];exact h.blk.z1 q⟩ λx e=>⟨(h.hold x e).1.mono λb hb=>⟨hb.1,hb.2.1⟩,(h.hold x e).2.mono λb hb=>⟨hb.1,hb.2.1⟩⟩
theorem MB.news{w:vW}(h:MB w T W g X)(hn:X.length=n)(hl:X.map VX.v=l):Dh (Fs w W) W (.slice (some g) n n) l:=by
 subst hn hl;exact h.vrow.mono λb hb=>⟨by omega,bE hb.2 h.tw⟩
theorem MB.start{w w1 w2 W3:vW}(h:JK w1 w2 g X)(hE:Af w w1)(hs:(w:Nat)+1 < ↑w1)(k:Ad (λz=>z=(w:Nat)) w2 W3):MB w ↑w2 W3 g X:=by
 have K:=h.new;have q:∀ b,(w1:Nat)<=b->¬ b=(w:Nat):=λb hb e=>by omega
 refine⟨by omega,h.blk.lt,k.size,h.blk.Z k (q g K),λx A=>?_,(hE.trans h.ext).O k kJ⟩
 obtain⟨O,Z⟩:=h.hold x A
 have H:∀ b,Fs w1 w2 b/\b≠g->(w:Nat)+2<=b/\b<(w2:Nat)/\b≠g:=λb hb=>⟨kL hb.1.1,hb.1.2,hb.2⟩
 exact⟨(O.Z k λb hb=>q b hb.1.1).mono H,(Z.Z k λb hb=>q b hb.1.1).mono H⟩
theorem Zp{t u y:Tmp}{ty:TypeId}(h:fn.results=#[.cell t ty,.tmp u,.tmp y]){a:Addr}(ha:tmps.getD t undef=.pointer (some a)){w:vW}{x z:vV}(hx:tmps.getD u undef=x)(hz:tmps.getD y undef=z)(hl:(loadVar ty a).run P w=.ok v w):(results fn tmps).run P w=.ok (.tuple #[v,x,z]) w:=by
 have e:tmps[t]?.getD undef=.pointer (some a):=by simpa using ha
 have q:tmps[u]?.getD undef=x:=by simpa using hx
 have A:tmps[y]?.getD undef=z:=by simpa using hz
 simp[results,h,e,q,A,asAddr,bS,Result.andThen,hl]
theorem EH{t u:Tmp}{ty:TypeId}(h:fn.results=#[.cell t ty,.tmp u]){a:Addr}(ha:tmps.getD t undef=.pointer (some a)){w:vW}{x:vV}(hx:tmps.getD u undef=x)(hl:(loadVar ty a).run P w=.ok v w):(results fn tmps).run P w=.ok (.tuple #[v,x]) w:=by
 have e:tmps[t]?.getD undef=.pointer (some a):=by simpa using ha
 have q:tmps[u]?.getD undef=x:=by simpa using hx
 simp[results,h,e,q,asAddr,bS,Result.andThen,hl]
theorem Fh.newV{lv:Au}(h:M.all[M.all.length-1]?=some lv):Nu M=lv:=by
 unfold Nu;rw[gX,h];rfl
theorem Mi:(callFunc 89 args).run prog w=.ok (.enter 89 args) w:=vY
def MC(M:Dm)(av:vV):List vV:=[(M.win:Int),(M.next:Int),av]
theorem x5(D:Nat->Prop)(M:Dm)(av:vV)(hv:Dh D w av M.all)(hM:Fh M)(hl:M.all.length<=900)(u:vV)(cs:List Br)(hu:Jj w u cs)(hnc:cs.length<=1000)(n9:∀ c∈cs,c.key.size<=1000/\c.value.size<=1000):vQ 45 #[Il M av,u] w λe w'=>∃ j7,e=.returned (.tuple #[Il (Hn M cs).1 j7,((Hn M cs).2.1:Int),.int .i64 (Hn M cs).2.2])/\Af w w'/\Dh (Fs w w') w' j7 (Hn M cs).1.all:=by
 obtain⟨a0,c0,rfl⟩:=hv.sl
 have HV:=J (kY hv hM hl hu hnc n9)
 obtain⟨R,hR⟩:=vE (Hn M cs)
 have HR:=J hR;rw[<-hR];unfold Il
 obtain⟨n,k9⟩:=vE M.all.length
 rw[<-k9];have HN:=J k9;have s5:n≠0:=by rw[k9];exact λe=>hM.ne (bF e)
 have w5:n<=900:=by rw[k9];exact hl
 clear hv hR hM hl hu hnc n9 k9;unfold vQ;go_in;go_wp2_with fail
 have i1:=((Aa w).alloc (.cells #[(M.win:Int),(M.next:Int),.slice a0 n c0] 72)).alloc (.cells #[qa,qa,qe] 72);have l0:=(Ae.new w (.cells #[(M.win:Int),(M.next:Int),.slice a0 n c0] 72)).alloc (.cells #[qa,qa,qe] 72);have d1:Ae ((w.alloc (.cells #[(M.win:Int),(M.next:Int),.slice a0 n c0] 72)).alloc (.cells #[qa,qa,qe] 72)) ((w:Nat)+1) (.cells #[qa,qa,qe] 72):=by
  have:=Ae.new (w.alloc (.cells #[(M.win:Int),(M.next:Int),.slice a0 n c0] 72)) (.cells #[qa,qa,qe] 72)
  rwa [show (w.alloc (.cells #[(M.win:Int),(M.next:Int),.slice a0 n c0] 72)).heap.size=(w:Nat)+1 from gN _]at this
 have j8:=d1.lt;generalize (w.alloc (.cells #[(M.win:Int),(M.next:Int),.slice a0 n c0] 72)).alloc (.cells #[qa,qa,qe] 72)=w1 at i1 l0 d1 j8 ⊢;have h1:=WL w1 D M a0 c0 (HV.o.1.ext i1) (by rw[<-HN.o];exact s5) (kL HV.o.c) (λx hx=>⟨kL ((Ge (HV.o.2.1.ver x hx).map).len),kL ((HV.o.2.1.ver x hx).chgs)⟩);rw[<-HN.o]at h1;refine h1.mono ?_;rintro e w2 ⟨g,X,rfl,hX,hO⟩;have l0:=l0.Z hO.ext kI;have d1:=d1.Z hO.ext kI;have s6:=J l0;have HO:=J (kX hX hO i1 j8 d1);clear h1 hX hO i1 j8 l0 d1;go_wp2_with (refine Bt (vs:=[(M.win:Int),(M.next:Int),.slice (some g) n n]) rfl rfl rfl rfl s6.o rfl Aq zc ?_;intro W3 l1 o0;have q0:W3.cell? w=some (.int .i64 (M.win:Int)):=l1.z1 rfl;have q1:W3.cell? ⟨↑w,1,none⟩=some (.int .i64 (M.next:Int)):=l1.z1 rfl;have q2:W3.cell? ⟨↑w,2,none⟩=some (.slice (some g) n n):=l1.z1 rfl)
 obtain⟨hX,hO,i1,j8,d1⟩:=HO.o
 have Z:X.length=n:=by rw[HN.o, <-hX,bT]
 have H:=MB.start hO i1 j8 o0;have d1:=d1.Z o0 (λe=>by have e:(w:Nat)+1=↑w:=e;omega);have i2:=H.vrow;rw[hX,Z]at i2;have o1:=VS W3 _ M (some ⟨g,0,none⟩) n (by rw[<-HN.o];exact i2) HV.o.b (kL HV.o.c);rw[<-HN.o]at o1;refine o1.mono ?_;rintro e q ⟨rfl,l2⟩;have i2:=i2.ext l2
 obtain⟨lv,i3,n5⟩:=HV.o.2.1.lastAt
 rw[HN.o]at i2
 obtain⟨b',o',a1,c1,a2,c2,e0,_,p1,_,_,r1,_⟩:=i2.at' i3
 cases e0;have l3:=l1.Z l2 kI;have HB:=J (kR hX (H.more l2) l3 (d1.Z l2 kI) Z i3 n5 r1)
 obtain⟨k,hk⟩:∃ k,n=k+1:=⟨n-1,by omega⟩
 have d9:IntKind.i64.wrap ((n:Int)-1)=(k:Int):=by rw[Qh vO vO];omega
 have d7:(k:Int)<(n:Int):=vO
 have d8:(n:Int)-1=(k:Int):=vO
 have s7:q.cell? ⟨g,k*4+1,none⟩=some (.slice a1 lv.ents.length c1):=by
  rw[bX, <-HN.o,show n-1=k by omega]at p1;exact p1
 have s8:q.cell? w=some (.int .i64 (M.win:Int)):=l3.z1 rfl;have s9:q.cell? ⟨↑w,1,none⟩=some (.int .i64 (M.next:Int)):=l3.z1 rfl;have t0:q.cell? ⟨↑w,2,none⟩=some (.slice (some g) n n):=l3.z1 rfl;clear hX hO i1 j8 d1 Z H i2 o1 l2 i3 n5 p1 r1 l3 hk q0 q1 q2 l1 o0;go_wp2_with (first|(refine Di Nd rfl rfl ?_;intro W5 q9 r0)|(refine Bt (vs:=[qa,qe,qe,qa,.slice a1 lv.ents.length c1]) rfl rfl rfl rfl q9 rfl Rj zc ?_;intro W6 o2 r2;have z4:W6.cell? ⟨↑q,4,none⟩=some (.slice a1 lv.ents.length c1):=o2.z1 rfl))
 obtain⟨hX,H,l4,l5,Z,i3,n5,r1⟩:=HB.o
 have m3:lv∈M.all:=bD i3;have a8:=HV.o.2.1.ver lv m3;have f7:=H.gt;have f8:=H.tw;have i4:=H.lo;have kd:Ad (λz=>z=(q:Nat)) q W6:=(r0.mono kZ).trans r2;have j1:=H.side kd λb e=>.inr (.inr (by have e:b=(q:Nat):=e;omega));have m4:=l4.Z kd vO;have m5:=l5.Z kd vO;have j9:=r1.1.Z kd (λb hb e=>by have h2:=r1.2 b hb;have e:b=(q:Nat):=e;omega);have k0:∀ b,(Value.slice a1 lv.ents.length c1).ownBlock=some b->b<(q:Nat):=λb hb=>by have h2:=r1.2 b hb;omega
 have r3:=HV.o.2.2.2.1.Z j1.ext (λ_ _ e=>e);have b6:=(Ge a8.map).len;have c5:=Fh.newV i3;have H6:=J (bA j1 (bA m4 (kN m5 o2 hX Z c5 f7 f8 i4 j9 a8 b6 k0)));have r4:=WF W6 _ u lv.ents cs j9 r3 vO (kL HV.o.e) (λp hp=>kL ((Ge a8.map).size p hp)) (λc hc=>kL (HV.o.I c hc));clear hX H l4 l5 Z i3 n5 r1 m3 a8 f7 f8 i4 kd j1 m4 m5 j9 r3 b6 c5 k0 z4 o2 r2 q9 r0 s7 s8 s9 t0 d7 d8 d9;refine r4.mono ?_;rintro e W7 h7;unfold Xa at h7;clear r4
 by_cases ha:Ez lv.ents cs=0
 ·rw[if_pos ha]at h7
  obtain⟨r,rfl,hr⟩:=h7
  have HA:=J (bA ha hr)
  obtain⟨m,hm⟩:=vE (Jc (Pf lv.ents cs)).length
  obtain⟨ra,rc,rfl⟩:=hr.sl
  have o3:=J hm;rw[<-hm];have b5:Af W6 W7:=hr.ext;have q1:W7.cell? ⟨↑w,1,none⟩=some (.int .i64 (M.next:Int)):=(H6.o.2.1.Z b5 kI).z1 rfl;have n6:=J (H6.o.2.2.1.Z b5 kI);have i5:=J (H6.o.2.1.Z b5 kI);have k3:=J b5;clear ha hr hm b5
  by_cases hx:M.next=1048576
  ·have e1:((M.next:Int) == 1048576)=true:=by rw[hx];rfl
   have o4:=J hx;clear hx;have q0:W7.cell? w=some (.int .i64 (M.win:Int)):=i5.o.z1 rfl;have q2:W7.cell? ⟨↑w,2,none⟩=some (.slice (some g) n n):=i5.o.z1 rfl;go_wp2_with (refine Bt (vs:=[(M.win:Int),(M.next:Int),.slice (some g) n n]) rfl rfl rfl rfl n6.o rfl Aq zc ?_;intro W8 g7 o5)
   refine bodyPost_ret (Zp rfl rfl rfl rfl (Vl W8 ((w:Nat)+1) 0 [(M.win:Int),(M.next:Int),.slice (some g) n n] rfl λj v hv=>by rw[bX];exact g7.z1 hv)) rfl ?_
   obtain⟨H,_,_,_,hX,Z,c5,_⟩:=H6.o
   have b0:=(H.more k3.o).side o5 λb e=>.inr (.inl e);have l6:R=(M,0,12):=by rw[HR.o];unfold Hn;rw[c5,if_neg (by rw[HA.o.1];simp),if_pos o4.o]
   rw[l6]
   exact⟨_,rfl,b0.ext,b0.news Z hX⟩
  ·have e1:((M.next:Int) == 1048576)=false:=by simp;omega
   have o4:=J hx;clear hx;have z1:W7.cell? q=some (.int .i64 0):=(H6.o.2.2.2.1.Z k3.o kI).z1 rfl;have f1:W7.frozen? q=false:=(H6.o.2.2.2.1.Z k3.o kI).frozen;go_wp2_with fail
   obtain⟨H,_,_,o6,hX,Z,c5,f7,f8,i4,j9,a8,b6,k0⟩:=H6.o
   obtain⟨ha,hr⟩:=HA.o
   have b5:=k3.o;have t1:(q:Nat) < ↑W6:=o6.lt;have l7:=Zo ha;have m6:=(Ge l7).len;have k8:=Ad.z4 W7 q (M.next:Int);have g7:=(o6.Z b5 kI).z2 (i:=0) (M.next:Int);have o7:=hr.rd.Z k8 (λb hb e=>by have h1:=hr.new b hb;have e:b=(q:Nat):=e;omega);have b0:=(H.more b5).side k8 λb e=>.inr (.inr (by have e:b=(q:Nat):=e;omega));have j2:=i5.o.Z k8 (λe=>by have e:(w:Nat)=↑q:=e;omega);have j3:=n6.o.Z k8 (λe=>by have e:(w:Nat)+1=↑q:=e;omega);have o8:=(j9.ext b5).Z k8 (λb hb e=>by
    have e:b=(q:Nat):=e
    have:=k0 b hb
    omega)
   have r5:=k8.size;generalize W7.setCell q (M.next:Int)=W8 at g7 o7 b0 j2 j3 o8 r5 ⊢;have r6:(q:Nat)≠g:=vO
   have p5:∀ b,(Value.slice a1 lv.ents.length c1).ownBlock=some b->¬ b=(q:Nat):=λb hb e=>kL (k0 b hb)
   have o9:=jV W8 _ _ o7 vO;rw[<-o3.o]at o9;have HH:=J (kN hX Z c5 ha l7 m6 a8 b6 p5 f7 f8 i4);have r7:(w:Nat)+2<=↑q:=vO
   clear H o6 hX Z c5 f7 f8 i4 j9 a8 b6 k0 b5 ha hr t1 l7 m6 k8 f1 q1 z1 e1 r5;refine o9.mono ?_;rintro e W9 ⟨v9,rfl,i6,k4⟩;have d6:=b0.more k4;have n7:=g7.Z k4 kI;have e2:=j2.Z k4 kI;have e4:=j3.Z k4 kI;have l8:=o8.ext k4;have w6:=g7.lt;clear o9 b0 j2 j3 o8 o7 g7 k4
   obtain⟨a9,c9,rfl⟩:=i6.1.sl
   rw[<-o3.o]at i6;rw[<-o3.o];have z1:W9.cell? ⟨↑q,1,none⟩=some (.slice none 0 0):=n7.cell (i:=1) rfl;have f1:W9.frozen? ⟨↑q,1,none⟩=false:=n7.frozen;have b7:=i6.1.Z (Ad.z4 W9 ⟨↑q,1,none⟩ (.slice a9 m c9)) (λb hb e=>by have h1:=(i6.2 b hb).1;have e:b=(q:Nat):=e;omega);have a5:=n7.z2 (i:=1) (.slice a9 m c9);have t2:=a5.cell (i:=1) (v:=.slice a9 m c9) rfl;have t3:=a5.cell (i:=4) (v:=.slice a1 lv.ents.length c1) rfl;have H9:=J (kY d6 e2 e4 l8 b7 a5);have p0:Hid (∀ b,(Value.slice a9 m c9).ownBlock=some b->(q:Nat)<b/\b<(W9:Nat)):=(λb hb=>⟨kL ((i6.2 b hb).1),(i6.2 b hb).2⟩);clear d6 e2 e4 l8 b7 a5 i6 n7;go_wp2_with fail
   have m7:=(Ge HH.o.2.2.2.2.2.2.1.map).size;have m8:=HH.o.2.2.2.2.2.2.2.1;have g8:=HH.o.i;have m9:=(Ge HH.o.e).size;have k5:=Ad.z4 W9 ⟨↑q,1,none⟩ (.slice a9 m c9)
   obtain⟨d6,e2,e4,l8,b7,a5⟩:=H9.o
   have r8:=a5.lt;have f7:=HH.o.2.2.2.2.2.2.2.2.2.1;have f8:=HH.o.2.2.2.2.2.2.2.2.2.2.1;have e8:=d6.side k5 λb e=>.inr (.inr (by have e:b=(q:Nat):=e;omega));have e9:=e2.Z k5 (λe=>by have e:(w:Nat)=↑q:=e;omega);have f0:=e4.Z k5 (λe=>by have e:(w:Nat)+1=↑q:=e;omega);have j4:=l8.Z k5 (HH.o.2.2.2.2.2.2.2.2.1);have n0:=k5.size;generalize W9.setCell ⟨↑q,1,none⟩ (.slice a9 m c9)=W10 at a5 b7 e8 e9 f0 j4 n0 r8 ⊢;have r9:=sQ W10 _ _ lv.ents (Jc (Pf lv.ents cs)) j4 b7 vO vO (λp hp=>kL (m7 p hp)) (λp hp=>kL (m9 p hp));have l9:=aU m8 g8;refine r9.mono ?_;rintro e k6 ⟨w7,rfl,b8⟩
   obtain⟨d2,d3,rfl⟩:=b8.sl
   have b9:=b8.ext;have f9:=a5.Z b9 kI;have g9:=e9.Z b9 kI;have h3:=f0.Z b9 kI;have h4:=e8.more b9;have f6:=b7.ext b9;have b3:=b8.new;have p6:=a5.lt
   obtain⟨m2,m0⟩:=vE (Ph lv.ents (Jc (Pf lv.ents cs))).length
   rw[<-m0]at b8 l9 b3 ⊢;have z2:k6.cell? ⟨↑q,2,none⟩=some (.slice none 0 0):=f9.cell (i:=2) rfl;have f2:k6.frozen? ⟨↑q,2,none⟩=false:=f9.frozen;have d0:=f9.z2 (i:=2) (.slice d2 m2 d3);have i7:=Ad.z4 k6 ⟨↑q,2,none⟩ (.slice d2 m2 d3);have h6:=h4.side i7 λb e=>.inr (.inr (by have e:b=(q:Nat):=e;omega));have h8:=g9.Z i7 (λe=>by have e:(w:Nat)=↑q:=e;omega);have h9:=h3.Z i7 (λe=>by have e:(w:Nat)+1=↑q:=e;omega);have e5:=f6.Z i7 (λb hb e=>by have:=(p0.o b hb).1;have e:b=(q:Nat):=e;omega);have e6:=b8.rdT.Z i7 (λb hb e=>by have:=b3 b hb;have e:b=(q:Nat):=e;omega);have a3:∀ b,(Value.slice a9 m c9).ownBlock=some b->(w:Nat)+2<=b/\b<(k6:Nat):=λb hb=>⟨kL ((p0.o b hb).1),by have:=(p0.o b hb).2;have:=b9.size;have:=H9.o.2.2.2.2.2.lt;omega⟩;have a4:∀ b,(Value.slice d2 m2 d3).ownBlock=some b->(w:Nat)+2<=b/\b<(k6:Nat):=λb hb=>⟨kL (b3 b hb),b8.lt b hb⟩;have e7:=i7.size;clear m7 m8 g8 m9 k5 d6 e2 e4 l8 r8 e8 e9 f0 j4 n0 r9 a5 b7 b9 f9 g9 h3 h4 f6 b3 p6 b8 i7 f7 f8 z1 t2 t3 f1;have i8:=J (kM h6 h8 h9 e5 e6 d0 a3 a4 e7 m0 l9);clear h6 h8 h9 e5 e6 d0 a3 a4 e7 m0 l9;have Z:=HH.o.b;have s0:(Hw X).length=n*4:=by rw[Zv,Z]
   have t4:=J s0;have t5:∃ d,d=(q:Nat):=⟨_,rfl⟩;have HT:=J (bA r7 r6);clear s0 Z t5;go_wp2_with (first
    |(refine MP rfl ↑q 2 (.slice d2 m2 d3) rfl rfl rfl rfl vY z2 f2 ?_;intro d4 c3
      have y0:d4.cell? q=some (.int .i64 (M.next:Int)):=by rw[c3];exact i8.o.2.2.2.2.2.1.cell (i:=0) rfl
      have y1:d4.cell? ⟨↑q,1,none⟩=some (.slice a9 m c9):=by rw[c3];exact i8.o.2.2.2.2.2.1.cell (i:=1) rfl
      have y2:d4.cell? ⟨↑q,2,none⟩=some (.slice d2 m2 d3):=by rw[c3];exact i8.o.2.2.2.2.2.1.cell (i:=2) rfl
      have y3:d4.cell? ⟨↑q,3,none⟩=some (.int .i64 0):=by rw[c3];exact i8.o.2.2.2.2.2.1.cell (i:=3) rfl
      have b2:d4.cell? ⟨↑w,2,none⟩=some (.slice (some g) n n):=by rw[c3];exact i8.o.2.1.cell (i:=2) rfl
      have i9:=i8;rw[<-c3]at i9;clear c3 i8)
    |(at_builtin
      refine wpList_plain rfl λKK s1=>eQ Oi (olds:=Hw X) (news:=[(M.next:Int),.slice a9 m c9,.slice d2 m2 d3,qa]) (ad:=g) (ad2:=d4) (n:=n) (m:=1) (c:=1) _ _ rfl rfl (λj u hu=>by rw[Go.WideShapes.add_plain,bX];exact (i9.o.1.blk.alloc _).z1 hu) (OO d4 _ [(M.next:Int),.slice a9 m c9,.slice d2 m2 d3,qa]) t4.o rfl vI rfl vO vI (λt6 c7 j0 n1=>s1 _ _ ?_);clear KK s1;have A:=(((Aa d4).alloc (.cells [.int .i64 (M.next:Int),.slice a9 m c9,.slice d2 m2 d3,.int .i64 0].toArray 91)).trans n1);have b2:c7.cell? ⟨↑w,2,none⟩=some (.slice (some g) n n):=(i9.o.2.1.Z A kI).cell (i:=2) rfl;have b1:c7.cell? ⟨↑w,1,none⟩=some (.int .i64 (M.next:Int)):=(i9.o.2.1.Z A kI).cell (i:=1) rfl;have fb:c7.frozen? ⟨↑w,2,none⟩=false:=(i9.o.2.1.Z A kI).frozen;have t7:c7.frozen? ⟨↑w,1,none⟩=false:=(i9.o.2.1.Z A kI).frozen;have t8:=J (bA j0 A)
      obtain⟨c8,O,p7⟩:∃ c8 O,t6=.slice (some ⟨c8,0,none⟩) (n+1) O:=by
       obtain⟨_,⟨_,h0⟩|⟨g',s2,t9,e,_⟩⟩:=j0
       ·omega
       ·exact⟨g',s2,e⟩
      subst p7;clear j0 n1 A))
   obtain⟨j0,A⟩:=t8.o
   obtain⟨H,l4,l5,e5,e6,d0,a3,a4,e7,m0,l9⟩:=i9.o
   have w8:=HV.o.2.1.next;rw[show Go.RowKit.wrap64 ((M.next:Int)+1)=(M.next:Int)+1 by unfold Go.RowKit.wrap64;omega];have i0:=(l4.Z A kI).z2 (i:=2) (.slice (some ⟨c8,0,none⟩) (n+1) O);have f3:=i0.z2 (i:=1) (.int .i64 ((M.next:Int)+1));have d5:=(Ad.z4 c7 ⟨↑w,2,none⟩ (.slice (some ⟨c8,0,none⟩) (n+1) O)).trans (Ad.z4 (c7.setCell ⟨↑w,2,none⟩ (.slice (some ⟨c8,0,none⟩) (n+1) O)) ⟨↑w,1,none⟩ (.int .i64 ((M.next:Int)+1)));generalize (c7.setCell ⟨↑w,2,none⟩ (.slice (some ⟨c8,0,none⟩) (n+1) O)).setCell ⟨↑w,1,none⟩ (.int .i64 ((M.next:Int)+1))=W16 at f3 d5 ⊢;have d5:Ad (λz=>z=(w:Nat)) c7 W16:=d5
   obtain⟨n2,v0,p2⟩:n+1<=O/\(d4:Nat)<=c8/\c8<(c7:Nat):=by
    have h0:=((Aa d4).alloc (.cells [.int .i64 (M.next:Int),.slice a9 m c9,.slice d2 m2 d3,.int .i64 0].toArray 91)).size
    obtain⟨_,⟨_,h0⟩|⟨g',s2,t9,e,hg,v1,h5,_⟩⟩:=j0
    ·omega
    ·obtain⟨e1,_,e3⟩:=dF e
     have e1:=congrArg Addr.block (bV e1);have e1:c8=g':=e1;subst e1 e3
     exact⟨h5,bH h0 hg,(dD.1 v1).1⟩
   have i4:=H.lo;have f7:=H.gt;have f8:=H.tw
   obtain⟨r7,r6⟩:=HT.o
   have p8:=d0.lt;have p9:=A.size;have f4:=(l5.Z A kI).Z d5 vO;have n3:=(d0.Z A kI).Z d5 vO;have f5:=(H.more A).side d5 λb e=>.inl e;have g0:=d5.size
   obtain⟨hX,Z,c5,ha,l7,_,a8,b6,_⟩:=HH.o
   have v2:∃ nx:VX,nx=⟨⟨M.next,Jc (Pf lv.ents cs),Ph lv.ents (Jc (Pf lv.ents cs)),0⟩,.slice a9 m c9,.slice d2 m2 d3⟩:=⟨_,rfl⟩
   obtain⟨nx,g2⟩:=v2
   have s3:Hw X++[.int .i64 (M.next:Int),.slice a9 m c9,.slice d2 m2 d3,.int .i64 0]=Hw (X++[nx]):=by
    rw[FV,g2];rfl
   have n8:(X++[nx]).length=n+1:=by rw[bK,Z];rfl
   have v3:∀ b,((w:Nat)+2<=b/\b<(c7:Nat))->¬ b=(w:Nat):=λb hb e=>by omega
   have hL:Uc (λb=>(w:Nat)+2<=b/\b<(c7:Nat)) W16 c8 0 O (X++[nx]):=by
    refine⟨by rw[n8];exact n2,bE p2 g0,⟨by omega,p2⟩,λj u hu=>?_⟩
    have:=World.ownsRow.cells j0 rfl j u (by rw[s3];exact hu)
    rw[Go.WideShapes.add_plain]at this;exact Ed this d5 (by show ¬ c8=(w:Nat);omega)
   have j6:(k6:Nat)<=↑d4:=e7;have hH:DA (λb=>(w:Nat)+2<=b/\b<(c7:Nat)) W16 (X++[nx]):=λx hx=>by
    rcases bR.1 hx with hx|hx
    ·obtain⟨k1,k2⟩:=f5.hold x hx
     exact⟨k1.mono λb hb=>⟨hb.1,kL hb.2.1⟩,k2.mono λb hb=>⟨hb.1,kL hb.2.1⟩⟩
    ·rw[bG.1 hx,g2]
     exact⟨⟨(e5.ext A).Z d5 λb hb e=>by have:=(a3 b hb).1;have e:b=(w:Nat):=e;omega,λb hb=>⟨(a3 b hb).1,kL ((a3 b hb).2)⟩⟩,
      ⟨(e6.ext A).Z d5 λb hb e=>by have:=(a4 b hb).1;have e:b=(w:Nat):=e;omega,λb hb=>⟨(a4 b hb).1,kL ((a4 b hb).2)⟩⟩⟩
   have g3:=PP hL hH;rw[n8]at g3
   obtain⟨a7,g4⟩:=vE ((X++[nx]).map VX.v)
   have b4:a7=M.all++[⟨M.next,Jc (Pf lv.ents cs),Ph lv.ents (Jc (Pf lv.ents cs)),0⟩]:=by rw[g4,bW,hX,g2];rfl
   rw[<-g4]at g3;have p3:a7.length=n+1:=by rw[g4,bT];exact n8
   have q3:=HV.o.2.1.win;have s4:∀ wb,Af W16 wb->vQ 89 #[.agg #[(M.win:Int),.int .i64 ((M.next:Int)+1),.slice (some ⟨c8,0,none⟩) (n+1) O]] wb λe w'=>∃ j7,e=.returned (.agg #[(M.win:Int),.int .i64 ((M.next:Int)+1),j7])/\Af wb w'/\Dh (DD wb (λb=>(w:Nat)+2<=b/\b<(c7:Nat)) w') w' j7 (Iu M.win (M.next+1) a7):=λwb kb =>
    mF wb (λb=>(w:Nat)+2<=b/\b<(c7:Nat)) (λb hb=>by have:=hb.2;have:=kb.size;omega) ⟨M.win,M.next+1,a7⟩ _ (g3.ext kb) (λe=>by have e:a7=[]:=e;rw[e]at p3;cases p3) (by show M.win<=8;omega) (by show M.next+1<=2000000;omega) (by show a7.length<=1000;omega) (λx hx=>by
     have hx:x∈a7:=hx;rw[b4]at hx;rcases bR.1 hx with hx|hx
     ·have h1:=HV.o.2.1.less x hx
      have h2:=(HV.o.2.1.ver x hx).pins
      exact⟨by omega,by omega⟩
     ·rw[bG.1 hx]
      exact⟨by show M.next<=_;omega,cD _⟩)
   have q4:=J s4;have j5:=J (kT f3 f4 n3);have q5:=J (kX f5.ext g0 b4 c5 ha);have n4:(w:Nat)+1 < ↑W16:=f4.lt;have v4:=J n4;clear H l4 l5 e5 e6 d0 a3 a4 e7 m0 l9 i0 f3 d5 n2 v0 p2 i4 f7 f8 p8 p9 f4 n3 f5 g0 hX Z c5 ha l7 a8 b6 g2 s3 n8 v3 hL j6 hH g3 g4 b4 p3 q3 s4 j0 A b2 b1 fb t7 n4;refine Na [0,2,3,4,1,5,6,7] [1,5] Af (Ad λz=>z=(w:Nat)+1) Aa Ap (λx y z h k=>Ad.trans h k) (λx y h=>h.mono kZ) vY vY vY ?_;refine Fa w _ rfl (λw1 h1=>JR w1 w 0 [(M.win:Int),.int .i64 ((M.next:Int)+1),.slice (some ⟨c8,0,none⟩) (n+1) O] rfl λj v hv=>by rw[bX];exact ((j5.o.1.drew).Z h1 vO).z1 hv) ?_;refine vS ?_;iterate 2 refine vD ?_
   refine Fa q (M.next:Int) rfl (λw1 h1=>De zf (((j5.o.2.2.drew).Z h1 vO).cell (i:=0) rfl)) (vS ?_);refine Hh _ rfl (λwb hb K hK=>?_);have kb:Af W16 wb:=(Ao _).trans hb;refine Ou (Fb Mi vY) ((q4.o wb kb).mono ?_);rintro e w2 ⟨j7,rfl,k7,m1⟩
   refine⟨_,rfl,hK _ _ (k7.mono kZ) ?_⟩
   obtain⟨a2,c2,q6⟩:=m1.sl
   subst q6;have HS:=J (kT kb k7 m1);clear hK K hb kb k7 m1;refine vS ?_;refine Hh _ rfl (λwc hc K hK=>?_);have kc:Af W16 wc:=HS.o.1.trans (HS.o.2.1.trans hc);refine Yw (vs:=[(M.win:Int),.int .i64 ((M.next:Int)+1),.slice a2 (Iu M.win (M.next+1) a7).length c2]) rfl rfl rfl (j5.o.2.1.Z kc kI) rfl Aq zc (λw9 g5 c4=>hK _ _ c4 ?_);have q7:=J (kT hc g5 c4);clear hK K hc kc g5 c4;refine vS ?_;iterate 2 refine vD ?_
   refine Mt (λv5 g6=>?_);go_wp2_with fail
   obtain⟨hc,g5,c4⟩:=q7.o
   obtain⟨kb,k7,m1⟩:=HS.o
   obtain⟨v6,g0,b4,c5,ha⟩:=q5.o
   have x0:=v4.o;have q8:=g5.Z g6 kI;refine bodyPost_ret (Zp rfl rfl rfl rfl (Vl v5 ((w:Nat)+1) 0 [(M.win:Int),.int .i64 ((M.next:Int)+1),.slice a2 (Iu M.win (M.next+1) a7).length c2] rfl λj v hv=>by rw[bX];exact q8.z1 hv)) rfl ?_;have l6:R=(⟨M.win,M.next+1,Iu M.win (M.next+1) a7⟩,M.next,0):=by
    rw[HR.o,b4];unfold Hn;rw[c5,if_neg (by rw[ha];simp),if_neg o4.o]
   rw[l6];have x1:=kb.size;have x2:=k7.size;have n9:=hc.size;have w3:=c4.size;have w4:=g6.size;have v7:Af w wc:=v6.trans (kb.trans (k7.trans hc))
   refine⟨_,rfl,(v7.O c4 kJ).trans g6,?_⟩
   refine (((m1.ext hc).Z c4 λb hb e=>?_).ext g6).mono λb hb=>?_
   ·have e:b=(w:Nat)+1:=e
    rcases hb with⟨h,_⟩|⟨h,_⟩<;>omega
   ·rcases hb with⟨h1,h2⟩|⟨h1,h2⟩
    ·exact⟨by omega,by omega⟩
    ·exact⟨by omega,by omega⟩
 ·rw[if_neg ha]at h7
  obtain⟨rfl,b5⟩:=h7
  have HA:=J ha
  obtain⟨er,p4⟩:=vE (Ez lv.ents cs)
  have v8:=J p4;rw[<-p4]at ha ⊢;have e1:(er != 0)=true:=by simpa using ha
  have n6:=J (H6.o.2.2.1.Z b5 kI);have i5:=J (H6.o.2.1.Z b5 kI);have k3:=J b5;have q0:W7.cell? w=some (.int .i64 (M.win:Int)):=i5.o.z1 rfl;have q1:W7.cell? ⟨↑w,1,none⟩=some (.int .i64 (M.next:Int)):=i5.o.z1 rfl;have q2:W7.cell? ⟨↑w,2,none⟩=some (.slice (some g) n n):=i5.o.z1 rfl;clear ha p4 b5;go_wp2_with (refine Bt (vs:=[(M.win:Int),(M.next:Int),.slice (some g) n n]) rfl rfl rfl rfl n6.o rfl Aq zc ?_;intro W8 g7 o5)
  refine bodyPost_ret (Zp rfl rfl rfl rfl (Vl W8 ((w:Nat)+1) 0 [(M.win:Int),(M.next:Int),.slice (some g) n n] rfl λj v hv=>by rw[bX];exact g7.z1 hv)) rfl ?_
  obtain⟨H,_,_,_,hX,Z,c5,_⟩:=H6.o
  have b0:=(H.more k3.o).side o5 λb e=>.inr (.inl e);have l6:R=(M,0,er):=by rw[HR.o];unfold Hn;rw[c5,if_pos HA.o,v8.o]
  rw[l6]
  exact⟨_,rfl,b0.ext,b0.news Z hX⟩
end
section
open Go Go.RowKit
attribute [local go_sem] Oper.semAt_some
def Qa:Option Nat->Int|some i=>i|none => -1
def Wl(f:FuncId):Prop:=∀ (w:vW) (vb:Nat) (a1:Option Addr) (n1 c1:Nat) (a2:Option Addr) (n2 c2:Nat) (p:Int) (g:Nat) (bk:Int),w.cell? g=some (.int .i64 bk)->vR f #[.agg #[(vb:Int),.slice a1 n1 c1,.slice a2 n2 c2,.int .i64 p],g] w (decide ((vb:Int)=bk))
theorem mR{x:Au}(hall:∀ v∈l.take i,(v.block:Int)≠bk)(hi:l[i]?=some x)(hx:(x.block:Int)=bk):Jp l bk=some i:=by
 unfold Jp;rw[gC]
 obtain⟨e,q⟩:=bI.1 hi
 refine⟨e,by rw[q];exact decide_eq_true hx,λj A=>?_⟩
 have:=hall l[j] (List.mem_take_iff_getElem.2 ⟨j,by omega,rfl⟩)
 simpa using this
theorem mS(hall:∀ v∈l,(v.block:Int)≠bk):Jp l bk=none:=by
 unfold Jp;rw[List.findIdx?_eq_none_iff];exact λv e=>by simpa using hall v e
theorem lD{x:Au}(hall:∀ v∈l.take i,(v.block:Int)≠bk)(hi:l[i]?=some x)(hx:¬(x.block:Int)=bk):∀ v∈l.take (i+1),(v.block:Int)≠bk:=λv e=>by
 rw[cB,hi]at e;rcases bR.1 e with e|e
 ·exact hall v e
 ·have e:v∈[x]:=e
  rw[bG.1 e];exact hx
theorem wR:Wl 77:=by
 intro w e q A H K O X p g bk Z;have a0:=Am Z ((Aa w).alloc (.cells #[(e:Int),.slice q A H,.slice K O X,.int .i64 p] 91));have E:=J (show ((e:Int) == bk)=decide ((e:Int)=bk)from by by_cases h:(e:Int)=bk<;>simp[h])
 go_enter func77,ntmps77;go_wp2
 go_ret
 exact⟨by rw[<-E.o];rfl,(Aa w).alloc _⟩
theorem m3:Wl 91:=by
 intro w e q A H K O X p g bk Z;have a0:=Am Z ((Aa w).alloc (.cells #[(e:Int),.slice q A H,.slice K O X,.int .i64 p] 91));have E:=J (show ((e:Int) == bk)=decide ((e:Int)=bk)from by by_cases h:(e:Int)=bk<;>simp[h])
 go_enter func91,ntmps91;go_wp2
 go_ret
 exact⟨by rw[<-E.o];rfl,(Aa w).alloc _⟩
theorem uO:Wl 132:=by
 intro w e q A H K O X p g bk Z;have a0:=Am Z ((Aa w).alloc (.cells #[(e:Int),.slice q A H,.slice K O X,.int .i64 p] 91));have E:=J (show ((e:Int) == bk)=decide ((e:Int)=bk)from by by_cases h:(e:Int)=bk<;>simp[h])
 go_enter func132,ntmps132;go_wp2
 go_ret
 exact⟨by rw[<-E.o];rfl,(Aa w).alloc _⟩
def tN(w:vW)(l:List Au)(bk:Int)(v:vV)(wr:vW):Prop:=∃ i:Nat,i<=l.length/\v=.int .i64 i/\Af w wr/\∀ x∈l.take i,(x.block:Int)≠bk
theorem nC(f:FuncId)(hf:Wl f)(hent:∀ args w,(callFunc f args).run prog w=.ok (.enter f args) w)(w:vW)(D:Nat->Prop)(a:Option Addr)(c:Nat)(l:List Au)(hv:Dh D w (.slice a l.length c) l)(hl:l.length<=100000)(g:Nat)(bk:Int)(hk:w.cell? g=some (.int .i64 bk)):vR 76 #[.slice a l.length c,.func (.func f) #[] #[g]] w (.int .i64 (Qa (Jp l bk))):=by
 have HV:=J hv;have HK:=J hk;have HF:=J hf;unfold vR vQ;go_in;go_wp2
 go_loopw [8] (λi wr=>tN w l bk i wr) (λi _=>l.length-(intOf i).toNat)
 case atStart=>exact⟨0,by omega,rfl,Aa w,λp hp=>by simp at hp⟩
 case round =>obtain⟨i,hi,rfl,O,q⟩:=hrel;have K:=J O;have e:=J q;by_cases hlt:i<l.length;{obtain⟨x,X⟩:∃ x,l[i]?=some x:=⟨_,bB hlt⟩;obtain⟨b,o,a1,c1,a2,c2,rfl,q0,q1,q2,q3,_,_⟩:=(HV.o.ext K.o).at' X;have Z:=J X;have b1:(i:Int)<(l.length:Int):=vO;(go_wp2_with fail);refine vC (HF.o wr x.block a1 _ c1 a2 _ c2 _ g bk (Am HK.o K.o)) λw3 O=>?_;have A:=J (K.o.trans O);by_cases hq:(x.block:Int)=bk;{have H:=J (mR e.o Z.o hq);(rw[decide_eq_true hq];go_wp2);go_ret;exact⟨by rw[H.o];rfl,A.o⟩};have H:=J (lD e.o Z.o hq);(rw[decide_eq_false hq];go_wp2);go_roundw;(case rel=>exact⟨i+1,by omega,by go_num,A.o,H.o⟩);case measure=>exact vJ};obtain rfl:i=l.length:=vO;(have H:=J (mS (bk:=bk) (by have:=e.o;rwa [cF]at this));go_wp2);go_ret;exact⟨by rw[H.o];rfl,K.o⟩
def Co(l:List Au)(bk:Int):Bool:=(Jp l bk).isSome
theorem h4(f:FuncId)(hf:Wl f)(hent:∀ args w,(callFunc f args).run prog w=.ok (.enter f args) w)(w:vW)(D:Nat->Prop)(a:Option Addr)(c:Nat)(l:List Au)(hv:Dh D w (.slice a l.length c) l)(hl:l.length<=100000)(g:Nat)(bk:Int)(hk:w.cell? g=some (.int .i64 bk)):vR 90 #[.slice a l.length c,.func (.func f) #[] #[g]] w (Co l bk):=by
 have H:=J (nC f hf hent w D a c l hv hl g bk hk);unfold vR vQ;go_in;go_wp2_with fail
 refine H.o.mono ?_;rintro e w1 ⟨rfl,K⟩;have A:=J K;cases hp:Jp l bk with
 |none =>(have q:=J hp;rw[show Qa none = -1 from rfl];go_wp2);go_ret;exact⟨by unfold Co;rw[q.o];rfl,A.o⟩
 |some i =>have q:=J hp;rw[show Qa (some i)=(i:Int)from rfl];have O:(0:Int)<=(i:Int):=vO;(go_wp2);go_ret;exact⟨by unfold Co;rw[q.o];rfl,A.o⟩
theorem O4(f:FuncId)(hf:Wl f)(hent:∀ args w,(callFunc f args).run prog w=.ok (.enter f args) w)(w:vW)(D:Nat->Prop)(win nx:Int)(a:Option Addr)(c:Nat)(l:List Au)(hv:Dh D w (.slice a l.length c) l)(hl:l.length<=100000)(g:Nat)(bk:Int)(hk:w.cell? g=some (.int .i64 bk)):vR 131 #[.agg #[.int .i64 win,.int .i64 nx,.slice a l.length c],.func (.func f) #[] #[g]] w (.int .i64 (Qa (Jp l bk))):=by
 have HV:=J hv;have HK:=J hk;have HF:=J hf;unfold vR vQ;go_in;go_wp2
 go_loopw [10] (λi wr=>tN w l bk i wr) (λi _=>l.length-(intOf i).toNat)
 case atStart=>exact⟨0,by omega,rfl,(Aa w).alloc _,λp hp=>by simp at hp⟩
 case round =>obtain⟨i,hi,rfl,O,q⟩:=hrel;have K:=J O;have e:=J q;by_cases hlt:i<l.length;{obtain⟨x,X⟩:∃ x,l[i]?=some x:=⟨_,bB hlt⟩;obtain⟨b,o,a1,c1,a2,c2,rfl,q0,q1,q2,q3,_,_⟩:=(HV.o.ext K.o).at' X;have Z:=J X;have b1:(i:Int)<(l.length:Int):=vO;(go_wp2_with fail);refine vC (HF.o _ x.block a1 _ c1 a2 _ c2 _ g bk (Am (Am HK.o K.o) ((Aa wr).alloc _))) λw3 O=>?_;have A:=J ((K.o.trans ((Aa wr).alloc _)).trans O);by_cases hq:(x.block:Int)=bk;{have H:=J (mR e.o Z.o hq);(rw[decide_eq_true hq];go_wp2);go_ret;exact⟨by rw[H.o];rfl,A.o⟩};have H:=J (lD e.o Z.o hq);(rw[decide_eq_false hq];go_wp2);go_roundw;(case rel=>exact⟨i+1,by omega,by go_num,A.o,H.o⟩);case measure=>exact vJ};obtain rfl:i=l.length:=vO;(have H:=J (mS (bk:=bk) (by have:=e.o;rwa [cF]at this));go_wp2);go_ret;exact⟨by rw[H.o];rfl,K.o⟩
theorem tB(D:Nat->Prop)(win nx:Int)(a:Option Addr)(c:Nat)(l:List Au)(hv:Dh D w (.slice a l.length c) l)(hl:l.length<=100000)(bk:Int):vR 75 #[.agg #[.int .i64 win,.int .i64 nx,.slice a l.length c],.int .i64 bk] w (.int .i64 (Qa (Jp l bk))):=by
 have H:∀ (fn:Fn) (first cap:Array vV) (w:vW),(Instr.makeFunc fn first cap).run prog w=.ok (.func fn first cap) w:=λ_ _ _ _=>rfl;have HV:=J hv;have q:=((Aa w).alloc (.cells #[.int .i64 win,.int .i64 nx,.slice a l.length c] 72)).alloc (.cells #[.int .i64 bk] 3);have K:=Ae.new (w.alloc (.cells #[.int .i64 win,.int .i64 nx,.slice a l.length c] 72)) (.cells #[.int .i64 bk] 3);have A:=J (O4 132 uO (vX 132) _ D win nx a c l (hv.ext q) hl _ bk (K.cell (i:=0) vF));have O:=J q;rw[bJ]at A;unfold vR vQ;go_in;go_wp2_with fail
 refine A.o.mono ?_;rintro e w1 ⟨rfl,X⟩;have Z:=J (O.o.trans X);go_wp2
 go_ret
 exact⟨rfl,Z.o⟩
end
section
open Go Go.RowKit
theorem ZX{p:Nat}:∀ (X:List VX) (i:Nat) (y:VX),X[i]?=some y->(Hw X).set (i*4+3) (p:Int)=Hw (X.set i ⟨EI y.v p,y.ev,y.cv⟩)
 |[],_,_,h=>by simp at h
 |x::t,0,y,h=>by
  have e:x=y:=by simpa using h
  subst e;rfl
 |x::t,i+1,y,h=>by
  have q:=ZX (p:=p) t i y (by simpa using h);show (x.cells++Hw t).set ((i+1)*4+3) _=x.cells++Hw (t.set i _);rw[dV _ _ (show x.cells.length<=_ from by show 4<=_;omega), <-q]
  congr 2
  show (i+1)*4+3-4=_;omega
theorem MB.pins{w:vW}{y:VX}(h:MB w T W g X)(hy:X[i]?=some y):MB w T (W.setCell ⟨g,i*4+3,none⟩ (p:Int)) g (X.set i ⟨EI y.v p,y.ev,y.cv⟩):=by
 have k:=Ad.z4 W ⟨g,i*4+3,none⟩ (p:Int);have A:=h.lo
 refine⟨h.lo,h.gt,bH h.tw k.size,?_,λx q=>?_,h.ext.O k λx q e=>by have e:x=g:=e;omega⟩
 ·have:=h.blk.z2 (i:=i*4+3) (p:Int);rw[gA,ZX X i y hy]at this;exact this
 ·(have hb:Ga (λb=>(w:Nat)+2<=b/\b<T/\b≠g) W x.ev x.v.ents/\Fz (λb=>(w:Nat)+2<=b/\b<T/\b≠g) W x.cv x.v.chgs:=by rcases fR q with q|rfl;{exact h.hold x q};exact h.hold y (bD hy));exact⟨hb.1.Z k λb hb e=>hb.2.2 e,hb.2.Z k λb hb e=>hb.2.2 e⟩
theorem MB.atV{w:vW}{v:Au}(h:MB w T W g X)(hX:X.map VX.v=l)(hv:l[i]?=some v):∃ y,X[i]?=some y/\y.v=v/\W.cell? ⟨g,i*4,none⟩=some (.int .i64 (v.block:Int))/\W.cell? ⟨g,i*4+3,none⟩=some (.int .i64 (v.pins:Int)):=by
 rw[<-hX,bY,dH]at hv
 obtain⟨y,q,e⟩:=hv
 refine⟨y,q,e,?_,?_⟩
 ·have:=h.blk.z1 (i:=i*4+0) (v:=.int .i64 (y.v.block:Int)) (by rw[KC X i y q 0 vI];rfl);rw[<-e];exact this
 ·have:=h.blk.z1 (i:=i*4+3) (v:=.int .i64 (y.v.pins:Int)) (by rw[KC X i y q 3 vI];rfl);rw[<-e];exact this
theorem MB.setV{y:VX}{v:Au}(hX:X.map VX.v=M.all)(e:y.v=v):(X.set i ⟨EI y.v p,y.ev,y.cv⟩).map VX.v=Lz M i v p:=by
 unfold Lz;rw[gV,hX,e]
theorem yY(D:Nat->Prop)(M:Dm)(av:vV)(hv:Dh D w av M.all)(hM:Fh M)(hl:M.all.length<=900)(at':Int):vQ 34 #[Il M av,.int .i64 at'] w λe w'=>∃ av',e=.returned (.tuple #[Il (Gd M at').1 av',((Gd M at').2.1:Int),.int .i64 (Gd M at').2.2])/\Af w w'/\Dh (Fs w w') w' av' (Gd M at').1.all:=by
 obtain⟨a0,c0,rfl⟩:=hv.sl
 have HV:=J (kT hv hM hl)
 obtain⟨R,hR⟩:=vE (Gd M at')
 have HR:=J hR;rw[<-hR];unfold Il
 obtain⟨n,c4⟩:=vE M.all.length
 rw[<-c4];have HN:=J c4;have e4:n≠0:=by rw[c4];exact λe=>hM.ne (bF e)
 have f4:n<=900:=by rw[c4];exact hl
 clear hv hR hM hl c4;unfold vQ;go_in;go_wp2_with fail
 have b6:=((Aa w).alloc (.cells #[(M.win:Int),(M.next:Int),.slice a0 n c0] 72)).alloc (.cells #[qa,qa,qe] 72);have c5:=(Ae.new w (.cells #[(M.win:Int),(M.next:Int),.slice a0 n c0] 72)).alloc (.cells #[qa,qa,qe] 72);have a9:Ae ((w.alloc (.cells #[(M.win:Int),(M.next:Int),.slice a0 n c0] 72)).alloc (.cells #[qa,qa,qe] 72)) ((w:Nat)+1) (.cells #[qa,qa,qe] 72):=by have:=Ae.new (w.alloc (.cells #[(M.win:Int),(M.next:Int),.slice a0 n c0] 72)) (.cells #[qa,qa,qe] 72);rwa [show (w.alloc (.cells #[(M.win:Int),(M.next:Int),.slice a0 n c0] 72)).heap.size=(w:Nat)+1 from gN _]at this
 have c3:=a9.lt;generalize (w.alloc (.cells #[(M.win:Int),(M.next:Int),.slice a0 n c0] 72)).alloc (.cells #[qa,qa,qe] 72)=w1 at b6 c5 a9 c3 ⊢;have h1:=WL w1 D M a0 c0 (HV.o.1.ext b6) (by rw[<-HN.o];exact e4) (kL HV.o.C) (λx hx=>⟨kL ((Ge (HV.o.2.1.ver x hx).map).len),kL ((HV.o.2.1.ver x hx).chgs)⟩);rw[<-HN.o]at h1;refine h1.mono ?_;rintro e w2 ⟨g,X,rfl,hX,hO⟩;have c5:=c5.Z hO.ext kI;have a9:=a9.Z hO.ext kI;have e5:=J c5;have HO:=J (kX hX hO b6 c3 a9);clear h1 hX hO b6 c3 c5 a9;go_wp2_with (refine Bt (vs:=[(M.win:Int),(M.next:Int),.slice (some g) n n]) rfl rfl rfl rfl e5.o rfl Aq zc ?_;intro W3 c7 d4;have q0:W3.cell? w=some (.int .i64 (M.win:Int)):=c7.z1 rfl;have q1:W3.cell? ⟨↑w,1,none⟩=some (.int .i64 (M.next:Int)):=c7.z1 rfl;have q2:W3.cell? ⟨↑w,2,none⟩=some (.slice (some g) n n):=c7.z1 rfl)
 obtain⟨hX,hO,b6,c3,a9⟩:=HO.o
 have O:X.length=n:=by rw[HN.o, <-hX,bT]
 have b2:=MB.start hO b6 c3 d4;have a9:=a9.Z d4 (λe=>by have e:(w:Nat)+1=↑w:=e;omega);have b7:=b2.vrow;rw[hX,O]at b7;have d5:=VS W3 _ M (some ⟨g,0,none⟩) n (by rw[<-HN.o];exact b7) HV.o.b (kL HV.o.C);rw[<-HN.o]at d5;refine d5.mono ?_;rintro e W4 ⟨rfl,c8⟩;have b7:=b7.ext c8;rw[HN.o]at b7;have c9:=c7.Z c8 kI;have HB:=J (kY hX (b2.more c8) c9 (a9.Z c8 kI) O b7);have e6:W4.cell? w=some (.int .i64 (M.win:Int)):=c9.z1 rfl;have e7:W4.cell? ⟨↑w,1,none⟩=some (.int .i64 (M.next:Int)):=c9.z1 rfl;have e8:W4.cell? ⟨↑w,2,none⟩=some (.slice (some g) n n):=c9.z1 rfl;clear hX hO b6 c3 a9 O b2 b7 d5 c8 c9 q0 q1 q2 c7 d4;go_wp2_with fail
 have d6:=tB W4 _ (M.win:Int) (M.next:Int) (some ⟨g,0,none⟩) M.all.length M.all HB.o.I (kL HV.o.C) at';rw[<-HN.o]at d6;refine d6.mono ?_;clear d6 e6 e7 e8;rintro e W5 ⟨rfl,d3⟩;have q:=J (kX HB.o.1 (HB.o.2.1.more d3) (HB.o.2.2.1.Z d3 kI) (HB.o.2.2.2.1.Z d3 kI) HB.o.e);have q0:W5.cell? w=some (.int .i64 (M.win:Int)):=q.o.2.2.1.z1 rfl;have q1:W5.cell? ⟨↑w,1,none⟩=some (.int .i64 (M.next:Int)):=q.o.2.2.1.z1 rfl;have q2:W5.cell? ⟨↑w,2,none⟩=some (.slice (some g) n n):=q.o.2.2.1.z1 rfl;clear HB d3
 by_cases ha:at' = -1
 ·(have b5:JA M at'=some (M.all.length-1):=by unfold JA;rw[if_pos ha]);obtain⟨v,a8,_⟩:=HV.o.2.1.lastAt;obtain⟨k,hk⟩:∃ k,n=k+1:=⟨n-1,by omega⟩;(have d9:IntKind.i64.wrap ((n:Int)-1)=(k:Int):=by rw[Qh vO vO];omega);have d8:(n:Int)-1=(k:Int):=vO;(rw[<-HN.o,show n-1=k by omega]at b5 a8;have e1:(at' == -1)=true:=by rw[ha];rfl);clear ha hk;obtain⟨y,hy,b8,p0,p3⟩:=q.o.2.1.atV q.o.1 a8;(have e9:(k:Int)<(n:Int):=by have:=(bI.1 a8).1;have:=HN.o;omega);have f0:¬(k:Int)<0:=vO;have b9:=(HV.o.2.1.ver v (bD a8)).pins;have HY:=J (kX a8 hy b8 b9 b5);by_cases hp:v.pins=1048576;{(have e2:((v.pins:Int) == 1048576)=true:=by rw[hp];rfl);(have HP:=J hp;clear hp hy b8 a8 b9 b5;go_wp2_with (refine Bt (vs:=[(M.win:Int),(M.next:Int),.slice (some g) n n]) rfl rfl rfl rfl q.o.d rfl Aq zc ?_;intro W8 d0 d1));refine bodyPost_ret (Zp rfl rfl rfl rfl (Vl W8 ((w:Nat)+1) 0 [(M.win:Int),(M.next:Int),.slice (some g) n n] rfl λj v hv=>by rw[bX];exact d0.z1 hv)) rfl ?_;obtain⟨hX,b2,_,_,O⟩:=q.o;(have a2:=b2.side d1 λb e=>.inr (.inl e);have b3:R=(M,0,12):=by rw[HR.o];unfold Gd;rw[HY.o.E];simp only[HY.o.1,HP.o,if_true]);rw[b3];exact⟨_,rfl,a2.ext,a2.news O hX⟩};(have e2:((v.pins:Int) == 1048576)=false:=by simp;omega);(have e3:=Qh (x:=(v.pins:Int)+1) vO vO;have HP:=J hp;have f3:W5.frozen? ⟨g,k*4+3,none⟩=false:=q.o.2.1.blk.frozen;clear hp hy b8 a8 b9 b5;go_wp2_with fail);have A:=q.o.2.1.pins (p:=v.pins+1) HY.o.b;have k6:=Ad.z4 W5 ⟨g,k*4+3,none⟩ (.int .i64 ((v.pins:Int)+1));have d7:=A.lo;have a4:=q.o.2.2.1.Z k6 (show ¬ (w:Nat)=g by omega);have a5:=q.o.2.2.2.1.Z k6 (show ¬ (w:Nat)+1=g by omega);rw[Int.natCast_add]at A;change MB w (w2:Nat) (W5.setCell ⟨g,k*4+3,none⟩ (.int .i64 ((v.pins:Int)+1))) g _ at A;generalize W5.setCell ⟨g,k*4+3,none⟩ (.int .i64 ((v.pins:Int)+1))=W6 at A k6 a4 a5 ⊢;obtain⟨hX,_,_,_,O⟩:=q.o;have a7:=MB.setV (p:=v.pins+1) (i:=k) hX HY.o.c;have d2:=(bI.1 HY.o.1).1;obtain⟨_,_,_,b4,_⟩:=A.atV a7 (show (Lz M k v (v.pins+1))[k]?=some (EI v (v.pins+1)) by unfold Lz;rw[gK d2]);have b4:W6.cell? ⟨g,k*4,none⟩=some (.int .i64 (v.block:Int)):=b4;have Z:=J (kQ A a4 a5 a7 b4 O d7);clear A k6 a4 a5 a7 b4 p0 p3 f3 q0 q1 q2 e2 e3 hX O d2;refine Na [0,1,2,3,4,5,6,7,8,9] [7] Af (Ad λz=>z=(w:Nat)+1) Aa Ap (λx y z h k=>Ad.trans h k) (λx y h=>h.mono kZ) vY vY vY ?_;refine Fa w _ rfl (λw1 h1=>JR w1 w 0 [(M.win:Int),(M.next:Int),.slice (some g) n n] rfl λj v hv=>by rw[bX];exact ((Z.o.2.1.drew).Z h1 vO).z1 hv) ?_;refine vS ?_;refine vD ?_;(refine Fa ⟨↑w,2,none⟩ (.slice (some g) n n) rfl (λw1 h1=>De zf (((Z.o.2.1.drew).Z h1 vO).cell (i:=2) rfl)) (vS ?_);iterate 3 refine vD ?_);(refine Fa ⟨g,k*4,none⟩ (v.block:Int) rfl (λw1 h1=>De zf (Ed Z.o.e (((Ad.refl (λz=>z=(w:Nat)+1) W6).drew).trans h1) (by show ¬ g=(w:Nat)+1;omega))) ?_;refine vS ?_;refine Hh _ rfl (λwc hc K hK=>?_);have kc:Af W6 wc:=(Ao _).trans hc;refine Yw (vs:=[(M.win:Int),(M.next:Int),.slice (some g) n n]) rfl rfl rfl (Z.o.2.2.1.Z kc kI) rfl Aq zc (λf1 a1 H=>hK _ _ H ?_);have c1:=J (kT kc a1 H);clear hK K hc kc a1 H;refine vS ?_;iterate 2 refine vD ?_);(refine Mt (λe0 b0=>?_);go_wp2_with fail);obtain⟨kc,a1,H⟩:=c1.o;(have c2:=a1.Z b0 kI;refine bodyPost_ret (Zp rfl rfl rfl rfl (Vl e0 ((w:Nat)+1) 0 [(M.win:Int),(M.next:Int),.slice (some g) n n] rfl λj v hv=>by rw[bX];exact c2.z1 hv)) rfl ?_;have b3:R=(⟨M.win,M.next,Lz M k v (v.pins+1)⟩,v.block,0):=by rw[HR.o];unfold Gd;rw[HY.o.E];simp only[HY.o.1,HP.o,if_false]);rw[b3];have a3:=((Z.o.1.more kc).side H λb e=>.inr (.inl e)).more b0;exact⟨_,rfl,a3.ext,a3.news (by rw[iB];exact Z.o.i) Z.o.d⟩
 ·(have e1:(at' == -1)=false:=by simpa using ha);(have b1:JA M at'=Jp M.all at':=by unfold JA;rw[if_neg ha]);clear ha;cases hpl:Jp M.all at' with| none =>(rw[hpl]at b1;have f2:=J b1;clear hpl b1;show _;unfold Qa;go_wp2_with (refine Bt (vs:=[(M.win:Int),(M.next:Int),.slice (some g) n n]) rfl rfl rfl rfl q.o.d rfl Aq zc ?_;intro W8 d0 d1));refine bodyPost_ret (Zp rfl rfl rfl rfl (Vl W8 ((w:Nat)+1) 0 [(M.win:Int),(M.next:Int),.slice (some g) n n] rfl λj v hv=>by rw[bX];exact d0.z1 hv)) rfl ?_;obtain⟨hX,b2,_,_,O⟩:=q.o;(have a2:=b2.side d1 λb e=>.inr (.inl e);have b3:R=(M,0,4):=by rw[HR.o];unfold Gd;rw[f2.o]);rw[b3];exact⟨_,rfl,a2.ext,a2.news O hX⟩| some i =>obtain⟨v,a8,_⟩:=MY hpl;have b5:JA M at'=some i:=b1.trans hpl;clear hpl b1;unfold Qa;obtain⟨y,hy,b8,p0,p3⟩:=q.o.2.1.atV q.o.1 a8;(have e9:(i:Int)<(n:Int):=by have:=(bI.1 a8).1;have:=HN.o;omega);have f0:¬(i:Int)<0:=vO;have b9:=(HV.o.2.1.ver v (bD a8)).pins;have HY:=J (kX a8 hy b8 b9 b5);by_cases hp:v.pins=1048576;{(have e2:((v.pins:Int) == 1048576)=true:=by rw[hp];rfl);(have HP:=J hp;clear hp hy b8 a8 b9 b5;go_wp2_with (refine Bt (vs:=[(M.win:Int),(M.next:Int),.slice (some g) n n]) rfl rfl rfl rfl q.o.d rfl Aq zc ?_;intro W8 d0 d1));refine bodyPost_ret (Zp rfl rfl rfl rfl (Vl W8 ((w:Nat)+1) 0 [(M.win:Int),(M.next:Int),.slice (some g) n n] rfl λj v hv=>by rw[bX];exact d0.z1 hv)) rfl ?_;obtain⟨hX,b2,_,_,O⟩:=q.o;(have a2:=b2.side d1 λb e=>.inr (.inl e);have b3:R=(M,0,12):=by rw[HR.o];unfold Gd;rw[HY.o.E];simp only[HY.o.1,HP.o,if_true]);rw[b3];exact⟨_,rfl,a2.ext,a2.news O hX⟩};(have e2:((v.pins:Int) == 1048576)=false:=by simp;omega);(have e3:=Qh (x:=(v.pins:Int)+1) vO vO;have HP:=J hp;have f3:W5.frozen? ⟨g,i*4+3,none⟩=false:=q.o.2.1.blk.frozen;clear hp hy b8 a8 b9 b5;go_wp2_with fail);have A:=q.o.2.1.pins (p:=v.pins+1) HY.o.b;have k6:=Ad.z4 W5 ⟨g,i*4+3,none⟩ (.int .i64 ((v.pins:Int)+1));have d7:=A.lo;have a4:=q.o.2.2.1.Z k6 (show ¬ (w:Nat)=g by omega);have a5:=q.o.2.2.2.1.Z k6 (show ¬ (w:Nat)+1=g by omega);rw[Int.natCast_add]at A;change MB w (w2:Nat) (W5.setCell ⟨g,i*4+3,none⟩ (.int .i64 ((v.pins:Int)+1))) g _ at A;generalize W5.setCell ⟨g,i*4+3,none⟩ (.int .i64 ((v.pins:Int)+1))=W6 at A k6 a4 a5 ⊢;obtain⟨hX,_,_,_,O⟩:=q.o;have a7:=MB.setV (p:=v.pins+1) (i:=i) hX HY.o.c;have d2:=(bI.1 HY.o.1).1;obtain⟨_,_,_,b4,_⟩:=A.atV a7 (show (Lz M i v (v.pins+1))[i]?=some (EI v (v.pins+1)) by unfold Lz;rw[gK d2]);have b4:W6.cell? ⟨g,i*4,none⟩=some (.int .i64 (v.block:Int)):=b4;have Z:=J (kQ A a4 a5 a7 b4 O d7);clear A k6 a4 a5 a7 b4 p0 p3 f3 q0 q1 q2 e2 e3 hX O d2;refine Na [0,1,2,3,4,5,6,7,8,9] [7] Af (Ad λz=>z=(w:Nat)+1) Aa Ap (λx y z h k=>Ad.trans h k) (λx y h=>h.mono kZ) vY vY vY ?_;refine Fa w _ rfl (λw1 h1=>JR w1 w 0 [(M.win:Int),(M.next:Int),.slice (some g) n n] rfl λj v hv=>by rw[bX];exact ((Z.o.2.1.drew).Z h1 vO).z1 hv) ?_;refine vS ?_;refine vD ?_;(refine Fa ⟨↑w,2,none⟩ (.slice (some g) n n) rfl (λw1 h1=>De zf (((Z.o.2.1.drew).Z h1 vO).cell (i:=2) rfl)) (vS ?_);iterate 3 refine vD ?_);(refine Fa ⟨g,i*4,none⟩ (v.block:Int) rfl (λw1 h1=>De zf (Ed Z.o.e (((Ad.refl (λz=>z=(w:Nat)+1) W6).drew).trans h1) (by show ¬ g=(w:Nat)+1;omega))) ?_;refine vS ?_;refine Hh _ rfl (λwc hc K hK=>?_);have kc:Af W6 wc:=(Ao _).trans hc;refine Yw (vs:=[(M.win:Int),(M.next:Int),.slice (some g) n n]) rfl rfl rfl (Z.o.2.2.1.Z kc kI) rfl Aq zc (λf1 a1 H=>hK _ _ H ?_);have c1:=J (kT kc a1 H);clear hK K hc kc a1 H;refine vS ?_;iterate 2 refine vD ?_);(refine Mt (λe0 b0=>?_);go_wp2_with fail);obtain⟨kc,a1,H⟩:=c1.o;(have c2:=a1.Z b0 kI;refine bodyPost_ret (Zp rfl rfl rfl rfl (Vl e0 ((w:Nat)+1) 0 [(M.win:Int),(M.next:Int),.slice (some g) n n] rfl λj v hv=>by rw[bX];exact c2.z1 hv)) rfl ?_;have b3:R=(⟨M.win,M.next,Lz M i v (v.pins+1)⟩,v.block,0):=by rw[HR.o];unfold Gd;rw[HY.o.E];simp only[HY.o.1,HP.o,if_false]);rw[b3];have a3:=((Z.o.1.more kc).side H λb e=>.inr (.inl e)).more b0;exact⟨_,rfl,a3.ext,a3.news (by rw[iB];exact Z.o.i) Z.o.d⟩
theorem M4(D:Nat->Prop)(M:Dm)(av:vV)(hv:Dh D w av M.all)(hM:Fh M)(hl:M.all.length<=900)(at':Int):vQ 42 #[Il M av,.int .i64 at'] w λe w'=>∃ c9,e=.returned (.tuple #[Il (Nv M at').1 c9,.int .i64 (Nv M at').2])/\Af w w'/\Dh (Fs w w') w' c9 (Nv M at').1.all:=by
 obtain⟨a0,c0,rfl⟩:=hv.sl
 have HV:=J (kT hv hM hl)
 obtain⟨R,hR⟩:=vE (Nv M at')
 have HR:=J hR;rw[<-hR];unfold Il
 obtain⟨n,b3⟩:=vE M.all.length
 rw[<-b3];have HN:=J b3;have d6:n≠0:=by rw[b3];exact λe=>hM.ne (bF e)
 have f2:n<=900:=by rw[b3];exact hl
 clear hv hR hM hl b3;unfold vQ;go_in;go_wp2_with fail
 have a4:=((Aa w).alloc (.cells #[(M.win:Int),(M.next:Int),.slice a0 n c0] 72)).alloc (.cells #[qa,qa,qe] 72);have b4:=(Ae.new w (.cells #[(M.win:Int),(M.next:Int),.slice a0 n c0] 72)).alloc (.cells #[qa,qa,qe] 72);have O:Ae ((w.alloc (.cells #[(M.win:Int),(M.next:Int),.slice a0 n c0] 72)).alloc (.cells #[qa,qa,qe] 72)) ((w:Nat)+1) (.cells #[qa,qa,qe] 72):=by have:=Ae.new (w.alloc (.cells #[(M.win:Int),(M.next:Int),.slice a0 n c0] 72)) (.cells #[qa,qa,qe] 72);rwa [show (w.alloc (.cells #[(M.win:Int),(M.next:Int),.slice a0 n c0] 72)).heap.size=(w:Nat)+1 from gN _]at this
 have b1:=O.lt;generalize (w.alloc (.cells #[(M.win:Int),(M.next:Int),.slice a0 n c0] 72)).alloc (.cells #[qa,qa,qe] 72)=w1 at a4 b4 O b1 ⊢;have h1:=WL w1 D M a0 c0 (HV.o.1.ext a4) (by rw[<-HN.o];exact d6) (kL HV.o.C) (λx hx=>⟨kL ((Ge (HV.o.2.1.ver x hx).map).len),kL ((HV.o.2.1.ver x hx).chgs)⟩);rw[<-HN.o]at h1;refine h1.mono ?_;rintro e w2 ⟨g,X,rfl,hX,hO⟩;have b4:=b4.Z hO.ext kI;have O:=O.Z hO.ext kI;have d9:=J b4;have HO:=J (kX hX hO a4 b1 O);clear h1 hX hO a4 b1 b4 O;go_wp2_with (refine Bt (vs:=[(M.win:Int),(M.next:Int),.slice (some g) n n]) rfl rfl rfl rfl d9.o rfl Aq zc ?_;intro W3 b5 d0;have q0:W3.cell? w=some (.int .i64 (M.win:Int)):=b5.z1 rfl;have q1:W3.cell? ⟨↑w,1,none⟩=some (.int .i64 (M.next:Int)):=b5.z1 rfl;have q2:W3.cell? ⟨↑w,2,none⟩=some (.slice (some g) n n):=b5.z1 rfl)
 obtain⟨hX,hO,a4,b1,O⟩:=HO.o
 have K:X.length=n:=by rw[HN.o, <-hX,bT]
 have a5:=MB.start hO a4 b1 d0;have O:=O.Z d0 (λe=>by have e:(w:Nat)+1=↑w:=e;omega);have a8:=a5.vrow;rw[hX,K]at a8;have d1:=VS W3 _ M (some ⟨g,0,none⟩) n (by rw[<-HN.o];exact a8) HV.o.b (kL HV.o.C);rw[<-HN.o]at d1;refine d1.mono ?_;rintro e W4 ⟨rfl,b6⟩;have a8:=a8.ext b6;rw[HN.o]at a8;have b7:=b5.Z b6 kI;have HB:=J (kY hX (a5.more b6) b7 (O.Z b6 kI) K a8);have e0:W4.cell? w=some (.int .i64 (M.win:Int)):=b7.z1 rfl;have e1:W4.cell? ⟨↑w,1,none⟩=some (.int .i64 (M.next:Int)):=b7.z1 rfl;have e5:W4.cell? ⟨↑w,2,none⟩=some (.slice (some g) n n):=b7.z1 rfl;clear hX hO a4 b1 O K a5 a8 d1 b6 b7 q0 q1 q2 b5 d0;go_wp2_with fail
 have d2:=tB W4 _ (M.win:Int) (M.next:Int) (some ⟨g,0,none⟩) M.all.length M.all HB.o.I (kL HV.o.C) at';rw[<-HN.o]at d2;refine d2.mono ?_;clear d2 e0 e1 e5;rintro e W5 ⟨rfl,c4⟩;have A:=J (kX HB.o.1 (HB.o.2.1.more c4) (HB.o.2.2.1.Z c4 kI) (HB.o.2.2.2.1.Z c4 kI) HB.o.e);have q0:W5.cell? w=some (.int .i64 (M.win:Int)):=A.o.2.2.1.z1 rfl;have q1:W5.cell? ⟨↑w,1,none⟩=some (.int .i64 (M.next:Int)):=A.o.2.2.1.z1 rfl;have q2:W5.cell? ⟨↑w,2,none⟩=some (.slice (some g) n n):=A.o.2.2.1.z1 rfl;clear HB c4;cases hpl:Jp M.all at' with
 |none =>(have e6:=J hpl;clear hpl;unfold Qa;go_wp2_with (refine Bt (vs:=[(M.win:Int),(M.next:Int),.slice (some g) n n]) rfl rfl rfl rfl A.o.d rfl Aq zc ?_;intro W8 b8 a9));refine bodyPost_ret (EH rfl rfl rfl (Vl W8 ((w:Nat)+1) 0 [(M.win:Int),(M.next:Int),.slice (some g) n n] rfl λj v hv=>by rw[bX];exact b8.z1 hv)) rfl ?_;obtain⟨hX,a5,_,_,K⟩:=A.o;(have Z:=a5.side a9 λb e=>.inr (.inl e);have b9:R=(M,4):=by rw[HR.o];unfold Nv;rw[e6.o]);rw[b9];exact⟨_,rfl,Z.ext,Z.news K hX⟩
 |some i =>obtain⟨v,b2,_⟩:=MY hpl;unfold Qa;obtain⟨y,hy,c5,p0,p3⟩:=A.o.2.1.atV A.o.1 b2;(have e7:(i:Int)<(n:Int):=by have:=(bI.1 b2).1;have:=HN.o;omega);have e8:¬(i:Int)<0:=vO;have d3:=(HV.o.2.1.ver v (bD b2)).pins;have HY:=J (kX b2 hy c5 d3 hpl);by_cases hp:v.pins=0;{(have e2:((v.pins:Int) == 0)=true:=by rw[hp];rfl);(have HP:=J hp;clear hp hy c5 b2 d3 hpl;go_wp2_with (refine Bt (vs:=[(M.win:Int),(M.next:Int),.slice (some g) n n]) rfl rfl rfl rfl A.o.d rfl Aq zc ?_;intro W8 b8 a9));refine bodyPost_ret (EH rfl rfl rfl (Vl W8 ((w:Nat)+1) 0 [(M.win:Int),(M.next:Int),.slice (some g) n n] rfl λj v hv=>by rw[bX];exact b8.z1 hv)) rfl ?_;obtain⟨hX,a5,_,_,K⟩:=A.o;(have Z:=a5.side a9 λb e=>.inr (.inl e);have b9:R=(M,4):=by rw[HR.o];unfold Nv;rw[HY.o.E];simp only[HY.o.1,HP.o,if_true]);rw[b9];exact⟨_,rfl,Z.ext,Z.news K hX⟩};(have e2:((v.pins:Int) == 0)=false:=by simp;omega);obtain⟨q,hq⟩:∃ q,v.pins=q+1:=⟨v.pins-1,by omega⟩;(have e3:IntKind.i64.wrap ((v.pins:Int)-1)=(q:Int):=by rw[Qh vO vO];omega);have e4:(v.pins:Int)-1=(q:Int):=vO;have HP:=J (bA hp hq);have f3:W5.frozen? ⟨g,i*4+3,none⟩=false:=A.o.2.1.blk.frozen;have H:=A.o.2.1.pins (p:=q) hy;have k6:=Ad.z4 W5 ⟨g,i*4+3,none⟩ (q:Int);have f4:=H.lo;have a3:=A.o.2.2.1.Z k6 (show ¬ (w:Nat)=g by omega);have a1:=A.o.2.2.2.1.Z k6 (show ¬ (w:Nat)+1=g by omega);obtain⟨hX,_,_,_,K⟩:=A.o;(have a2:=MB.setV (p:=q) (i:=i) hX c5;have H6:=J (kX H a3 a1 a2 K);clear hp hq hy c5 b2 d3 hpl H k6 a3 a1 a2 hX K;go_wp2_with fail);rw[show Go.RowKit.wrap64 (q:Int)=(q:Int) by have:=HP.o.2;have:=HY.o.d;unfold Go.RowKit.wrap64;omega];obtain⟨W6,d7⟩:=vE (W5.setCell ⟨g,i*4+3,none⟩ (q:Int));rw[<-d7]at H6 ⊢;clear d7 q0 q1 q2 p0 p3 f3;obtain⟨H,a3,a1,a2,K⟩:=H6.o;(have b0:=H.vrow;rw[a2,iB,K]at b0;have f5:=H.gt;have f6:=H.tw;have d4:(Lz M i v q).length=n:=by unfold Lz;rw[iB,HN.o]);have d8:=mF W6 (λb=>(w:Nat)+2<=b/\b<(w2:Nat)) (λb hb=>kL hb.2) ⟨M.win,M.next,Lz M i v q⟩ _ b0 (λe=>by have e:Lz M i v q=[]:=e;rw[e]at d4;exact d6 d4.symm) (by have:=HV.o.2.1.win;show M.win<=8;omega) (by have:=HV.o.2.1.next;show M.next<=2000000;omega) (by show (Lz M i v q).length<=1000;omega) (λx hx=>by have hx:x∈Lz M i v q:=hx;rcases fR hx with hx|rfl;{have h1:=HV.o.2.1.less x hx;have h2:=(HV.o.2.1.ver x hx).pins;have h3:=HV.o.2.1.next;exact⟨by omega,by omega⟩};have h1:=HV.o.2.1.less v (bD HY.o.1);have h3:=HV.o.2.1.next;have h4:=HP.o.2;have h5:=HY.o.d;exact⟨by show v.block<=_;omega,by show q<=_;omega⟩);refine d8.mono ?_;rintro e W7 ⟨c9,rfl,c8,c1⟩;obtain⟨a7,c7,e9⟩:=c1.sl;subst e9;have c2:=H.more c8;have d5:=J (a1.Z c8 kI);have f0:=J (kT c2.ext c8.size c1);obtain⟨cl,c3⟩:=vE (Iu M.win M.next (Lz M i v q));(unfold Il;show _;have f7:=J c3;clear H a3 a1 a2 K b0 d4 d8 c8 c1 c2 c3 e2 e3 e4 e7 e8;go_wp2_with (refine Bt (vs:=[(M.win:Int),(M.next:Int),.slice a7 (Iu M.win M.next (Lz M i v q)).length c7]) rfl rfl rfl rfl d5.o rfl Aq zc ?_;intro W8 b8 a9));(refine bodyPost_ret (EH rfl rfl rfl (Vl W8 ((w:Nat)+1) 0 [(M.win:Int),(M.next:Int),.slice a7 (Iu M.win M.next (Lz M i v q)).length c7] rfl λj v hv=>by rw[bX];exact b8.z1 hv)) rfl ?_;have b9:R=(⟨M.win,M.next,Iu M.win M.next (Lz M i v q)⟩,0):=by rw[HR.o];unfold Nv;rw[HY.o.E];simp only[HY.o.1,HP.o.1,if_false];rw[HP.o.2];rfl);rw[b9];obtain⟨f1,f8,c1⟩:=f0.o;have f9:=a9.size;refine⟨_,rfl,f1.O a9 kJ,?_⟩;refine (c1.Z a9 λb hb e=>?_).mono λb hb=>?_;{have e:b=(w:Nat)+1:=e;rcases hb with⟨h,_⟩|⟨h,_⟩<;>omega};rcases hb with⟨h1,h2⟩|⟨h1,h2⟩;{exact⟨by omega,by omega⟩};exact⟨by omega,by omega⟩
abbrev EB:Fy prog 3 Int:=wC Fl
theorem Ft:prog.underlying 74=some (.map 3 9):=vY
def Sd(M:Dm)(a:Option Addr)(c rm sb cb:Nat):List vV:=[(M.win:Int),(M.next:Int),.slice a M.all.length c,.map (some rm),sb,cb]
structure Kk(D:Nat->Prop)(W:World)(b:Nat)(M:Dm)(a:Option Addr)(c rm sb cb:Nat)(es:List (Ce Int))(ck:Nat):Prop where
 blk:Ae W b (.cells (Sd M a c rm sb cb).toArray 80)
 ver:Dh D W (.slice a M.all.length c) M.all
 map:Ae W rm (.map (EB.arr es) ck)
theorem Kk.Z{b:Nat}{a:Option Addr}{c:Nat}(h:Kk D W b M a c rm sb cb es ck)(k:Ad F W W')(h1:¬ F b)(h2:¬ F rm)(h3:∀ b,D b->¬ F b):Kk D W' b M a c rm sb cb es ck:=
 ⟨h.blk.Z k h1,h.ver.Z k h3,h.map.Z k h2⟩
theorem Kk.ext{a:Option Addr}{c:Nat}(h:Kk D W b M a c rm sb cb es ck)(k:Af W W'):Kk D W' b M a c rm sb cb es ck:=h.Z k kI kI λ_ _ e=>e
theorem DC(D:Nat->Prop)(b:Nat)(M:Dm)(a:Option Addr)(c rm sb cb:Nat)(es:List (Ce Int))(ck:Nat)(h:Kk D w b M a c rm sb cb es ck):vR 33 #[b] w true:=by
 have e:w.cell? ⟨b,4,none⟩=some (.pointer (some sb)):=h.blk.z1 rfl;clear h;unfold vR vQ;go_in;go_wp2
 go_ret
 exact⟨rfl,Aa w⟩
theorem SL{w:vW}{a:Act}{d:Option Tmp}{x y:Operand}{ty:TypeId}{pos:String}{af:Array Edge}{g:Option (Nat × Bool)}(ok:Bool)(hb:Ae w rm (.map (EB.arr es) ck))(hx:a.eval x=.map (some rm))(hy:a.eval y=.int .i64 bk):(execOp a.eval ⟨d,.lookup 74 x y ok,ty,pos,af,g⟩).run prog w=.ok (.value (if ok then .tuple #[(Cp es bk).getD (),.bool (Cp es bk).isSome]else (Cp es bk).getD ())) w:=by
 have:=Wx EB Ft hb (z:=.string ⟨#[]⟩) vY bk ok
 have e:EB.κ bk=.int .i64 bk:=rfl;rw[e]at this;simp only[execOp,hx,hy,bS,this,Result.andThen,cT]
theorem EY(D:Nat->Prop)(b:Nat)(M:Dm)(a:Option Addr)(c rm sb cb:Nat)(es:List (Ce Int))(ck:Nat)(h:Kk D w b M a c rm sb cb es ck)(hl:M.all.length<=1000)(bk:Int)(i:Nat)(v:Au)(r:vB)(hp:Jp M.all bk=some i)(hv:M.all[i]?=some v)(hr:Cp es bk=some (.string r)):vQ 35 #[b,.int .i64 bk] w λe w'=>∃ x:VX,e=.returned (.tuple #[.agg x.cells.toArray,r,qg])/\x.v=v/\Ga D w x.ev v.ents/\Fz D w x.cv v.chgs/\Af w w':=by
 have H:=J h;have HP:=J (kU hp hv hr hl)
 obtain⟨b1,o1,a1,c1,a2,c2,rfl,q0,q1,q2,q3,r1,r2⟩:=h.ver.at' hv
 have HQ:=J (kY q0 q1 q2 q3 r1 r2);have a7:=(bI.1 hv).1;clear q0 q1 q2 q3 r1 r2;have b0:∀ (fn:Fn) (first cap:Array vV) (w:vW),(Instr.makeFunc fn first cap).run prog w=.ok (.func fn first cap) w:=λ_ _ _ _=>rfl
 obtain⟨n,a5⟩:=vE M.all.length
 have HN:=J a5;clear h hp hv hr hl a5;unfold vQ;go_in;go_wp2_with fail
 have q:=((Aa w).alloc (.cells #[.int .i64 bk] 3)).alloc (.cells #[qa,qe,qe,qa] 91);have a0:=(Ae.new w (.cells #[.int .i64 bk] 3)).alloc (.cells #[qa,qe,qe,qa] 91);have a3:Ae ((w.alloc (.cells #[.int .i64 bk] 3)).alloc (.cells #[qa,qe,qe,qa] 91)) ((w:Nat)+1) (.cells #[qa,qe,qe,qa] 91):=by have:=Ae.new (w.alloc (.cells #[.int .i64 bk] 3)) (.cells #[qa,qe,qe,qa] 91);rwa [show (w.alloc (.cells #[.int .i64 bk] 3)).heap.size=(w:Nat)+1 from gN _]at this
 generalize (w.alloc (.cells #[.int .i64 bk] 3)).alloc (.cells #[qa,qe,qe,qa] 91)=w1 at q a0 a3 ⊢;refine vC (DC w1 D b M (some ⟨b1,o1,none⟩) c rm sb cb es ck (H.o.ext q)) λw2 A=>?_;have X:=J (kU (H.o.ext (q.trans A)) (a0.Z A kI) (a3.Z A kI) (q.trans A));clear q a0 a3 A;go_wp2_with fail
 refine Hs [0,1,2,3,4,5,6,7,8,9,10] Af Aa Ap vY vY vY ?_
 refine vK ?_
 refine Jf _ b rfl zh (vS ?_)
 refine vK ?_
 refine Db ⟨b,3,none⟩ (.map (some rm)) rfl (λw3 Z=>De zf (Am (X.o.1.blk.z1 rfl) ((Ao _).trans Z))) (vS ?_);refine Db w (.int .i64 bk) rfl (λw3 Z=>De zf (Am (X.o.2.1.cell (i:=0) rfl) ((Ao _).trans Z))) (vS ?_);refine Jf _ (.tuple #[r,true]) rfl (λw3 Z=>by refine (SL true (X.o.1.map.Z ((Ao _).trans Z) kI) rfl rfl).trans ?_;rw[HP.o.c];rfl) ?_
 refine vS ?_;iterate 5 refine vK ?_
 refine Hi (λw3 Z=>?_);have K:Af w2 w3:=(Ao _).trans Z;have H3:=J (kU (X.o.1.ext K) (X.o.2.1.Z K kI) (X.o.2.2.1.Z K kI) (X.o.2.2.2.trans K));have q2:w3.cell? ⟨b,2,none⟩=some (.slice (some ⟨b1,o1,none⟩) n c):=by rw[HN.o];exact H3.o.1.blk.z1 rfl
 clear Z K X;go_wp2_with fail
 have a4:=nC 77 wR (λargs w=>by kernel_rfl) w3 D (some ⟨b1,o1,none⟩) c M.all H3.o.1.ver (kL HP.o.D) w bk (H3.o.2.1.cell (i:=0) rfl);rw[<-HN.o]at a4;refine a4.mono ?_;rintro e w4 ⟨rfl,O⟩;rw[HP.o.1];have hE:=H3.o.2.2.2.trans O;have H4:=J (bA hE (H3.o.2.2.1.Z O kI));have q2:w4.cell? ⟨b,2,none⟩=some (.slice (some ⟨b1,o1,none⟩) n c):=Am q2 O;have p0:=Am HQ.o.1 hE;have p1:=Am HQ.o.b hE;have p2:=Am HQ.o.c hE;have p3:=Am HQ.o.d hE;have b2:(i:Int)<(n:Int):=kL HN.o
 have b3:¬(i:Int)<0:=vO
 unfold Qa;clear hE O a4 a7 H3;go_wp2_with (refine Bt (vs:=[(v.block:Int),.slice a1 v.ents.length c1,.slice a2 v.chgs.length c2,(v.pins:Int)]) rfl rfl rfl rfl H4.o.2 rfl Bo zc ?_;intro W8 a8 a9)
 refine bodyPost_ret (Zp rfl rfl rfl rfl (SA W8 ((w:Nat)+1) 0 [(v.block:Int),.slice a1 v.ents.length c1,.slice a2 v.chgs.length c2,(v.pins:Int)] rfl λj u hu=>by rw[bX];exact a8.z1 hu)) rfl ?_
 exact⟨⟨v,.slice a1 v.ents.length c1,.slice a2 v.chgs.length c2⟩,rfl,rfl,HQ.o.e,HQ.o.I,H4.o.1.O a9 kJ⟩
end
section
open Go Go.RowKit
attribute [local go_sem] Oper.semAt_some
def Vz:vV:=.iface 27 (.int .i64 4)
theorem EP:vQ 36 #[qg,Vz] w λe w'=>e=.returned false/\w=w':=by
 unfold Vz;have q:∀ w,(binOp .eql 93 .nilIface (.iface 27 (.int .i64 4))).run prog w=.ok false w:=λw=>by kernel_rfl
 unfold vQ;go_in;go_wp2
 go_ret
 exact⟨rfl,rfl⟩
theorem xP:vQ 79 #[Vz,Vz,true] w λe w'=>e=.returned true/\w=w':=by
 have q:∀ w,(binOp .eql 93 Vz Vz).run prog w=.ok true w:=λw=>by kernel_rfl
 unfold Vz at *;unfold vQ;go_in;go_wp2_with fail
 refine wp_loop_rounds 1 ?_;rw[rounds_succ];go_wp2
 go_ret
 exact⟨rfl,rfl⟩
theorem nF:vQ 36 #[Vz,Vz] w λe w'=>e=.returned true/\w=w':=by
 have q:=J (xP w);have A:∀ w,(binOp .eql 93 Vz .nilIface).run prog w=.ok false w:=λw=>by kernel_rfl
 unfold Vz at *;have K:∀ w,(callFunc 78 #[.iface 27 (.int .i64 4)]).run prog w=.ok (.value (.iface 232 (.agg #[.pointer (some ⟨3,27,none⟩)]))) w:=λw=>by kernel_rfl
 have H:∀ w,(callFunc 268 #[.agg #[.pointer (some ⟨3,27,none⟩)]]).run prog w=.ok (.value true) w:=λw=>by kernel_rfl
 have O:=Ew 522;unfold vQ;go_in;go_wp2_with fail
 refine q.o.mono ?_;rintro e w1 ⟨rfl,rfl⟩;go_wp2
 go_ret
 exact⟨rfl,rfl⟩
end
section
open Go Go.RowKit
theorem pO(D:Nat->Prop)(b:Nat)(M:Dm)(a:Option Addr)(c rm sb cb:Nat)(es:List (Ce Int))(ck:Nat)(h:Kk D w b M a c rm sb cb es ck)(bk:Int)(hr:Cp es bk=none):vR 35 #[b,.int .i64 bk] w (.tuple #[.agg FE.cells.toArray,(),Vz]):=by
 have H:=J h;have HP:=J hr;unfold vR vQ;go_in;go_wp2_with fail
 have q:=((Aa w).alloc (.cells #[.int .i64 bk] 3)).alloc (.cells #[qa,qe,qe,qa] 91);have O:=(Ae.new w (.cells #[.int .i64 bk] 3)).alloc (.cells #[qa,qe,qe,qa] 91);have X:Ae ((w.alloc (.cells #[.int .i64 bk] 3)).alloc (.cells #[qa,qe,qe,qa] 91)) ((w:Nat)+1) (.cells #[qa,qe,qe,qa] 91):=by have:=Ae.new (w.alloc (.cells #[.int .i64 bk] 3)) (.cells #[qa,qe,qe,qa] 91);rwa [show (w.alloc (.cells #[.int .i64 bk] 3)).heap.size=(w:Nat)+1 from gN _]at this
 generalize (w.alloc (.cells #[.int .i64 bk] 3)).alloc (.cells #[qa,qe,qe,qa] 91)=w1 at q O X ⊢;refine vC (DC w1 D b M a c rm sb cb es ck (H.o.ext q)) λw2 A=>?_;have Z:=J (kU (H.o.ext (q.trans A)) (O.Z A kI) (X.Z A kI) (q.trans A));go_wp2_with fail
 refine Hs [0,1,2,3,4,5,6,7,8,9,10] Af Aa Ap vY vY vY ?_
 refine vK ?_
 refine Jf _ b rfl zh (vS ?_)
 refine vK ?_
 refine Db ⟨b,3,none⟩ (.map (some rm)) rfl (λw3 K=>De zf (Am (Z.o.1.blk.z1 rfl) ((Ao _).trans K))) (vS ?_);refine Db w (.int .i64 bk) rfl (λw3 K=>De zf (Am (Z.o.2.1.cell (i:=0) rfl) ((Ao _).trans K))) (vS ?_);refine Jf _ (.tuple #[(),false]) rfl (λw3 K=>by refine (SL true (Z.o.1.map.Z ((Ao _).trans K) kI) rfl rfl).trans ?_;rw[HP.o];rfl) ?_
 refine vS ?_;iterate 5 refine vK ?_
 refine Hi (λw3 K=>?_);have a0:Af w2 w3:=(Ao _).trans K;have H3:=J (bA (Z.o.2.2.1.Z a0 kI) (Z.o.2.2.2.trans a0));go_wp2_with (refine Bt (vs:=FE.cells) rfl rfl rfl rfl H3.o.1 rfl Bo (by simp[FE,VX.cells,Value.oneCell']) ?_;intro W8 a1 a2)
 refine bodyPost_ret (Zp rfl rfl rfl rfl (SA W8 ((w:Nat)+1) 0 FE.cells rfl λj u hu=>by rw[bX];exact a1.z1 hu)) rfl ?_
 exact⟨rfl,H3.o.2.O a2 kJ⟩
theorem mE(D:Nat->Prop)(b:Nat)(M:Dm)(a:Option Addr)(c rm sb cb:Nat)(es:List (Ce Int))(ck:Nat)(h:Kk D w b M a c rm sb cb es ck)(hl:M.all.length<=1000)(bk:Int)(i:Nat)(v:Au)(r:vB)(hp:Jp M.all bk=some i)(hv:M.all[i]?=some v)(hr:Cp es bk=some (.string r)):vR 10 #[b,.int .i64 bk] w (.tuple #[r,qa]):=by
 have HC:=J (EY w D b M a c rm sb cb es ck h hl bk i v r hp hv hr);unfold vR vQ;go_in;go_wp2_with fail
 refine HC.o.mono ?_;rintro e w1 ⟨x,rfl,q,h1,h2,hE⟩
 obtain⟨K,ev,cv⟩:=x
 have q:K=v:=q;subst q
 obtain⟨a1,c1,A⟩:=h1.1.sl
 obtain⟨a2,c2,H⟩:=h2.1.sl
 have A:ev=_:=A;have H:cv=_:=H;subst A H;have HE:=J hE;unfold VX.cells;go_wp2_with (first|(refine Di Cb rfl rfl ?_;intro W2 O X)|(refine Bt (vs:=[(K.block:Int),.slice a1 K.ents.length c1,.slice a2 K.chgs.length c2,(K.pins:Int)]) rfl rfl rfl rfl O rfl Bo zc ?_;intro W3 a0 Z))
 refine (EP W3).mono ?_;rintro e w4 ⟨rfl,rfl⟩;go_wp2
 go_ret2
 exact⟨rfl,(HE.o.trans X).O Z λx hx e=>by have e:x=(w1:Nat):=e;have:=HE.o.size;omega⟩
theorem SQ{ops:Array Oper}{rest:List Oper}{a:Act}{w:vW}{T T2:TypeId}{x y:Operand}(hgd:o.guard=none)(ho:o.op=.store T x y)(hx:a.eval x=.pointer (some b))(hy:a.eval y=.agg vs.toArray)
  (hB:Ae w b (.cells old.toArray T2)) (hl:vs.length<=old.length) (hi:(P.info? T).map (·.size)=some vs.length) (h1:∀ v∈vs,v.oneCell'=true)
  (h:∀ W,Ae W b (.cells (vs++old.drop vs.length).toArray T2)->Ad (λz=>z=b) w W->wpList P ops Q rest (a.put o.dst undef) W):wpList P ops Q (o::rest) a w:=by
 refine wpList_store_mid hgd T x y ho b 0 vs.toArray hx hy (by have:=UH hB (o:=0) (n:=vs.length) vO;simpa using this) (by simpa using hi) (all_oneCell_toArray h1) (h _ ?_ (Ad.z9 b vs 0 w))
 have:=Ae.setCells vs 0 w old hB vO
 simpa using this
theorem Kk.turn{a a':Option Addr}{c:Nat}(h:Kk D W b M a c rm sb cb es ck)(k:Af W W')(hv:Dh E W' (.slice a' M'.all.length c') M'.all)
  (hB:Ae W'' b (.cells (([(M'.win:Int),(M'.next:Int),.slice a' M'.all.length c']:List vV)++(Sd M a c rm sb cb).drop 3).toArray 80)) (k':Ad (λz=>z=b) W' W'') (hrb:rm≠b) (hE:∀ z,E z->z≠b):Kk E W'' b M' a' c' rm sb cb es ck:=
 ⟨hB,hv.Z k' hE,(h.map.Z k kI).Z k' hrb⟩
theorem V6{x:Int}:(Gd M x).2.2≠0->(Gd M x).1=M/\(Gd M x).2.1=0:=by
 unfold Gd;split
 ·exact λ_=>⟨rfl,rfl⟩
 ·split;{exact λ_=>⟨rfl,rfl⟩};split;{exact λ_=>⟨rfl,rfl⟩};exact λh=>absurd rfl h
theorem Kk.mono{a:Option Addr}{c:Nat}(h:Kk D W b M a c rm sb cb es ck)(k:∀ z,D z->E z):Kk E W b M a c rm sb cb es ck:=⟨h.blk,h.ver.mono k,h.map⟩
theorem P9(D:Nat->Prop)(b:Nat)(M:Dm)(a:Option Addr)(c rm sb cb:Nat)(es:List (Ce Int))(ck:Nat)(h:Kk D w b M a c rm sb cb es ck)(hM:Fh M)(hl:M.all.length<=900)(hb:¬ D b)(hrb:rm≠b)(at':Int):vQ 9 #[b,.int .i64 at'] w λe w'=>e=.returned (.tuple #[((Gd M at').2.1:Int),.int .i64 (Gd M at').2.2])/\Ad (λz=>z=b) w w'/\∃ a' c',Kk (λz=>D z\/Fs w w' z) w' b (Gd M at').1 a' c' rm sb cb es ck:=by
 have H:=J h;have HP:=J (kU hM hl hb hrb);have b3:=h.blk.lt
 obtain⟨R,hR⟩:=vE (Gd M at')
 have HR:=J hR;rw[<-hR]
 obtain⟨n,a8⟩:=vE M.all.length
 have HN:=J a8;clear h hM hl hb hrb hR a8;unfold vQ;go_in;go_wp2_with fail
 refine vC (DC w D b M a c rm sb cb es ck H.o) λw2 A=>?_;have q0:w2.cell? b=some (.int .i64 (M.win:Int)):=(H.o.ext A).blk.z1 rfl;have q1:w2.cell? ⟨b,1,none⟩=some (.int .i64 (M.next:Int)):=(H.o.ext A).blk.z1 rfl;have q2:w2.cell? ⟨b,2,none⟩=some (.slice a n c):=by rw[HN.o];exact (H.o.ext A).blk.z1 rfl
 have q:=J A;clear A;go_wp2_with fail
 have hp:=yY w2 D M _ (H.o.ext q.o).ver HP.o.1 HP.o.b at';rw[<-HN.o, <-HR.o]at hp;refine hp.mono ?_;rintro e Z ⟨av,rfl,a9,a0⟩
 obtain⟨a3,c3,b0⟩:=a0.sl
 subst b0;have K:=J (bA a9 a0);clear hp a9 a0 q0 q1 q2;unfold Il;have b1:=((H.o.ext q.o).ext K.o.1).blk
 by_cases he:R.2.2=0
 ·have e1:(R.2.2 != 0)=false:=by rw[he];rfl
  have a1:=J he;rw[he];clear he e1;go_wp2_with (first
   |(refine Di Cy rfl rfl ?_;intro W4 a2 a4)
   |(refine Bt (vs:=[(R.1.win:Int),(R.1.next:Int),.slice a3 R.1.all.length c3]) rfl rfl rfl rfl a2 rfl Aq zc ?_;intro W5 X a5
     have q0:W5.cell? Z=some (.int .i64 (R.1.win:Int)):=X.z1 rfl;have q1:W5.cell? ⟨↑Z,1,none⟩=some (.int .i64 (R.1.next:Int)):=X.z1 rfl;have q2:W5.cell? ⟨↑Z,2,none⟩=some (.slice a3 R.1.all.length c3):=X.z1 rfl;have k5:Af Z W5:=a4.O a5 kJ
     have O:=J (bA k5 (b1.Z k5 kI));clear k5)
   |(refine SQ (old:=Sd M a c rm sb cb) (vs:=[(R.1.win:Int),(R.1.next:Int),.slice a3 R.1.all.length c3]) rfl rfl rfl rfl O.o.2 (by show 3<=6;decide) Aq zc ?_;intro W6 b2 a7))
  go_ret2
  refine⟨by rw[a1.o];rfl,?_,a3,c3,?_⟩
  ·exact ((q.o.trans (K.o.1.trans O.o.1)).mono kZ).O a7 (λx _ e=>e)
  ·have b4:=a7.size
   have b5:=O.o.1.size;have b6:=q.o.size;have hv:=K.o.2.ext O.o.1;refine (H.o.turn (q.o.trans (K.o.1.trans O.o.1)) hv b2 a7 HP.o.D λz hz e=>?_) |>.mono λz hz=>?_
   ·have:=hz.1;omega
   ·exact .inr ⟨kL hz.1,kL hz.2⟩
 ·have e1:(R.2.2 != 0)=true:=by simpa using he
  have a1:=J he;clear he;go_wp2_with (first
   |(refine Di Cy rfl rfl ?_;intro W4 a2 a4)
   |(refine Bt (vs:=[(R.1.win:Int),(R.1.next:Int),.slice a3 R.1.all.length c3]) rfl rfl rfl rfl a2 rfl Aq zc ?_;intro W5 X a5))
  go_ret2;have k5:Af Z W5:=a4.O a5 kJ
  have hk:=q.o.trans (K.o.1.trans k5)
  obtain⟨g1,g2⟩:=V6 (M:=M) (x:=at') (by rw[<-HR.o];exact a1.o)
  rw[<-HR.o]at g1 g2
  refine⟨by rw[g2];rfl,hk.mono kZ,a,c,?_⟩
  rw[g1];exact (H.o.ext hk).mono λz hz=>.inl hz
end
section
open Go Go.RowKit
attribute [local go_sem] Oper.semAt_some
def XZ(W:vW)(b c:Nat):Prop:=∃ rv,W.cell? ⟨b,1,none⟩=some rv/\rv.ownBlock=some c
def RK(w W:vW):Prop:=(w:Nat)<=↑W/\∀ b,b<(w:Nat)->∀ c,XZ W b c->XZ w b c
theorem jR(h:W'.heap[b]?=W.heap[b]?):W'.cell? ⟨b,i,none⟩=W.cell? ⟨b,i,none⟩:=by unfold World.cell?;rw[h]
theorem RK.refl:RK w w:=⟨bO _,λ_ _ _ h=>h⟩
theorem RK.trans{a b c:vW}(h:RK a b)(k:RK b c):RK a c:=⟨bH h.1 k.1,λx e y r=>h.2 x e y (k.2 x (bE e h.1) y r)⟩
theorem RK.Z{w:vW}(h:RK w W)(k:Ad F W W')(hF:∀ b,F b->(w:Nat)<=b):RK w W':=⟨bH h.1 k.size,λb hb c r=>by
 obtain⟨q,e,A⟩:=r
 rw[jR (k.block b (bE hb h.1) λf=>kL (hF b f))]at e;exact h.2 b hb c ⟨q,e,A⟩⟩
theorem RK.ext{w:vW}(h:RK w W)(e:Af W W'):RK w W':=h.Z e (λ_ f=>f.elim)
theorem RK.put{w:vW}{es:Array MapEntry}(h:RK w W)(k:Ad (λz=>z=bm) W W')(hm:Ae W' bm (.map es ck)):RK w W':=⟨bH h.1 k.size,λb hb c r=>by
 obtain⟨A,q,H⟩:=r
 by_cases e:b=bm
 ·subst e
  unfold World.cell? at q;rw[show W'.heap[b]?=_ from hm]at q;cases q
 ·rw[jR (k.block b (bE hb h.1) e)]at q
  exact h.2 b hb c ⟨A,q,H⟩⟩
theorem RK.set{w:vW}(h:RK w W)(zb:Nat)(hf:f=2\/f=3)(v:vV):RK w (W.setCell ⟨zb,f,none⟩ v):=⟨by rw[fT];exact h.1,λb hb c r=>by
 obtain⟨A,q,H⟩:=r
 rw[World.cell?_setCell_other _ _ _ _ λe=>by have:=congrArg Addr.off e;rcases hf with rfl|rfl<;>cases this]at q;exact h.2 b hb c ⟨A,q,H⟩⟩
def FC(w W:vW)(G:vT):Prop:=∀ x∈G,∀ c,XZ W x.2.1 c->(w:Nat)<=c
theorem FC.rk{w:vW}(h:FC w W G)(hk:RK W W')(hl:∀ x∈G,x.2.1<(W:Nat)):FC w W' G:=λx e c r=>h x e c (hk.2 _ (hl x e) c r)
def RH(L:vM):Prop:=∀ t∈L,(∃ n,Hv t n)\/JI t
def jzY(w:vW)(bg:Nat)(L:vM)(iv:vV)(W:vW):Prop:=∃ i:Nat,i<=L.length/\iv=.int .i64 i/\(∀ t∈L.take i,∃ n,Hv t n)/\∃ G,FN w bg G (L.take i) W/\FC w W G
def AP(Q:Prop)(L:vM):Prop:=∀ t∈L,(∃ n,Hv t n)\/(JI t/\Q)
theorem d7(h:∀ t∈L,∃ n,Hv t n):AP False L:=λt e=>.inl (h t e)
def uG(Q:Prop)(w:vW)(L:vM)(e:Ending)(w':vW):Prop:=(e=.returned (.tuple #[.map none,.int .i64 2])/\Af w w'/\Q)\/((∀ t∈L,∃ n,Hv t n)/\∃ bg G,e=.returned (.tuple #[.map (some bg),qa])/\FN w bg G L w'/\FC w w' G)
theorem pC{P:vB->Prop}(h:∀ x∈L.take i,P x)(ht:L[i]?=some t)(hp:P t):∀ x∈L.take (i+1),P x:=λx e=>by
 rw[cB,ht]at e;rcases bR.1 e with e|e
 ·exact h x e
 ·have e:x∈[t]:=e
  rw[bG.1 e];exact hp
theorem t8(hc:Ha w)(hGE:Gh w)(v:vV)(L:vM)(hv:Ie w v L)(hl:L.length<=1000)(h0:L≠[])(Q:Prop)(hN:AP Q L):vQ 60 #[v] w (uG Q w L):=by
 have g3:0<L.length:=gG.2 h0
 obtain⟨a,c,rfl,_⟩:=hv.slice
 have f4:=J hv;have HC:=J hc;have HN:=J hN;have f5:=J hGE;have f6:=Jl w;clear hv hc hN h0 hGE;have g4:((L.length:Int) == 0)=false:=by simpa using (by omega:L.length≠0)
 unfold vQ;go_in;go_wp2_with fail
 obtain⟨bg,c2⟩:=vE w.heap.size
 have e0:=J c2;rw[<-c2];clear c2 f6;go_loopw [16] (λiv wr=>jzY w bg L iv wr) (λiv _=>L.length-(intOf iv).toNat)
 case atStart =>refine⟨0,cD _,rfl,λt ht=>(by cases ht),[],⟨(Aa w).alloc _,⟨⟨[],0,?_,Ib.nil 0⟩,by simp,λx q=>by cases q⟩,rfl,by rw[e0.o];exact bO _,λx q=>by cases q⟩,λx q=>by cases q⟩;rw[e0.o];exact Ae.new w _
 case round =>obtain⟨i,hi,rfl,b2,G,hS,e1⟩:=hrel;have c3:=J e1;clear e1;have b3:=J b2;have K:=J hS;clear hS b2;by_cases hlt:i<L.length;{have b1:(i:Int)<(L.length:Int):=vO;obtain⟨t,ht⟩:∃ t,L[i]?=some t:=⟨_,bB hlt⟩;obtain⟨ax,cx,hh,X⟩:=f4.o.slice;obtain⟨ba,oa,f7,c4⟩:=X i t ht;subst f7;cases hh;have q1:=Am c4 K.o.ext;rcases HN.o t (bD ht)with hnode|⟨hbad,hq⟩;(case inr =>have d5:=J hbad;have HQ:=J hq;obtain⟨n,hn⟩:=vE Cv;(have a7:=J (show n.refs.length=16 by rw[hn];rfl);have hg:=d5.o wr (f5.o.ext K.o.ext);unfold QM at hg;rw[<-hn]at hg;clear X c4 ht hbad hn hq;go_wp2_with fail);(refine hg.mono ?_;rintro e w4 ⟨rfl,hE⟩;have b8:=J (K.o.ext.trans hE);clear hE hg q1;unfold Ai.V;go_wp2_with (refine Di Ac rfl rfl ?_;intro W3 b9 c0;refine Bt (vs:=n.cells) rfl rfl rfl rfl b9 (by rw[n.z3 a7.o];rfl) (by rw[n.z3 a7.o];exact Ab) (Ai.one _) ?_;intro W4 c5 c1;have Z:Af w4 W4:=c0.O c1 kJ));go_ret2;exact .inl ⟨rfl,b8.o.trans Z,HQ.o⟩);have a2:=J (pC b3.o ht hnode);obtain⟨n0,e2⟩:=hnode;have e3:=Vm e2;have e4:=J (g8 ht);have e5:=J (show Fu t=⟨t,Gc (Bq t),0,0⟩from rfl);obtain⟨n,e6⟩:=vE (Bq t);rw[<-e6]at e3 e5;obtain⟨e7,g,hg⟩:=e3;(have HG:=J hg;have a7:=J ((hg.one (Bm g)).refs);have e8:=J e7;clear X e2 e6 e7 hg c4 ht;go_wp2_with fail);(rw[e8.o];refine vH (AJ (Bm g) wr n HG.o) λw4 b8=>?_;rw[<-e8.o];clear q1;unfold Ai.V;go_wp2_with (refine Di Ac rfl rfl ?_;intro W3 b9 c0;refine Bt (vs:=n.cells) rfl rfl rfl rfl b9 (by rw[n.z3 a7.o];rfl) (by rw[n.z3 a7.o];exact Ab) (Ai.one _) ?_;intro W4 c5 c1;have Z:Af w4 W4:=c0.O c1 kJ));have c7:=J (b8.o.trans Z);have e9:=J c5;clear b9 c0 c5 c1 Z b8;refine vH (Tr _ _ [t] (by simp) (BS W4 [t] 9) (HC.o.ext ((K.o.ext.trans c7.o).alloc _))) λw6 hE=>?_;rw[CX];have c9:=((Aa W4).alloc (.cells #[.string t] 9)).trans hE;have d0:=J (c7.o.trans c9);have f8:=J (e9.o.Z c9 kI);have A:=J (K.o.Z d0.o);have H:=A.o.at'.look (Aj t) false;have d1:=J (R6 (L:=G) (k:=ky t));have a9:Hid ((Aj t).data.toList=ky t):=rfl;have d2:=J (show Uq (G.map Nb) t=if (G.map Nb).any (λx=>decide (ky t=x.1))then G.map Nb else G.map Nb++[(ky t,Fu t)]from rfl);rw[a9.o]at H;simp only[cH,if_false]at H;obtain⟨sh,f0⟩:=vE (Aj t);rw[<-f0]at H a9 ⊢;obtain⟨kt,f1⟩:=vE (ky t);rw[<-f1]at H a9 d1 d2;clear c9 c7 e9 f0 f1;cases ha:Be G kt with| some x =>(rw[ha]at H;unfold Hp at H;simp only at H;have hz:Uq (G.map Nb) t=G.map Nb:=by rw[d2.o,d1.o,ha];rfl);(have HZ:=J hz;clear ha hz;go_wp2_with fail);go_roundw;(case rel =>exact⟨i+1,by omega,by go_num,a2.o,G,⟨A.o.ext,A.o.at',by rw[e4.o, <-A.o.is,HZ.o],A.o.new,A.o.news⟩,c3.o.rk ((RK.refl _).ext d0.o) λx q=>(K.o.at'.items x q).lt⟩);case measure=>exact vJ| none =>(rw[ha]at H;unfold Hp at H;simp only at H;have hz:Uq (G.map Nb) t=G.map Nb++[(kt,Fu t)]:=by rw[d2.o,d1.o,ha];rfl);(have HZ:=J hz;have HA:=J ha;have a5:=Ka w6 _ n a7.o f8.o;unfold Ai.V at a5;clear ha hz;go_wp2_with (refine Gz 215 (.tmp 7) rfl rfl _ _ rfl a5 ?_));refine (mZ g n HG.o w6).mono ?_;rintro e O ⟨v8,rfl,b0,d6⟩;have d3:=b0.ext;have a3:=b0.new;have b4:=b0.own;obtain⟨a8,c8,rfl⟩:=b0.sl;(have S8:=A.o.Z d3;have f2:=S8.at'.ext ((Aa O).alloc (.cells #[.string t,.slice a8 (Gc n).length c8,qa,qa] 135));have d4:=Ae.new O (.cells #[.string t,.slice a8 (Gc n).length c8,qa,qa] 135);have f3:Xv (O.alloc (.cells #[.string t,.slice a8 (Gc n).length c8,qa,qa] 135)) O (Fu t):=by rw[e5.o];exact⟨_,d4,Kh b4 ((Aa O).alloc _)⟩);obtain⟨ob,g5,a0⟩:=f2.put sh (by rw[a9.o];exact HA.o) f3 (λx q e=>kL ((S8.at'.items x q).lt));(rw[a9.o]at a0;have b5:Af w ((O.alloc (.cells #[.string t,.slice a8 (Gc n).length c8,qa,qa] 135)).putObj bg ob):=(S8.ext.alloc _).putObj (.inr S8.new) _;have d7:=S8.ext.size;have b6:RK wr O:=((RK.refl _).ext d0.o).ext d3;have a1:∃ es ck,Ae ((O.alloc (.cells #[.string t,.slice a8 (Gc n).length c8,qa,qa] 135)).putObj bg ob) bg (.map es ck):=by obtain⟨es,ck,h1,_⟩:=a0.mp;exact⟨_,ck,h1⟩);obtain⟨g6,g7,a1⟩:=a1;have a4:=(b6.ext ((Aa O).alloc (.cells #[.string t,.slice a8 (Gc n).length c8,qa,qa] 135))).put (Ad.z7 _ bg ob) a1;have b7:=J (show FC w ((O.alloc (.cells #[.string t,.slice a8 (Gc n).length c8,qa,qa] 135)).putObj bg ob) (G++[(kt,O.heap.size,Fu t)])from λx q c r=>by rcases bR.1 q with q|q;{exact c3.o.rk a4 (λx q=>(K.o.at'.items x q).lt) x q c r};rw[bG.1 q]at r;obtain⟨rv,r1,r2⟩:=r;(have f9:O.heap.size≠bg:=λe=>by obtain⟨_,_,h1,_⟩:=S8.at'.mp;have:=h1.lt;omega);have hq:((O.alloc (.cells #[.string t,.slice a8 (Gc n).length c8,qa,qa] 135)).putObj bg ob).cell? ⟨O.heap.size,1,none⟩=some (.slice a8 (Gc n).length c8):=(d4.Z (Ad.z7 _ bg ob) f9).cell (i:=1) vF;have r1:_=some rv:=r1;rw[hq]at r1;have e:=bV r1;rw[<-e]at r2;have:=a3 c r2;have:=A.o.ext.size;omega);(have d8:=J b5;have d9:=J a0;have g0:Hid (w.heap.size<=O.heap.size):=S8.ext.size;clear b6 a1 a4 d7 b5 a0 f3 d4 f2 S8 b4 a3 d3 b0 d6 a5 H;go_wp2_with fail);go_roundw;(case rel =>refine⟨i+1,by omega,by go_num,a2.o,G++[(kt,O.heap.size,Fu t)],⟨d8.o,d9.o,?_,A.o.new,?_⟩,b7.o⟩;{rw[e4.o, <-A.o.is,HZ.o,bW];rfl};intro x q;rcases bR.1 q with q|q;{exact A.o.news x q};simp only[bG]at q;subst q;exact g0.o);case measure=>exact vJ};have g2:i=L.length:=vO;(subst g2;have HS:=J (show FN w bg G L wr by have:=K.o;rwa [cF]at this);clear K;go_wp2_with fail);go_ret2;exact .inr ⟨by have h:=b3.o;rwa [cF]at h,bg,G,rfl,HS.o,c3.o⟩
def Yb(S G:vT)(M:vM)(x:vB):Bool:=Jr (Hg M) x ||(Be S x.data.toList).isSome ||(Be G x.data.toList).isSome
theorem nP(w0:vW)(s bm:Nat)(room:Int)(S G:vT)(bg b:Nat)(h:Ev w0 s bm room S)(hG:Lw w0 bg G)(W:vW)(M:vM)(hM:Qw w0 s S bg b M W)(x:vB)(hl:M.length<=1000000):vQ 116 #[x,(b+4:),b,(b+2:),(b+1:)] W λe w'=>e=.returned (Yb S G M x)/\Qw w0 s S bg b (M++[x]) w':=by
 obtain⟨es,ck,h5,h6⟩:=hM.tab
 obtain⟨v,n,h1,h2,h3,h4⟩:=hM.var
 obtain⟨ad,cp,rfl⟩:=Ir h2
 obtain⟨cn,b0⟩:=vE (Fc M x)
 have f3:cn<=1000000:=by rw[b0];unfold Fc;refine bH jL ?_;rw[bT];exact hl
 have e6:=h6 x;rw[<-b0]at e6;have d4:(Instr.lookup 126 (.map (some (b+3))) x false).run prog W=.ok (cn:Int) W:=by have:=Wx Al Bf h5 (Cz W) x.data.toList false;rw[e6]at this;unfold Kf at this;by_cases h0:cn=0;{rw[if_pos h0]at this;rw[h0];exact this};rw[if_neg h0]at this;exact this
 obtain⟨Gb,a0⟩:=vE (Iv es x.data.toList (.int .i64 ((cn:Int)+1)) ck)
 obtain⟨b6,b2⟩:=vE (if (Cp es x.data.toList).isSome then ck else ck+1)
 obtain⟨A,b7⟩:=vE (W.putObj (b+3) (.map (Al.arr Gb) b6))
 have d5:(Instr.mapUpdate 126 (.map (some (b+3))) x (.int .i64 ((cn:Int)+1))).run prog W=.ok () A:=by have:=Yq Al Bf h5 x.data.toList (.int .i64 ((cn:Int)+1));rw[<-a0, <-b2, <-b7]at this;exact this
 have B2:Ae A (b+3) (.map (Al.arr Gb) b6):=by rw[b7];exact h5.put_same _
 have e7:∀ y:vB,Cp Gb y.data.toList=Kf (Fc (M++[x]) y):=λy=>by rw[a0,EF,h6 y,m5];by_cases hxy:y.data.toList=x.data.toList;{have e5:y=x:=ByteArray.ext (Array.ext' hxy);subst e5;rw[if_pos rfl,if_pos rfl, <-b0];unfold Kf;rw[if_neg vO];simp};rw[if_neg hxy,if_neg λe=>hxy e.symm];rfl
 have b3:(Instr.lookup 126 (.map (some (b+3))) x false).run prog A=.ok (.int .i64 ((cn:Int)+1)) A:=by have:=Wx Al Bf B2 (Cz A) x.data.toList false;rw[a0,EF,if_pos rfl]at this;exact this
 have K2:Ad (λz=>z=b+3) W A:=by rw[b7];exact Ad.z7 _ _ _
 have q9:W.cell? (b+4:)=some (.map (some (b+3))):=hM.c9.cell (i:=0) vF;have E2:Af w0 A:=hM.ext.O K2 (λy hy e=>by have e:y=_:=e;have:=hM.lo;omega);have C9:=hM.c9.Z K2 vO;have f4:A.cell? (b+4:)=some (.map (some (b+3))):=C9.cell (i:=0) vF;have C3:=hM.c3.Z K2 vO;have f5:A.cell? b=some (.pointer (some s)):=C3.cell (i:=0) vF;have C5:=hM.c5.Z K2 vO;have V2:=h1.Z K2 vO;have O2:=Lb h2 K2 (λz X e=>by have:=h4 z X;have e:z=_:=e;omega);have f6:A.cell? (b+2:)=some (.slice ad n cp):=V2.cell (i:=0) vF;have qs:=(h.st.Z E2 kI).cell (i:=1) (v:=.map (some bm)) vF;have H:=(h.mp.ext E2).look x false;simp only[cH,if_false]at H;have a5:=J (show Jr (Hg M) x=true↔cn≠0 from by rw[GU,Ql,b0];unfold Fc;rw[<-Nat.pos_iff_ne_zero,gB,bC];exact⟨λhm=>⟨x,hm,rfl⟩,λ⟨y,hy,e⟩=>by rw[<-show y=x from ByteArray.ext (Array.ext' e)];exact hy⟩)
 have c0:=J (oM S M x);have b4:=J (show ∃ es ck,Ae A (b+3) (.map (Al.arr es) ck)/\∀ y:vB,Cp es y.data.toList=Kf (Fc (M++[x]) y)from⟨Gb,b6,B2,e7⟩);have d6:Hid (∀ W3:vW,Af w0 W3->Lw W3 bg G):=λ_ e=>hG.ext e
 obtain⟨ok,q⟩:=vE (Yb S G M x)
 rw[<-q];have a7:=J q;clear q;have f7:=J K2;have d7:=J C3;have d8:=J C5;have b8:=J C9;have b9:=J V2;have d9:=J O2;have e0:=J E2;have H4:=J h4;have H3:=J h3;have a8:=J hM.lo;have b5:Hid (Da S (M++[x])=Da S M->Qw w0 s S bg b (M++[x]) A):=(λe=>⟨E2,hM.lo,C3,C5,C9,⟨Gb,b6,B2,e7⟩,_,n,V2,by rw[e];exact O2,by rw[bK];omega,h4⟩);clear hM h h1 h2 h4 h5 h6 b0 e6 a0 b2 b7 B2 e7 K2 C3 C5 C9 V2 O2 E2 hG
 by_cases hc0:cn=0
 ·subst hc0;(have e1:Jr (Hg M) x=false:=by cases hm:Jr (Hg M) x with| false=>rfl| true=>exact absurd rfl (a5.o.1 hm));have c1:=J e1;have f1:(Instr.lookup 126 (.map (some (b+3))) x false).run prog W=.ok qa W:=d4;have f2:(Instr.mapUpdate 126 (.map (some (b+3))) x (.int .i64 1)).run prog W=.ok () A:=d5;have e4:(Instr.lookup 126 (.map (some (b+3))) x false).run prog A=.ok (.int .i64 1) A:=b3;clear e1 d4 d5 b3;cases hs:Be S x.data.toList with| some y =>(rw[hs]at H;unfold Hp at H;simp only at H;have a9:=J (show Da S (M++[x])=Da S M by rw[c0.o,c1.o,hs];rfl);have q:ok=true:=by rw[a7.o];unfold Yb;rw[hs];simp);(subst q;clear hs a7;unfold vQ;go_in;go_wp2);go_ret;exact⟨rfl,b5.o a9.o⟩| none =>(rw[hs]at H;unfold Hp at H;simp only at H;have a9:=J (show Da S (M++[x])=Da S M++[x] by rw[c0.o,c1.o,hs];rfl);have q:ok=(Be G x.data.toList).isSome:=by rw[a7.o];unfold Yb;rw[hs,c1.o];simp);(have a1:=J q;clear hs a7 q;have e2:n+1<=maxLen:=by have:=H3.o;unfold maxLen;omega);have e3:(n+1)*16<=140737488355328:=kL H3.o;cases hyg:Be G x.data.toList with| some yg =>((have c2:=J hyg;have q:ok=true:=by rw[a1.o,hyg];rfl);subst q;clear hyg a1;unfold vQ;go_in;obtain⟨i0,hi,c4,c7,c8⟩:=info_parts Bn;(go_wp2_with (at_builtin;refine FR _ rfl (.tmp 24) (.tmp 26) 51 rfl 9 i0 _ 1 16 Bg hi c4 c7 c8 rfl vI (.slice ad n cp) n _ rfl (Kh d9.o ((Aa A).alloc _)) A 1 1 [x] rfl rfl (Jx (Ae.new A _)) zc e2 e3 ?_;intro v' Z r1 r2 O;obtain⟨a2,a3,rfl⟩:=Ir r1;have K6:Ad (λz=>(Value.slice ad n cp).ownBlock=some z) A Z:=((Ad.refl _ A).alloc _).trans r2;have nO:∀ z,z<b+5->¬(Value.slice ad n cp).ownBlock=some z:=(λz X e=>kL (H4.o z e));have a4:=b9.o.Z K6 (nO _ vO);have e8:Z.cell? (b+2:)=some (.slice ad n cp):=a4.cell (i:=0) vF;have e9:Z.frozen? (b+2:)=false:=a4.frozen;have K7:Ad (λz=>z=b+2) Z (Z.setCell (b+2:) (.slice a2 (n+1) a3)):=Ad.z4 Z (b+2:) _;have b1:=(d8.o.Z K6 (nO _ vO)).Z K7 vO;have f0:=b1.cell (i:=0) (v:=.map (some bg)) vF;have E7:Af w0 (Z.setCell (b+2:) (.slice a2 (n+1) a3)):=(e0.o.O K6 λy hy e=>by have:=H4.o y e;have:=a8.o;omega).O K7 (λy hy e=>by have e:y=_:=e;have:=a8.o;omega);have K:=(d6.o _ E7).look x false;rw[c2.o]at K;unfold Hp at K;simp only[cH,if_false]at K));go_ret;refine⟨rfl,E7,a8.o,(d7.o.Z K6 (nO _ vO)).Z K7 vO,b1,(b8.o.Z K6 (nO _ vO)).Z K7 vO,?_,.slice a2 (n+1) a3,n+1,a4.z2 (i:=0) _,?_,?_,?_⟩;{obtain⟨d0,d1,d2,d3⟩:=b4.o;exact⟨d0,d1,(d2.Z K6 (nO _ vO)).Z K7 vO,d3⟩};{rw[a9.o,bW];refine Lb r1 K7 (λz X e=>?_);rcases O with O|O;{have:=H4.o z (O ▸ X);omega};have h9:=O z X;rw[bJ]at h9;have:=b9.o.lt;omega};{have:=H3.o;rw[bK];exact Nat.succ_le_succ this};intro z X;rcases O with O|O;{exact H4.o z (O ▸ X)};have h9:=O z X;rw[bJ]at h9;have:=b8.o.lt;omega)| none =>(have c2:=J hyg;have q:ok=false:=by rw[a1.o,hyg];rfl);subst q;clear hyg a1;unfold vQ;go_in;obtain⟨i0,hi,c4,c7,c8⟩:=info_parts Bn;(go_wp2_with (at_builtin;refine FR _ rfl (.tmp 24) (.tmp 26) 51 rfl 9 i0 _ 1 16 Bg hi c4 c7 c8 rfl vI (.slice ad n cp) n _ rfl (Kh d9.o ((Aa A).alloc _)) A 1 1 [x] rfl rfl (Jx (Ae.new A _)) zc e2 e3 ?_;intro v' Z r1 r2 O;obtain⟨a2,a3,rfl⟩:=Ir r1;have K6:Ad (λz=>(Value.slice ad n cp).ownBlock=some z) A Z:=((Ad.refl _ A).alloc _).trans r2;have nO:∀ z,z<b+5->¬(Value.slice ad n cp).ownBlock=some z:=(λz X e=>kL (H4.o z e));have a4:=b9.o.Z K6 (nO _ vO);have e8:Z.cell? (b+2:)=some (.slice ad n cp):=a4.cell (i:=0) vF;have e9:Z.frozen? (b+2:)=false:=a4.frozen;have K7:Ad (λz=>z=b+2) Z (Z.setCell (b+2:) (.slice a2 (n+1) a3)):=Ad.z4 Z (b+2:) _;have b1:=(d8.o.Z K6 (nO _ vO)).Z K7 vO;have f0:=b1.cell (i:=0) (v:=.map (some bg)) vF;have E7:Af w0 (Z.setCell (b+2:) (.slice a2 (n+1) a3)):=(e0.o.O K6 λy hy e=>by have:=H4.o y e;have:=a8.o;omega).O K7 (λy hy e=>by have e:y=_:=e;have:=a8.o;omega);have K:=(d6.o _ E7).look x false;rw[c2.o]at K;unfold Hp at K;simp only[cH,if_false]at K));go_ret;refine⟨rfl,E7,a8.o,(d7.o.Z K6 (nO _ vO)).Z K7 vO,b1,(b8.o.Z K6 (nO _ vO)).Z K7 vO,?_,.slice a2 (n+1) a3,n+1,a4.z2 (i:=0) _,?_,?_,?_⟩;{obtain⟨d0,d1,d2,d3⟩:=b4.o;exact⟨d0,d1,(d2.Z K6 (nO _ vO)).Z K7 vO,d3⟩};{rw[a9.o,bW];refine Lb r1 K7 (λz X e=>?_);rcases O with O|O;{have:=H4.o z (O ▸ X);omega};have h9:=O z X;rw[bJ]at h9;have:=b9.o.lt;omega};{have:=H3.o;rw[bK];exact Nat.succ_le_succ this};intro z X;rcases O with O|O;{exact H4.o z (O ▸ X)};have h9:=O z X;rw[bJ]at h9;have:=b8.o.lt;omega
 ·have f8:¬((cn:Int)+1<=1):=vO;(have a9:=J (show Da S (M++[x])=Da S M by rw[c0.o,a5.o.2 hc0];rfl);have q:ok=true:=by rw[a7.o];unfold Yb;rw[a5.o.2 hc0];simp);(subst q;clear a7;unfold vQ;go_in;go_wp2);go_ret;exact⟨rfl,b5.o a9.o⟩
structure Yi(G:vT):Prop where
 few:G.length<=1000
 refs:∀ y∈G,y.2.2.refs.length<=16
def Rm(S G:vT)(x:vB):Prop:=(Be S x.data.toList).isSome=true\/(Be G x.data.toList).isSome=true
structure Sh(S G:vT)(root:vB)(M:vM)(i:Nat):Prop where
 is:M=root ::((Da S M).take i).flatMap (Ik G)
 le:i<=(Da S M).length
 inG:∀ x∈M,Rm S G x
theorem TM{G:vT}(h:Yi G):∀ l:vM,(l.flatMap (Ik G)).length<=16*l.length
 |[]=>by simp
 |x::r=>by
  have e:=TM h r
  have:(Ik G x).length<=16:=by
   unfold Ik;split
   ·rename_i y hy;exact h.refs y (Fd hy).1
   ·simp
  rw[dJ,bK,bQ];omega
theorem Sh.len{M:vM}(h:Sh S G root M i)(hs:Yi G):M.length<=1+16*i:=by
 have:=TM hs ((Da S M).take i)
 rw[cR]at this;have e:=congrArg List.length h.is;rw[bQ]at e;omega
theorem Sh.at'{M:vM}(h:Sh S G root M i){x:vB}(hx:x∈Da S M):(Be G x.data.toList).isSome=true:=by
 have e:=EO.1 hx;rcases h.inG x e.1 with h|h
 ·rw[e.2]at h;cases h
 ·exact h
theorem KU{M:vM}(h:∀ x∈Da S M,(Be G x.data.toList).isSome=true):(Da S M).length<=G.length:=by
 have A:((Da S M).map λx=>x.data.toList).Nodup:=by have:=jlW S M;generalize Da S M=l at this;induction l with| nil=>simp| cons z r ih =>rw[dL]at this;rw[bP,dL];exact⟨λH=>by obtain⟨y,q,e⟩:=bC.1 H;exact this.1 (VW e ▸ q),ih this.2⟩
 have:=iO A (l₂:=G.map (·.1)) (λk K=>by obtain⟨x,O,e⟩:=bC.1 K;obtain⟨y,q⟩:=cW.1 (h x O);exact bC.2 ⟨y,(Fd q).1,by rw[(Fd q).2,e]⟩)
 simpa using this
theorem Sh.step{M:vM}(h:Sh S G root M i){x:vB}(hx:(Da S M)[i]?=some x)(hr:∀ r∈Ik G x,Rm S G r):Sh S G root (M++Ik G x) (i+1):=by
 obtain⟨X,A⟩:=oL S M (Ik G x)
 have H:i<(Da S M).length:=(bI.1 hx).1
 refine⟨?_,?_,?_⟩
 ·(have e:(Da S (M++Ik G x)).take (i+1)=(Da S M).take i++[x]:=by rw[A,List.take_append_of_le_length vO,cB,hx];rfl);rw[e,dS];have:=h.is;generalize Da S M=l at this;rw[this];simp
 ·rw[A,bK];omega
 ·intro y q;rcases bR.1 q with q|q;{exact h.inG y q};exact hr y q
theorem uP{M:vM}{x:vB}(h:Yb S G M x=true)(hM:∀ y∈M,Rm S G y):Rm S G x:=by
 unfold Yb at h;simp only[Bool.or_eq_true]at h;rcases h with (h|h)|h
 ·exact hM x ((Ql _ _).1 ((GU _ _).1 h))
 ·exact .inl h
 ·exact .inr h
theorem V1{M:vM}{x:vB}(h:Yb S G M x=false):¬ Rm S G x:=by
 unfold Yb at h;simp only[gT]at h;rintro (e|e)
 ·rw[h.1.2]at e;cases e
 ·rw[h.2]at e;cases e
def Y9(w0:vW)(s:Nat)(S G:vT)(bg b:Nat)(root:vB)(wv iv:vV)(W:vW):Prop:=wv=.bool true/\∃ (i:Nat) (M:vM),iv=.int .i64 i/\Sh S G root M i/\Qw w0 s S bg b M W
def Q7(w0:vW)(s:Nat)(S G:vT)(bg b:Nat)(M R:vM)(wv jv:vV)(W:vW):Prop:=wv=.bool true/\∃ j:Nat,jv=.int .i64 j/\j<=R.length/\Qw w0 s S bg b (M++R.take j) W/\∀ r∈R.take j,Rm S G r
def uH(w0:vW)(S G:vT)(root:vB)(e:Ending)(w':vW):Prop:=(e=.returned (.tuple #[qe,.int .i64 2])/\Af w0 w'/\∃ x r,r∈Ik G x/\¬ Rm S G r)\/∃ v n M,e=.returned (.tuple #[v,qa])/\Sh S G root M (Da S M).length/\Cg w0 w' v n (Da S M)
theorem l5(w0:vW)(s bm:Nat)(room:Int)(S G:vT)(bg:Nat)(h:Ev w0 s bm room S)(hG:Lw w0 bg G)(hs:Yi G)(root:vB)(hr:(Be G root.data.toList).isSome=true):vQ 61 #[s,root,.map (some bg)] w0 (uH w0 S G root):=by
 have HS:=J h;have HG:=J hG;have a3:=J hs;have HR:=J hr;have c8:=Ef;clear h hG hs hr;unfold vQ;go_in;go_wp2_with fail
 go_step3;go_wp2_with fail
 refine vC (nP w0 s bm room S G bg w0 HS.o HG.o _ [] (p5 w0 s S bg) root (by simp)) λw5 K=>?_;rw[show Yb S G [] root=true by unfold Yb;rw[HR.o];simp];have HM:=J K;clear K c8
 obtain⟨b,hb⟩:=vE w0.heap.size
 rw[show (w0:Nat)+1+1+1+1=↑w0+4 from rfl,show (w0:Nat)+1+1+1=↑w0+3 from rfl,show (w0:Nat)+1+1=↑w0+2 from rfl];rw[<-hb]at HM ⊢;clear hb;go_wp2_with fail
 go_step3;go_wp2
 go_loopw [11,12] (λwv iv wr=>Y9 w0 s S G bg b root wv iv wr) (λ_ iv _=>1001-(intOf iv).toNat)
 case atStart =>refine⟨rfl,0,[root],rfl,⟨by simp,cD _,λx e=>by simp at e;subst e;exact .inr HR.o⟩,HM.o⟩
 case round =>obtain⟨rfl,i,M,rfl,hP,K⟩:=hrel;obtain⟨v,n,A,h2,h3,h4⟩:=K.var;obtain⟨ad,cp,rfl⟩:=Ir h2;(have hn:(Da S M).length=n:=by have:=h2.1;simpa using this);have b4:=KU (S:=S) (M:=M) (λx e=>hP.at' e);have e0:=a3.o.few;have q8:=A.cell (i:=0) (v:=.slice ad n cp) vF;have a0:=hP.le;by_cases hlt:i<n;{have b1:(i:Int)<(n:Int):=vO;obtain⟨x,e⟩:∃ x,(Da S M)[i]?=some x:=⟨_,bB vO⟩;obtain⟨ax,cx,hh,O⟩:=(EW h2).slice;obtain⟨ba,oa,c9,b5⟩:=O i x e;subst c9;cases hh;obtain⟨y,X⟩:=cW.1 (hP.at' (bD e));have hI:=HG.o.items y (Fd X).1;have a4:=NC X;have d0:=a3.o.refs y (Fd X).1;obtain⟨rv,b6,a5⟩:=hI.cells;obtain⟨ar,cr,rfl⟩:=Ir a5;obtain⟨R,hR⟩:=vE y.2.2.refs;have Q5:=J (K.c5.cell (i:=0) (v:=.map (some bg)) vF);have Q8:=J q8;have QA:=J b5;have QR:=J ((b6.Z K.ext kI).cell (i:=1) (v:=.slice ar y.2.2.refs.length cr) vF);have b7:=J (HG.o.ext K.ext);have HY:=J X;have b8:=J (λhr=>hP.step e hr);have d1:=J hP.inG;have d2:=J (hP.len a3.o);have b9:=J (EW a5);have c0:=J K;rw[a4, <-hR]at b8;rw[<-hR]at QR b9 d0;have d3:=J (show R=Ik G x by rw[hR,a4]);have b3:i<=1000:=vO;obtain⟨yb,a7⟩:=vE y.2.1;(rw[<-a7]at QR;have d4:=J a7;clear a4 hR a7 a5 b6 hI X e O b5 A h2 hP K hn b4 a0;go_wp2_with fail);(refine Hs [0,1,2,3,4,5,6,7,8,9,10] Af Aa Ap vY vY vY ?_;refine Db (b+1:) _ rfl (λw1 A=>Bv underlying123 rfl (Am Q5.o ((Ao _).trans A))) (vS ?_);refine Db (b+2:) _ rfl (λw1 A=>Bv underlying51 rfl (Am Q8.o ((Ao _).trans A))) (vS ?_);iterate 2 refine vK ?_);refine Db ⟨ba,oa+i,none⟩ _ rfl (λw1 A=>Bv underlying9 rfl (Am QA.o ((Ao _).trans A))) (vS ?_);refine Jf _ yb rfl (λw1 A=>by have e:=(b7.o.ext ((Ao _).trans A)).look x false;rw[HY.o]at e;unfold Hp at e;simp only[cH,if_false]at e;rw[<-d4.o]at e;simp[execOp,Act.eval,e,bS,Result.andThen,cT]) ?_;refine vS ?_;refine Jf _ yb rfl zh (vS ?_);refine vK ?_;(refine Db ⟨yb,1,none⟩ _ rfl (λw1 A=>Bv underlying51 rfl (Am QR.o ((Ao _).trans A))) (vS ?_);iterate 2 refine vK ?_);(refine Hi (λw3 he=>?_);have d5:=J (c0.o.Z ((Ao _).trans he));clear he c0 Q5 Q8 QA QR b7 HY q8;go_wp2);(go_loopw [11,36] (λwv jv d6=>Q7 w0 s S G bg b M R wv jv d6) (λ_ jv _=>R.length-(intOf jv).toNat));(case atStart=>exact⟨rfl,0,rfl,cD _,by rw[iG,cC];exact d5.o,λr hr=>by cases hr⟩);case round =>obtain⟨rfl,j,rfl,hj,H,c1⟩:=hrel;have Z:=J c1;clear c1;by_cases hlt2:j<R.length;{have b2:(j:Int)<(R.length:Int):=vO;obtain⟨z,hz⟩:∃ z,R[j]?=some z:=⟨_,bB hlt2⟩;obtain⟨e1,e2,d7,q⟩:=b9.o.slice;obtain⟨e3,e4,b0,a1⟩:=q j z hz;(subst b0;cases d7;have q2:=Am a1 H.ext;have c2:=J hz;have HT:=J (show M++R.take (j+1)=M++R.take j++[z] by rw[cB,hz, <-bZ];rfl);have HL:=J (show (M++R.take j).length<=1000000 by have:=d2.o;rw[bK,cR];omega);have c3:=J H;clear q a1 H hz;go_wp2_with fail);refine vC (nP w0 s bm room S G bg b HS.o HG.o _ _ c3.o z HL.o) λw9 a8=>?_;rw[<-HT.o]at a8;have a2:=J a8;obtain⟨ok,a9⟩:=vE (Yb S G (M++R.take j) z);rw[<-a9];have c4:=J a9;clear a8 c3 q2 a9;cases ok with| false =>(go_wp2);go_ret2;exact .inl ⟨rfl,a2.o.ext,x,z,by rw[<-d3.o];exact bD c2.o,V1 c4.o.symm⟩| true =>(go_wp2);go_roundw;(case rel =>refine⟨rfl,j+1,by go_num,by omega,a2.o,pC Z.o c2.o (uP c4.o.symm λy X=>?_)⟩;rcases bR.1 X with X|X;{exact d1.o y X};exact Z.o y X);case measure=>exact vJ};have d8:j=R.length:=vO;(subst d8;rw[cF]at H;have a2:=J H;clear H;go_wp2);go_roundw;(case rel=>exact⟨rfl,i+1,M++R,by go_num,b8.o (by have h:=Z.o;rwa [cF]at h),a2.o⟩);case measure=>exact vJ};have c7:i=(Da S M).length:=vO;have HP:=J (show Sh S G root M (Da S M).length by rw[<-c7];exact hP);have d9:=J (show Cg w0 wr (.slice ad n cp) n (Da S M)from⟨⟨_,_,rfl⟩,h2,K.ext,λz hz=>by have:=h4 z hz;have:=K.lo;omega⟩);have b1:¬(i:Int)<(n:Int):=vO;(clear c7 hP K A h2 h4 hn b4 a0;go_wp2);go_ret2;exact .inr ⟨.slice ad n cp,n,M,rfl,HP.o,d9.o⟩
theorem TP(h:G.map Nb=Cm L)(hL:∀ t∈L,∃ n,Hv t n)(hl:L.length<=1000):Yi G:=by
 refine⟨?_,λy q=>?_⟩
 ·have:=(GC L).2.2;rw[<-h,bT]at this;exact bH this hl
 ·obtain⟨t,A,_,e⟩:=Xp h q;rw[e];obtain⟨n,H⟩:=hL t A;exact c0 (Vm H)
theorem LM{M:vM}(h:Sh S G root M i)(hr:r∈M):(Be (S++Lj G (Da S M)) r.data.toList).isSome=true:=by
 rw[wT];cases hs:Be S r.data.toList with
 |some y=>rfl
 |none =>obtain⟨y,e⟩:=cW.1 (h.at' (EO.2 ⟨hr,hs⟩));have q:y∈Lj G (Da S M):=List.mem_filterMap.2 ⟨r,EO.2 ⟨hr,hs⟩,e⟩;cases hp:Be (Lj G (Da S M)) r.data.toList with| some z=>rfl| none=>exact absurd (Fd e).2.symm (EJ.1 hp y q)
structure Mb(w:World)(s bm:Nat)(room:Int)(S:vT)(L:vM)(top:vB)(G:vT)(M:vM)(e:Ending)(w':World):Prop where
 given:G.map Nb=Cm L
 nodes:∀ t∈L,∃ n,Hv t n
 news:∀ y∈G,(w:Nat)<=y.2.1
 path:Sh S G (Aj top) M (Da S M).length
 fits:¬ room-S.length<(Da S M).length
 res:e=.returned (.tuple #[Aj top,qa])
 st:Ev w' s bm room (Zi (Aj top).data.toList (Qe ((Da S M).flatMap (Ik G)) (S++Lj G (Da S M))))
 kp:Ad (λz=>z=bm\/z∈S.map (·.2.1)) w w'
 rk:RK w w'
 rows:FC w w' G
def XD(Q:Prop)(room:Int)(S:vT)(L:vM)(k:Int):Prop:=(k=2/\Q)\/(k=2/\∃ G,G.map Nb=Cm L/\∃ x r,r∈Ik G x/\¬ Rm S G r)\/(k=3/\∃ top G M,L[0]?=some top/\G.map Nb=Cm L/\Sh S G (Aj top) M (Da S M).length/\room-S.length<(Da S M).length)
def PM(Q:Prop)(w:vW)(s bm:Nat)(room:Int)(S:vT)(L:vM)(e:Ending)(w':vW):Prop:=(∃ k:Int,XD Q room S L k/\k≠0/\e=.returned (.tuple #[(),.int .i64 k])/\Af w w')\/∃ top G M,L[0]?=some top/\Mb w s bm room S L top G M e w'
theorem pM(hc:Ha w)(hGE:Gh w)(s bm:Nat)(room:Int)(S:vT)(h:Ev w s bm room S)(v:vV)(L:vM)(hv:Ie w v L)(Q:Prop)(hL:AP Q L)(hll:L.length<=1000)(top:vB)(htop:L[0]?=some top)(hr0:0<=room)(hr1:room<=9223372036854775807)(hS:S.length<=100000)(hSu:∀ x∈S,0<=x.2.2.used/\x.2.2.used<=1000000000)(hSh:∀ x∈S,0<=x.2.2.held/\x.2.2.held<=1000000000):vQ 27 #[s,v] w (PM Q w s bm room S L):=by
 have h0:L≠[]:=λe=>by subst e;cases htop
 have k4:0<L.length:=gG.2 h0
 obtain⟨a,c,rfl,_⟩:=hv.slice
 have HR:=J (t8 w hc hGE _ L hv hll h0 Q hL);have HC:=J hc;have HV:=J hv;have HS:=J h;have Z:=J htop;have h4:=J hSu;have d6:=J hSh;clear hc h hv hL htop h0 hSu hSh;unfold vQ;go_in;go_wp2_with fail
 refine HR.o.mono ?_;rintro e w1 (⟨rfl,hE,hq⟩|⟨a1,bg,G,rfl,hG,e5⟩)
 ·have HE:=J hE;(have HQ:=J hq;clear hE HR hq;go_wp2);go_ret2;exact .inl ⟨2,.inl ⟨rfl,HQ.o⟩,by decide,rfl,HE.o⟩
 have b6:=J a1;have h5:=J e5;have h6:Hid (∀ x∈G,x.2.1<(w1:Nat)):=λx q=>(hG.at'.items x q).lt;have h7:=J hG.ext;clear a1 e5
 obtain⟨ax,cx,hh,A⟩:=HV.o.slice
 obtain⟨ba,oa,a9,b0⟩:=A 0 top Z.o
 subst a9;cases hh;have q1:=Am b0 hG.ext;have HG:=J hG;rw[gJ]at q1;clear A b0 hG HR;go_wp2_with fail
 refine vH (Tr _ _ [top] (by simp) (BS w1 [top] 9) (HC.o.ext (HG.o.ext.alloc _))) λw2 hE=>?_;rw[CX];have d1:=((Aa w1).alloc (.cells #[top] 9)).trans hE;have H:=J (HG.o.Z d1);have h8:=J d1
 obtain⟨rt,c1⟩:=vE (Aj top)
 have c2:=J c1;have h9:=J (show (Be G rt.data.toList).isSome=true by rw[c1];exact jl0 HG.o.is (bD Z.o));rw[<-c1];clear d1 c1 q1;go_wp2_with fail
 have c3:=J (TP H.o.is b6.o hll);have e6:=J (HS.o.ext H.o.ext);refine (l5 w2 s bm room S G bg e6.o H.o.at' c3.o rt h9.o).mono ?_;rintro e w3 (⟨rfl,hE,e7⟩|⟨v3,n,M,rfl,hP,hF⟩)
 ·have HE:=J (H.o.ext.trans hE);(have i0:=J e7;clear hE e7;go_wp2);go_ret2;exact .inl ⟨2,.inr (.inl ⟨rfl,G,H.o.is,i0.o⟩),by decide,rfl,HE.o⟩
 have d7:=KU (S:=S) (M:=M) (λx q=>hP.at' q);have k5:=c3.o.few;have hn:(Da S M).length=n:=by have:=hF.len;simpa using this
 obtain⟨ad,cp,rfl⟩:=hF.sl
 have HP:=J hP;have HF:=J hF
 obtain⟨F,d2⟩:=vE (Da S M)
 rw[<-d2]at HF hn d7;have X:=J d2;have i1:=J (H.o.Z hF.ext);have e8:=J (e6.o.ext hF.ext);clear hP hF d2;go_wp2_with fail
 refine vH (jzl w3 s bm room S e8.o hr0 hr1 vO) λw4 a5=>?_
 obtain⟨m,hm⟩:=vE (room-(S.length:Int))
 rw[<-hm];have HM:=J hm;clear hm
 by_cases hfull:m<(n:Int)
 ·(go_wp2);go_ret2;exact .inl ⟨3,.inr (.inr ⟨rfl,top,G,M,Z.o,H.o.is,by rw[<-c2.o];exact HP.o,by rw[<-X.o,hn, <-HM.o];exact hfull⟩),by decide,rfl,(H.o.ext.trans HF.o.ext).trans a5.o⟩
 ·have d8:=J (show RK w1 w4 from(((RK.refl w1).ext h8.o).ext HF.o.ext).ext a5.o);have e9:CL w4 s bm bg room S G F (.slice ad n cp) 0 w4:=⟨Ad.refl _ _,by rw[iG];show Ev w4 s bm room (S++[]);rw[cC];exact e8.o.ext a5.o,i1.o.at'.ext a5.o,by rw[hn];exact Kh HF.o.own a5.o⟩;have f0:=J e9;have c4:=HS.o.mp.mp;obtain⟨_,_,c4,_⟩:=c4;(have h3:=c4.lt;have i2:Hid (∀ z,(Value.slice ad n cp).ownBlock=some z->z≠bm):=(λz hz e=>by have:=HF.o.new z hz;have:=H.o.ext.size;omega);have i3:Hid (bg≠bm):=(λe=>kL H.o.new);have i4:Hid (∀ x∈S,∀ y∈G,x.2.1≠y.2.1):=(λx q y hy e=>by have:=(HS.o.mp.items x q).lt;have:=H.o.news y hy;omega);have i5:=J (show F.Nodup by rw[X.o];exact jlW S M);have i6:Hid (∀ x∈F,Be S x.data.toList=none):=(λx q=>by rw[X.o]at q;exact (EO.1 q).2);have f1:Hid (∀ x∈F,(Be G x.data.toList).isSome=true):=(λx q=>by rw[X.o]at q;exact HP.o.at' q);subst hn;clear e9 c4;go_wp2_with fail);(rw[show decide (m<(F.length:Int))=false from decide_eq_false (Int.not_lt.2 hfull)];go_loopw [46] (λiv wr=>RE w4 s bm bg room S G F (.slice ad F.length cp) iv wr/\RK w1 wr) (λiv _=>F.length-(intOf iv).toNat));(case atStart=>exact⟨⟨0,cD _,rfl,f0.o⟩,d8.o⟩);case round =>obtain⟨⟨i,hi,rfl,O⟩,f2⟩:=hrel;have f3:=J f2;clear f2;have HA:=J O;by_cases hlt:i<F.length;{have b1:(i:Int)<(F.length:Int):=vO;obtain⟨x,q⟩:∃ x,F[i]?=some x:=⟨_,bB hlt⟩;obtain⟨ax,cx,hh,A⟩:=(EW O.row).slice;obtain⟨c5,c7,a9,b0⟩:=A i x q;subst a9;cases hh;obtain⟨y,hy⟩:=cW.1 (f1.o x (bD q));have Q1:=J (O.st.st.cell (i:=1) (v:=.map (some bm)) vF);have f4:=J O.gv;have HX:=J q;have HY:=J hy;obtain⟨yb,b3⟩:=vE y.2.1;(have f5:=J b3;clear A q hy O b3;go_wp2_with fail);refine Lc [0,1,2,3,4,5,6,7,8] [8] Af Aa Ap vY vY vY ?_;refine vP ?_;refine qA _ s rfl zf (vS ?_);refine vP ?_;(refine qL ⟨s,1,none⟩ _ rfl (λw1 h1=>Bv underlying123 rfl (Am Q1.o ((Ao _).trans h1))) (vS ?_);iterate 3 refine vP ?_);refine qN _ yb rfl vY rfl (λw1 h1=>by have q:=(f4.o.ext ((Ao _).trans h1)).look x false;rw[HY.o]at q;unfold Hp at q;simp only[cH,if_false]at q;rw[<-f5.o]at q;simp[execOp,Act.eval,q,bS,Result.andThen,cT]) ?_;refine vS ?_;refine qH _ rfl (λw5 he K hK=>?_);have f6:=HA.o.ext ((Ao _).trans he);obtain⟨ob,f7,d3⟩:=f6.put i4.o i3.o i2.o i5.o i6.o HX.o HY.o;rw[<-f5.o]at f7;have f8:=J d3;obtain⟨k7,k8,b7,_⟩:=d3.st.mp.mp;(have d9:=J ((f3.o.ext ((Ao _).trans he)).put (Ad.z7 _ bm ob) b7);clear b7;clear f6 d3 he HA Q1 f4 b0;go_simp;refine hK _ _ ?_;clear hK K;refine qE (λw7 he=>?_);have i7:=J (f8.o.ext he);have e0:=J (d9.o.ext he);clear he f8 f7;go_wp2);go_roundw;(case rel=>exact⟨⟨i+1,by omega,by go_num,i7.o⟩,e0.o⟩);case measure=>exact vJ};have i8:i=F.length:=vO;subst i8;obtain⟨S1,b4⟩:=vE (S++Lj G F);have c8:=J b4;have b5:=J (show Zn wr s bm bg room S1 G F (.slice ad F.length cp) [] wr from⟨Ad.refl _ _,by have:=O.st;rw[cF]at this;rw[b4];exact this,⟨G,O.gv,λk=>rfl⟩,O.row⟩);have HU:=J (show ∀ x∈S1,0<=x.2.2.used/\x.2.2.used<=1000000000 from λx q=>by rw[b4]at q;rcases bR.1 q with q|q;{exact h4.o x q};obtain⟨t,ht,_,e⟩:=Xp H.o.is (Vn q).1;rw[e];exact⟨jA _,by show (0:Int)<=1000000000;decide⟩);have i9:=J (show ∀ r∈F.flatMap (Ik G),(Be S1 r.data.toList).isSome=true from λr hr=>by rw[b4,X.o];refine LM HP.o ?_;have:=HP.o.is;rw[cF, <-X.o]at this;rw[this];exact bM _ hr);obtain⟨w5,a7⟩:=vE wr;(have j0:=J a7;have e1:=J (show RK w1 w5 by rw[a7];exact f3.o);rw[<-a7]at b5;have b5:=J (show Zn w5 s bm bg room S1 G F (.slice ad F.length cp) [] wr by rw[<-a7];exact b5.o);have f9:=J (show Ad (λz=>z=bm) w4 w5 by rw[a7];exact O.kp);clear f0 O HA b4 a7;go_wp2);(go_loopw [61] (λiv wr=>RF w5 s bm bg room S1 G F (.slice ad F.length cp) iv wr/\RK w1 wr) (λiv _=>F.length-(intOf iv).toNat));(case atStart=>exact⟨⟨0,cD _,rfl,b5.o⟩,by rw[<-j0.o];exact e1.o⟩);case round =>obtain⟨⟨i,k9,rfl,O⟩,b8⟩:=hrel;have a4:=J b8;clear b8;by_cases hlt2:i<F.length;{have b1:(i:Int)<(F.length:Int):=vO;obtain⟨x,q⟩:∃ x,F[i]?=some x:=⟨_,bB hlt2⟩;obtain⟨ax,cx,hh,A⟩:=(EW O.row).slice;obtain⟨c5,c7,a9,b0⟩:=A i x q;subst a9;cases hh;obtain⟨y,hy⟩:=cW.1 (f1.o x (bD q));obtain⟨G',d4,g0⟩:=O.gv;have hk:=g0 x.data.toList;rw[hy]at hk;obtain⟨y',d5,hk⟩:=dH.1 hk;have a8:=d4.look x false;rw[d5]at a8;unfold Hp at a8;simp only[cH,if_false]at a8;obtain⟨rv,g2,c9⟩:=(d4.items y' (Fd d5).1).cells;(have g3:y'.2.2.refs=Ik G x:=by rw[NC hy];exact congrArg (λz=>z.2.2) hk);obtain⟨R,hR⟩:=vE (Ik G x);rw[g3, <-hR]at c9;obtain⟨ar,cr,rfl⟩:=Ir c9;have qr:=g2.cell (i:=1) (v:=.slice ar R.length cr) vF;obtain⟨T,hT⟩:=vE ((F.take i).flatMap (Ik G));have j1:=J (show (F.take (i+1)).flatMap (Ik G)=T++R by rw[cB,q,dS,hT,hR];simp);have j2:=J (show T.length<=16000 by have:=TM c3.o (F.take i);rw[hT];rw[cR]at this;omega);have g4:=J (show R.length<=16 by rw[hR,NC hy];exact c3.o.refs y (Fd hy).1);have j3:Hid (∀ r∈R,(Be S1 r.data.toList).isSome=true):=(λr hr=>i9.o r (dE.2 ⟨x,bD q,by rw[<-hR];exact hr⟩));rw[<-hT]at O;have g5:=J (show JD w5 s bm bg room S1 G F (.slice (some ⟨c5,c7,none⟩) F.length cp) T R (.slice ar R.length cr) qa wr from⟨0,cD _,rfl,by rw[iG,cC];exact O,c9⟩);obtain⟨yb,b3⟩:=vE y'.2.1;(rw[<-b3]at a8 qr;clear A q hy d4 g0 hk d5 g2 c9 g3 hR hT O b3;go_wp2);(go_loopw [72] (λjv g6=>JD w5 s bm bg room S1 G F (.slice (some ⟨c5,c7,none⟩) F.length cp) T R (.slice ar R.length cr) jv g6/\RK w1 g6) (λjv _=>R.length-(intOf jv).toNat));(case atStart=>exact⟨g5.o,a4.o⟩);case round =>obtain⟨⟨j,hj,rfl,hB,d0⟩,b9⟩:=hrel;have c0:=J b9;clear b9;by_cases hlt3:j<R.length;{have b2:(j:Int)<(R.length:Int):=vO;obtain⟨z,hz⟩:∃ z,R[j]?=some z:=⟨_,bB hlt3⟩;obtain⟨l0,l1,j4,a0⟩:=(EW d0).slice;obtain⟨l2,l3,e2,k6⟩:=a0 j z hz;subst e2;cases j4;have qs:=hB.st.st.cell (i:=1) (v:=.map (some bm)) vF;obtain⟨zb,u,e3,qu,fu,j5,j6,g7,a2⟩:=hB.bump HU.o (by have:=j2.o;have:=g4.o;rw[bK,cR];omega) z (j3.o z (bD hz));(have l4:=g4.o;have g8:=J (bA (show Zn w5 s bm bg room S1 G F (.slice (some ⟨c5,c7,none⟩) F.length cp) (T++R.take (j+1)) _ by rw[cB,hz, <-bZ];exact g7) (a2 _ _ _ d0));clear a0 hz hB d0 g7 a2 a8 qr;go_wp2);go_roundw;(case rel=>exact⟨⟨j+1,by omega,by go_num,g8.o.1,g8.o.2⟩,c0.o.set zb (.inl rfl) _⟩);case measure=>exact vJ};have j7:j=R.length:=vO;(subst j7;rw[cF, <-j1.o]at hB;have j8:=J hB;clear hB d0 g5 a8 qr;go_wp2);go_roundw;(case rel=>exact⟨⟨i+1,by omega,by go_num,j8.o⟩,c0.o⟩);case measure=>exact vJ};have e4:i=F.length:=vO;(subst e4;rw[cF]at O;have a3:(Be S1 rt.data.toList).isSome=true:=by rw[c8.o,X.o];exact LM HP.o (by rw[HP.o.is];exact bN));have j9:=J (show ∀ x∈S1,0<=x.2.2.held/\x.2.2.held<=1000000000 from λx q=>by rw[c8.o]at q;rcases bR.1 q with q|q;{exact d6.o x q};obtain⟨t,ht,_,e⟩:=Xp H.o.is (Vn q).1;rw[e];exact⟨jA _,by show (0:Int)<=1000000000;decide⟩);have qs:=O.st.st.cell (i:=1) (v:=.map (some bm)) vF;obtain⟨zb,u,e3,qu,fu,j5,j6,g9,h2⟩:=O.hold j9.o rt a3;(have k0:=J g9;have k1:=J (((H.o.ext.trans HF.o.ext).trans a5.o).mono (G:=λz=>z=bm\/z∈S.map (·.2.1)) kZ);have k2:=J h2;have k3:=J f9.o;clear O b5 f9 g9 h2 a3;go_wp2);go_ret2;refine .inr ⟨top,G,M,Z.o,H.o.is,b6.o,H.o.news,by rw[<-c2.o];exact HP.o,by rw[<-X.o, <-HM.o];exact Int.not_lt.2 hfull,by rw[c2.o];rfl,?_,?_,((RK.refl w).ext h7.o).trans (a4.o.set zb (.inr rfl) _),h5.o.rk (a4.o.set zb (.inr rfl) _) h6.o⟩;{rw[<-X.o, <-c8.o, <-c2.o];exact k0.o};refine (Ad.O (F:=λz=>z=bm\/z∈S.map (·.2.1)) k1.o k3.o λz hz e=>.inl e).O k2.o (λz hz e=>?_);rw[c8.o,bW]at e;rcases bR.1 e with e|e;{exact .inr e};obtain⟨y,hy,rfl⟩:=bC.1 e;have:=H.o.news y (Vn hy).1;omega
end
section
open Go Go.RowKit
theorem rE(s bm:Nat)(room:Int)(L:vT)(k:vB)(h:Ev w s bm room L):vR 141 #[s,k] w (.int .i64 (Xy (Be L k.data.toList))):=by
 have H:=h.st.cell (i:=1) (v:=.map (some bm)) vF;have e:=h.mp.look k true;have A:=J h.mp.items;simp only[if_true]at e;clear h;cases ha:Be L k.data.toList with
 |none =>(rw[ha]at e;unfold Hp at e;simp only[Option.isSome]at e;clear ha;unfold vR vQ;go_in;go_wp2);go_ret;exact⟨rfl,Aa w⟩
 |some x =>rw[ha]at e;obtain⟨K,q,_⟩:=(A.o x (Fd ha).1).cells;(have O:=q.cell (i:=3) (v:=.int .i64 x.2.2.held) vF;unfold Hp at e;simp only[Option.isSome]at e;clear ha q;unfold vR vQ;go_in;go_wp2);go_ret;exact⟨rfl,Aa w⟩
theorem K9(s bm:Nat)(room:Int)(L:vT)(k:vB)(h:Ev w s bm room L)(hb:∀ x∈L, -1000000000<=x.2.2.used/\x.2.2.used<=1000000000 /\ -1000000000<=x.2.2.held/\x.2.2.held<=1000000000):vR 142 #[s,k] w (.int .i64 (PR (Be L k.data.toList))):=by
 have q1:=h.st.cell (i:=1) (v:=.map (some bm)) vF;have e:=h.mp.look k true;have HI:=J h.mp.items;simp only[if_true]at e;clear h;cases ha:Be L k.data.toList with
 |none =>(rw[ha]at e;unfold Hp at e;simp only[Option.isSome]at e;clear ha hb;unfold vR vQ;go_in;go_wp2);go_ret;exact⟨rfl,Aa w⟩
 |some x =>rw[ha]at e;have q:=hb x (Fd ha).1;obtain⟨rv,A,_⟩:=(HI.o x (Fd ha).1).cells;have K:=J (A.cell (i:=2) (v:=.int .i64 x.2.2.used) vF);have O:=J (A.cell (i:=3) (v:=.int .i64 x.2.2.held) vF);unfold Hp at e;simp only[Option.isSome]at e;obtain⟨ky,b,⟨tx,rf,X,Z⟩⟩:=x;simp only at e K O q;have a0 : -9223372036854775808<=X+Z:=vO;have a1:X+Z<=9223372036854775807:=vO;(clear ha A hb;unfold vR vQ;go_in;go_wp2_with fail);refine Hs [0,1,2,3,4,5,6,7,8,9] Af Aa Ap vY vY vY ?_;refine vK ?_;refine Jf _ b rfl zh (vS ?_);refine vK ?_;refine Db ⟨b,2,none⟩ _ rfl (λw1 H=>Bv underlying3 rfl (Am K.o ((Ao _).trans H))) (vS ?_);refine vK ?_;refine Jf _ b rfl zh (vS ?_);refine vK ?_;(refine Db ⟨b,3,none⟩ _ rfl (λw1 H=>Bv underlying3 rfl (Am O.o ((Ao _).trans H))) (vS ?_);iterate 2 refine vK ?_);(refine Hi (λw3 he=>?_);have HE:=J ((Ao _).trans he);clear he;go_wp2);go_ret;exact⟨rfl,HE.o⟩
end
section
open Go Go.RowKit
attribute [local go_sem] Oper.semAt_some
def Es(L:vT)(k:Eo):vT:=L.filter λx => !decide (k=x.1)
theorem qW(k:Eo):∀ L:vT,(L.map (·.1)).Nodup->Th (L.map Wc) k=(Es L k).map Wc
 |[],_=>rfl
 |x::r,h=>by
  rw[bP,dL]at h;rw[bP,Th];unfold Es
  by_cases e:k=x.1
  ·rw[if_pos (show k=(Wc x).1 from e),iF (by simp[e])]
   congr 1
   symm;rw[fN];intro y q
   have:k≠y.1:=λA=>h.1 (bC.2 ⟨y,q,by rw[<-A,e]⟩)
   simpa using this
  ·rw[if_neg (show ¬ k=(Wc x).1 from e),iE (by simp[e]),bP,qW k r h.2];rfl
theorem Lw.del{L:vT}(h:Lw W bm L)(k:vB):∃ o,(∀ A r,(Builtin.delete_ #[123,A] r #[.map (some bm),k]).run prog W=.ok (.tuple #[]) (W.putObj bm o))/\Lw (W.putObj bm o) bm (Es L k.data.toList):=by
 obtain⟨es,ck,H,K⟩:=h.mp
 have q:=K.keys;rw[dB]at q;have q:(L.map (·.1)).Nodup:=q;have O:=K.del k.data.toList;rw[qW _ L q]at O;have hK:Ad (λz=>z=bm) W (W.putObj bm (.map (Al.arr (Kb es k.data.toList)) ck)):=Ad.z7 W bm _;have X:(Es L k.data.toList).Sublist L:=jN
 refine⟨_,λA r=>TB Al Ex H k.data.toList A r,⟨_,_,H.put_same _,O⟩,h.blks.sublist (X.map _),λx hx=>?_⟩
 have Z:=h.items x (X.subset hx);refine Z.Z hK (λe=>?_) h.notRow
 obtain⟨_,hc,_⟩:=Z.cells
 have e:x.2.1=bm:=e;rw[e]at hc
 have:=H.uniq hc;cases this
def Ko(S:vT):vM:=S.flatMap λy=>y.2.2.refs
structure Ns(S:vT):Prop where
 used:∀ x∈S,x.2.2.used=(cK (Ko S) x.1:Int)
 shut:∀ r∈Ko S,r.data.toList∈S.map (·.1)
 held:∀ x∈S,0<=x.2.2.held
 r16:∀ x∈S,x.2.2.refs.length<=16
def Jb(S:vT):Int:=(S.map λx=>x.2.2.held).sum
theorem Ns.none:Ns []:=⟨by simp,by simp[Ko],by simp,by simp⟩
theorem jmB(h:∀ x∈S,x.2.2.refs.length<=16):(Ko S).length<=16*S.length:=by
 induction S with
 |nil=>simp[Ko]
 |cons x r ih =>(have A:=ih λy q=>h y (bM _ q);have H:=h x bN;have e:Ko (x::r)=x.2.2.refs++Ko r:=by simp[Ko]);rw[e,bK,bQ];omega
theorem QD(T:vM)(k:Eo):cK T k<=T.length:=by
 unfold cK;have:=jL (a:=k) (l:=T.map (·.data.toList));rwa [bT]at this
theorem wV{T:vM}(h:0<cK T k):∃ r∈T,r.data.toList=k:=by
 unfold cK at h
 obtain⟨r,q,e⟩:=bC.1 (gB.1 h)
 exact⟨r,q,e⟩
theorem Ns.bd(h:Ns S)(hl:S.length<=20000):∀ x∈S,0<=x.2.2.used/\x.2.2.used<=320000:=λx e=>by
 have q:=h.used x e;have A:=QD (Ko S) x.1;have H:=jmB h.r16;omega
def Nr(T:vM)(x:Gk):Gk:=(x.1,x.2.1,⟨x.2.2.text,x.2.2.refs,x.2.2.used-(cK T x.1:Int),x.2.2.held⟩)
def BA(k:Eo)(L:vT):vT:=L.map λx=>if x.1=k then (x.1,x.2.1,Jt 2 (x.2.2.used-1) x.2.2)else x
theorem r4(S:vT):S.map (Nr [])=S:=by
 have:(Nr []:Gk->Gk)=id:=funext λx=>by unfold Nr cK;simp
 rw[this,jK]
theorem n1(T:vM)(r:vB)(S:vT):S.map (Nr (T++[r]))=BA r.data.toList (S.map (Nr T)):=by
 unfold BA;rw[dB];refine dA λx _=>?_;simp only[Function.comp];have q:cK (T++[r]) x.1=cK T x.1+(if x.1=r.data.toList then 1 else 0):=by rw[PK];congr 1;have:=LJ r [] x.1;rw[this];simp[cK]
 by_cases e:x.1=r.data.toList
 ·rw[if_pos e]at q;rw[if_pos (show (Nr T x).1=r.data.toList from e)];unfold Nr Jt;simp only[if_true];rw[q];refine congrArg (λz=>(x.1,x.2.1,z)) ?_;congr 1;(push_cast);omega
 ·rw[if_neg e]at q;rw[if_neg (show ¬(Nr T x).1=r.data.toList from e)];unfold Nr;rw[q];simp
theorem TS(T:vM)(S:vT):(S.map (Nr T)).map (·.1)=S.map (·.1):=by rw[dB];rfl
theorem eH(T:vM)(S:vT):Ko (S.map (Nr T))=Ko S:=by
 unfold Ko;rw[List.flatMap_map];rfl
theorem L1{L:vT}(h:Lw W bm L)(hy:Be L k=some y):L.map (Cn 2 y.2.1 (y.2.2.used-1))=BA k L:=by
 obtain⟨O,ck,_,H⟩:=h.mp
 have q:=H.keys;rw[dB]at q;have q:(L.map (·.1)).Nodup:=q;unfold BA;refine dA (λx A=>?_);unfold Cn
 by_cases e:x.2.1=y.2.1
 ·have:x=y:=Qj h.blks A (Fd hy).1 e;subst this;rw[if_pos rfl,if_pos (Fd hy).2]
 ·rw[if_neg e,if_neg];intro K;have:x=y:=Qj q A (Fd hy).1 (K.trans (Fd hy).2.symm);subst this;exact e rfl
theorem I5(hn:(S.map (·.1)).Nodup)(hy:y∈S)(k:Eo):cK (Ko S) k=cK y.2.2.refs k+cK (Ko (Es S y.1)) k:=by
 induction S with
 |nil=>cases hy
 |cons x r ih =>(rw[bP,dL]at hn;have e:Ko (x::r)=x.2.2.refs++Ko r:=by simp[Ko]);rw[e,PK];rcases bU.1 hy with rfl|hy;{(have:Es (y::r) y.1=r:=by unfold Es;rw[iF (by simp),fN];intro z A;have:y.1≠z.1:=λe=>hn.1 (bC.2 ⟨z,A,e.symm⟩);simpa using this);rw[this]};have q:y.1≠x.1:=λe=>hn.1 (bC.2 ⟨y,hy,e⟩);(have:Es (x::r) y.1=x::Es r y.1:=by unfold Es;rw[iE (by simpa using q)]);(rw[this,ih hn.2 hy];have H:Ko (x::Es r y.1)=x.2.2.refs++Ko (Es r y.1):=by simp[Ko]);rw[H,PK];omega
theorem GR(T:vM)(S:vT)(k:Eo):Es (S.map (Nr T)) k=(Es S k).map (Nr T):=by
 unfold Es;rw[List.filter_map];rfl
theorem BW{x:Gk}:x∈Es S k↔x∈S/\x.1≠k:=by
 unfold Es;rw[cE];simp only[gP,decide_eq_false_iff_not]
 exact⟨λh=>⟨h.1,λe=>h.2 e.symm⟩,λh=>⟨h.1,λe=>h.2 e.symm⟩⟩
theorem W3(hn:(S.map (·.1)).Nodup)(h:Ns S)(hy:y∈S)(h0:y.2.2.used=0):Ns (Es (S.map (Nr y.2.2.refs)) y.1):=by
 rw[GR];have O:cK (Ko S) y.1=0:=kL (h.used y hy)
 refine⟨λx A=>?_,λr K=>?_,λx A=>?_,λx A=>?_⟩
 ·obtain⟨z,q,rfl⟩:=bC.1 A;have Z:=h.used z (BW.1 q).1;have h2:=I5 hn hy z.1;show z.2.2.used-(cK y.2.2.refs z.1:Int)=(cK (Ko ((Es S y.1).map (Nr y.2.2.refs))) z.1:Int);rw[eH];omega
 ·rw[eH]at K;(rw[TS];have H:r∈Ko S:=by obtain⟨z,q,K⟩:=dE.1 K;exact dE.2 ⟨z,(BW.1 q).1,K⟩);obtain⟨z,q,e⟩:=bC.1 (h.shut r H);refine bC.2 ⟨z,BW.2 ⟨q,λX=>?_⟩,e⟩;have:=XF H;rw[<-e,X]at this;omega
 ·obtain⟨z,q,rfl⟩:=bC.1 A;exact h.held z (BW.1 q).1
 ·obtain⟨z,q,rfl⟩:=bC.1 A;exact h.r16 z (BW.1 q).1
theorem n0(T:vM)(S:vT):Jb (S.map (Nr T))=Jb S:=by
 unfold Jb;rw[dB];rfl
theorem q8(hn:(S.map (·.1)).Nodup)(hy:y∈S):Jb S=y.2.2.held+Jb (Es S y.1):=by
 induction S with
 |nil=>cases hy
 |cons x r ih =>(rw[bP,dL]at hn;have e:∀ (a:Gk) b,Jb (a::b)=a.2.2.held+Jb b:=λa b=>by unfold Jb;rw[bP,gZ]);rw[e];rcases bU.1 hy with rfl|hy;{(have:Es (y::r) y.1=r:=by unfold Es;rw[iF (by simp),fN];intro z A;have:y.1≠z.1:=λe=>hn.1 (bC.2 ⟨z,A,e.symm⟩);simpa using this);rw[this]};have q:y.1≠x.1:=λe=>hn.1 (bC.2 ⟨y,hy,e⟩);(have:Es (x::r) y.1=x::Es r y.1:=by unfold Es;rw[iE (by simpa using q)]);rw[this,e,ih hn.2 hy];omega
theorem q9(hn:(S.map (·.1)).Nodup)(hb:(S.map (·.2.1)).Nodup)(hy:y∈S)(v:Int):Jb (S.map (Cn 3 y.2.1 v))=Jb S+v-y.2.2.held:=by
 have e:∀ (a:Gk) b,Jb (a::b)=a.2.2.held+Jb b:=λa b=>by unfold Jb;rw[bP,gZ]
 clear hn;induction S with
 |nil=>cases hy
 |cons x r ih =>rw[bP,dL]at hb;rw[bP,e,e];rcases bU.1 hy with rfl|hy;{(have q:(Cn 3 y.2.1 v y).2.2.held=v:=by unfold Cn Jt;simp);(have H:r.map (Cn 3 y.2.1 v)=r:=by(conv=>rhs;rw[<-jK r]);refine dA λz K=>?_;unfold Cn;rw[if_neg λe=>hb.1 (bC.2 ⟨z,K,e⟩)];rfl);rw[q,H];omega};have A:¬ x.2.1=y.2.1:=λe=>hb.1 (bC.2 ⟨y,hy,e.symm⟩);(have q:Cn 3 y.2.1 v x=x:=by unfold Cn;rw[if_neg A]);rw[q,ih hb.2 hy];omega
theorem eW(v:Int)(S:vT):(S.map (Cn 3 c v)).map (·.1)=S.map (·.1):=by
 rw[dB];refine dA λx _=>?_;simp only[Function.comp,Cn];split<;>rfl
theorem CR(v:Int)(x:Gk):(Cn 3 c v x).2.2.used=x.2.2.used/\(Cn 3 c v x).2.2.refs=x.2.2.refs/\(Cn 3 c v x).1=x.1/\(Cn 3 c v x).2.2.text=x.2.2.text/\(Cn 3 c v x).2.1=x.2.1:=by
 unfold Cn Jt;split<;>simp
theorem eX(v:Int)(S:vT):Ko (S.map (Cn 3 c v))=Ko S:=by
 unfold Ko;rw[List.flatMap_map]
 have:(λx=>(Cn 3 c v x).2.2.refs)=λx:Gk=>x.2.2.refs:=funext λx=>(CR c v x).2.1
 rw[this]
theorem W4(h:Ns S)(c:Nat){v:Int}(hv:0<=v):Ns (S.map (Cn 3 c v)):=by
 refine⟨λx q=>?_,λr H=>?_,λx q=>?_,λx q=>?_⟩
 ·obtain⟨z,A,rfl⟩:=bC.1 q;rw[eX,(CR c v z).1,(CR c v z).2.2.1];exact h.used z A
 ·rw[eX]at H;rw[eW];exact h.shut r H
 ·obtain⟨z,A,rfl⟩:=bC.1 q;unfold Cn Jt;by_cases e:z.2.1=c;{rw[if_pos e];exact hv};rw[if_neg e];exact h.held z A
 ·obtain⟨z,A,rfl⟩:=bC.1 q;rw[(CR c v z).2.1];exact h.r16 z A
def PN(z:Nat)(W:vW)(b:Nat)(it:It):Prop:=b<z/\∃ rv,Ae W b (.cells #[it.text,rv,.int .i64 it.used,.int .i64 it.held] 135)/\W.ownsRow 0 9 1 rv it.refs.length (it.refs.map Value.string)/\∀ c,rv.ownBlock=some c->c<z
structure Ty(z:Nat)(W:World)(s bm:Nat)(room:Int)(S:vT):Prop where
 st:Ev W s bm room S
 s0:s<z
 b0:bm<z
 lo:∀ x∈S,PN z W x.2.1 x.2.2
theorem Ev.low(h:Ev W s bm room S):Ty W W s bm room S:=by
 obtain⟨O,ck,e,_⟩:=h.mp.mp
 refine⟨h,h.st.lt,e.lt,λx A=>?_⟩
 obtain⟨H,e,q⟩:=(h.mp.items x A).cells
 exact⟨e.lt,H,e,q,λc K=>(World.ownsRow.lt q c K).2⟩
theorem PN.past{it:It}(h:PN z W b it)(k:Ad F W W')(hF:∀ c,F c->z<=c):PN z W' b it:=by
 obtain⟨hb,q,A,H,e⟩:=h
 exact⟨hb,q,A.Z k λf=>kL (hF b f),Lb H k λc K f=>by have:=hF c f;have:=e c K;omega,e⟩
theorem Ty.past(h:Ty z W s bm room S)(k:Ad F W W')(hF:∀ c,F c->z<=c):Ty z W' s bm room S:=by
 have e:=λx q=>(h.lo x q).past k hF
 obtain⟨A,ck,H,K⟩:=h.st.mp.mp
 refine⟨⟨h.st.st.Z k λf=>by have:=hF s f;have:=h.s0;omega,⟨A,ck,H.Z k λf=>by have:=hF bm f;have:=h.b0;omega,K⟩,h.st.mp.blks,λx q=>?_⟩,h.s0,h.b0,e⟩
 obtain⟨_,O,X,Z,_⟩:=e x q
 exact⟨O,X,Z⟩
theorem Ty.ext(h:Ty z W s bm room S)(k:Af W W'):Ty z W' s bm room S:=h.past k (λ_ f=>f.elim)
theorem Ty.set(h:Ty z W s bm room S)(hy:y∈S)(hf:f=2\/f=3)(v:Int):Ty z (W.setCell ⟨y.2.1,f,none⟩ (.int .i64 v)) s bm room (S.map (Cn f y.2.1 v)):=by
 have K:=h.st.mp.items y hy
 obtain⟨rv,hb,_⟩:=K.cells
 have A:Ad (λz=>z=y.2.1) W (W.setCell ⟨y.2.1,f,none⟩ (.int .i64 v)):=Ad.z4 W ⟨y.2.1,f,none⟩ _;have hN:Mm W (λz=>z=y.2.1):=λz a0 fz e hz=>by have e:z=y.2.1:=e;subst e;have:=hb.uniq hz;injection this with _ h2;exact absurd h2 vI
 refine⟨⟨h.st.st.Z A λe=>?_,h.st.mp.setF K hf v⟩,h.s0,h.b0,λx hx=>?_⟩
 ·have e:s=y.2.1:=e;rw[e]at h;have:=hb.uniq h.st.st;injection this with _ h2;exact absurd h2 vI
 ·obtain⟨u,hu,rfl⟩:=bC.1 hx;obtain⟨O,q,H,X,Z⟩:=h.lo u hu;unfold Cn;split;{rename_i e;refine⟨O,q,?_,?_,Z⟩;{show Ae _ u.2.1 _;rw[e]at H ⊢;rcases hf with rfl|rfl;{exact H.z2 (i:=2) _};exact H.z2 (i:=3) _};have:=BR X A hN;rcases hf with rfl|rfl<;>exact this};rename_i e;exact⟨O,q,H.Z A e,BR X A hN,Z⟩
theorem Ty.del(h:Ty z W s bm room S)(k:vB):∃ o,(∀ kt r,(Builtin.delete_ #[123,kt] r #[.map (some bm),k]).run prog W=.ok (.tuple #[]) (W.putObj bm o))/\Ty z (W.putObj bm o) s bm room (Es S k.data.toList):=by
 obtain⟨q,A,X⟩:=h.st.mp.del k
 have H:Ad (λz=>z=bm) W (W.putObj bm q):=Ad.z7 W bm q
 refine⟨q,A,⟨h.st.st.Z H λe=>?_,X⟩,h.s0,h.b0,λx Z=>?_⟩
 ·have e:s=bm:=e;obtain⟨es,ck,K,_⟩:=h.st.mp.mp;subst e;have:=K.uniq h.st.st;cases this
 ·obtain⟨l1,rv,O,l3,l4⟩:=h.lo x (BW.1 Z).1;refine⟨l1,rv,O.Z H λe=>?_,BR l3 H h.st.mp.notRow,l4⟩;have e:x.2.1=bm:=e;obtain⟨es,ck,K,_⟩:=h.st.mp.mp;rw[e]at O;have:=K.uniq O;cases this
theorem x9{w:vW}{T:vM}(h:w.ownsRow B 9 1 (.slice (some g) (n+1) cap) (n+1) ((T++[t]).map Value.string)):w.ownsRow B 9 1 (.slice (some g) n cap) n (T.map Value.string):=by
 obtain⟨X,⟨q,_⟩|⟨Z,H,A,q,h3,h4,h5,h6,h7,K⟩⟩:=h
 ·cases q
 ·obtain⟨ha,_,hc⟩:=dF q;(have hg:g=Z:=by have:=bV ha;exact congrArg Addr.block this);(subst hg hc;have O:T.length=n:=by simp at X;omega);refine⟨by simp[O],.inr ⟨g,cap,A,rfl,h3,h4,by omega,h6,h7,?_⟩⟩;(have e:(T++[t]).map Value.string=T.map Value.string++[.string t]:=by simp);rw[e]at K;have:=congrArg (List.take n) K;rw[List.take_take,Nat.min_eq_left vO,List.take_left' (by simp[O])]at this;rw[Nat.mul_one];exact this
def IN(S:vT)(T:vM):Prop:=∀ x∈S,x.2.2.used+x.2.2.held<=0->∃ r∈T,r.data.toList=x.1
def Yk(S0 S:vT):Prop:=∀ x∈S,∃ y∈S0,x.1=y.1/\x.2.1=y.2.1/\x.2.2.text=y.2.2.text/\x.2.2.refs=y.2.2.refs/\x.2.2.held=y.2.2.held
structure uD(z:Nat)(s bm:Nat)(room:Int)(S0 S:vT)(T:vM)(w3:World)(v:Value)(W:World):Prop where
 st:Ty z W s bm room S
 cnt:Ns S
 loose:IN S T
 row:W.ownsRow 0 9 1 v T.length (T.map Value.string)
 new:∀ b,v.ownBlock=some b->z<=b
 sub:Yk S0 S
 sum:Jb S=Jb S0
 len:S.length<=S0.length
 tl:T.length+16*S.length<=1+16*S0.length
 stay:∀ x∈S0,0<x.2.2.held->x.1∈S.map (·.1)
 kp:Ad (λb=>b=bm\/b∈S0.map (·.2.1)\/z<=b) w3 W
 rk:RK w3 W
def mapSz(W:vW)(bm:Nat):Nat:=match W.heap[bm]? with|some (.map es _)=>es.size|_=>0
theorem Ev.mapSz(h:Ev W s bm room S):mapSz W bm=S.length:=by
 obtain⟨A,ck,e,q⟩:=h.mp.mp
 have:=q.lenL
 unfold Go.Proofs.YtgmmpefjadjajaaGreatDoor.mapSz;rw[show W.heap[bm]?=_ from e];simp[Fy.arr,this]
theorem lM{T:vM}(h:IN S (T++[t]))(ht:∀ x∈S,x.1=t.data.toList->0<x.2.2.used+x.2.2.held):IN S T:=λx A H=>by
 obtain⟨r,q,e⟩:=h x A H
 rcases bR.1 q with q|q
 ·exact⟨r,q,e⟩
 ·have:=ht x A (by rw[<-e,bG.1 q]);omega
theorem r5{T:vM}(h:IN S (T++[t]))(hk:k=t.data.toList):IN (Es (S.map (Nr R)) k) (T++R):=λx H K=>by
 rw[GR]at H
 obtain⟨z,A,rfl⟩:=bC.1 H
 have A:=BW.1 A;have K:z.2.2.used-(cK R z.1:Int)+z.2.2.held<=0:=K
 by_cases hc:0<cK R z.1
 ·obtain⟨r,q,e⟩:=wV hc
  exact⟨r,List.mem_append_right _ q,e⟩
 ·obtain⟨r,q,e⟩:=h z A.1 vO
  rcases bR.1 q with q|q
  ·exact⟨r,gR _ q,e⟩
  ·exact absurd (e.symm.trans (by rw[bG.1 q,hk])) A.2
theorem jzn(h:Yk S0 S)(R:vM)(k:Eo):Yk S0 (Es (S.map (Nr R)) k):=λx e=>by
 rw[GR]at e
 obtain⟨z,q,rfl⟩:=bC.1 e
 exact h z (BW.1 q).1
theorem qX(hy:y∈S)(R:vM):(Es (S.map (Nr R)) y.1).length+1<=S.length:=by
 rw[GR,bT];unfold Es
 have:=jI (l:=S) (p:=λx => !decide (y.1=x.1))
 have:=this.2 ⟨y,hy,by simp⟩
 omega
theorem L8(hn:(S0.map (·.1)).Nodup)(hs:Yk S0 S)(h:∀ x∈S0,0<x.2.2.held->x.1∈S.map (·.1))(hy:y∈S)(h0:y.2.2.held=0)(R:vM):∀ x∈S0,0<x.2.2.held->x.1∈(Es (S.map (Nr R)) y.1).map (·.1):=λx A H=>by
 obtain⟨z,K,e⟩:=bC.1 (h x A H)
 rw[GR,TS];refine bC.2 ⟨z,BW.2 ⟨K,λO=>?_⟩,e⟩
 obtain⟨X,q,Z,_,_,_,k5⟩:=hs y hy
 have:x=X:=Qj hn A q (by rw[<-e,O,Z])
 subst this;omega
def CF(S:vT):Prop:=∀ x∈S,0<x.2.2.used+x.2.2.held
structure IL(w:World)(s bm:Nat)(room:Int)(S S':vT)(y:Gk)(w':World):Prop where
 st:Ev w' s bm room S'
 cnt:Ns S'
 full:CF S'
 sum:Jb S'=Jb S-1
 len:S'.length<=S.length
 sub:Yk (S.map (Cn 3 y.2.1 (y.2.2.held-1))) S'
 stay:∀ x∈S.map (Cn 3 y.2.1 (y.2.2.held-1)),0<x.2.2.held->x.1∈S'.map (·.1)
 kp:Ad (λb=>b=bm\/b∈S.map (·.2.1)) w w'
 rk:RK w w'
def tO(w:vW)(s bm:Nat)(room:Int)(S:vT)(k:vB)(e:Ending)(w':vW):Prop:=
 (Xy (Be S k.data.toList)=0/\e=.returned (.int .i64 4)/\Af w w')\/∃ S' y,Be S k.data.toList=some y/\0<y.2.2.held/\e=.returned qa/\IL w s bm room S S' y w'
theorem drop_zero(s bm:Nat)(room:Int)(S:vT)(h:Ev w s bm room S)(k:vB)(hy:Xy (Be S k.data.toList)=0):vR 92 #[s,k] w (.int .i64 4):=by
 have q:=rE w s bm room S k h;rw[hy]at q;have H:Hid (vQ 141 #[s,k] w λe w'=>e=.returned qa/\Af w w'):=q;clear q h hy;unfold vR vQ;go_in;go_wp2_with fail
 refine H.o.mono ?_;rintro e w1 ⟨rfl,A⟩;have K:=J A;clear A;go_wp2
 go_ret
 exact⟨rfl,K.o⟩
def jzK(z s bm:Nat)(room:Int)(S0:vT)(w3:vW)(v:vV)(W:vW):Prop:=∃ S T,uD z s bm room S0 S T w3 v W
structure YG(z s bm:Nat)(room:Int)(S0 S:vT)(T R:vM)(rv:Value)(w3:World)(j:Nat)(v:Value)(W:World):Prop where
 st:Ty z W s bm room (S.map (Nr (R.take j)))
 row:W.ownsRow 0 9 1 v (T.length+j) ((T++R.take j).map Value.string)
 new:∀ b,v.ownBlock=some b->z<=b
 refs:W.ownsRow 0 9 1 rv R.length (R.map Value.string)
 kp:Ad (λb=>b=bm\/b∈S0.map (·.2.1)\/z<=b) w3 W
 rk:RK w3 W
def jzJ(z s bm:Nat)(room:Int)(S0 S:vT)(T R:vM)(rv:vV)(w3:vW)(v iv:vV)(W:vW):Prop:=∃ j:Nat,j<=R.length/\iv=.int .i64 j/\YG z s bm room S0 S T R rv w3 j v W
theorem LP{G:Bd}{a b c:vW}(h:Ad F a b)(k:Ad G b c)(hG:∀ x,G x->F x):Ad F a c:=h.trans (k.mono λx _ g=>hG x g)
theorem Q2(h:Ns S)(e:¬ 0<PR (Be S k)):Be S k=none\/∃ y,Be S k=some y/\y.2.2.used=0/\y.2.2.held=0:=by
 cases hy:Be S k with
 |none=>exact .inl rfl
 |some y =>right;rw[hy]at e;have q:=h.held y (Fd hy).1;have A:=h.used y (Fd hy).1;have e:¬ 0<y.2.2.used+y.2.2.held:=e;exact⟨y,rfl,by omega,by omega⟩
theorem E7(h:Ns S)(hl:S.length<=20000)(hR:R.length<=16)(j:Nat):∀ x∈S.map (Nr (R.take j)), -16<=x.2.2.used/\x.2.2.used<=320000:=λx e=>by
 obtain⟨z,q,rfl⟩:=bC.1 e
 have H:=h.bd hl z q;have A:=QD (R.take j) z.1;rw[cR]at A;show -16<=z.2.2.used-(cK (R.take j) z.1:Int)/\z.2.2.used-(cK (R.take j) z.1:Int)<=320000;omega
theorem jzf{w:vW}{T:vM}(h:w.ownsRow B 9 1 (.slice (some g) (n+1) cap) (n+1) ((T++[t]).map Value.string)):w.cell? ⟨g,n,none⟩=some (.string t):=by
 have e:T.length=n:=by have:=h.1;simp at this;omega
 have:=World.ownsRow.cells (g:=g) h vF n t (by rw[bW,cN (by simp[e]),bT,e,jD];rfl)
 rw[Addr.add_lit,bX]at this;exact this
theorem zG{w:vW}(h:w.ownsRow B 9 1 v (n+1) xs):∃ g cap,v=.slice (some ⟨g,0,none⟩) (n+1) cap:=by
 obtain⟨_,⟨_,q⟩|⟨A,e,H,q,_⟩⟩:=h
 ·omega
 ·exact⟨A,e,q⟩
theorem jze{w:vW}{m:Nat}{a:Option Addr}(h:w.ownsRow B 9 1 (.slice a (n+1) cap) (n+1) xs)(hm:m=n):m+1<=cap:=by
 subst hm
 obtain⟨_,⟨_,q⟩|⟨K,A,H,q,_,_,O,_⟩⟩:=h
 ·omega
 ·obtain⟨_,_,e⟩:=dF q;omega
theorem R8(hn:(S.map (·.1)).Nodup){x:Gk}(hx:x∈S)(e:x.1=k):Be S k=some x:=by
 obtain⟨y,q⟩:=cW.1 (Xs.2 (bC.2 ⟨x,hx,e⟩))
 rw[q,R9 hn hx e q]
theorem s5(s bm:Nat)(room:Int)(S:vT)(h:Ev w s bm room S)(b7:Ns S)(hfl:CF S)(hl:S.length<=20000)(hh:∀ x∈S,x.2.2.held<=1000000)(k:vB)(y:Gk)(hy:Be S k.data.toList=some y)(h1:0<y.2.2.held):vQ 92 #[s,k] w (tO w s bm room S k):=by
 have HS:=J h;have i6:=J b7;have g8:=J hfl;have HY:=J hy;have HH:=J hh;have H:=(Fd hy).1;have g2:=hh y H;have hc:=rE w s bm room S k h;rw[hy]at hc
 obtain⟨yb,K⟩:=vE y.2.1
 obtain⟨hd,b4⟩:=vE y.2.2.held
 have g9:Xy (some y)=hd:=b4.symm;rw[g9]at hc;rw[<-b4]at h1 g2;have e6:=J K;have d3:=J b4;have HC:=J hc;have H1:=J h1;have m0:(hd == 0)=false:=by simp;omega
 clear h b7 hfl hh hy H hc K b4 g9;unfold vQ;go_in;go_wp2_with fail
 refine HC.o.mono ?_;rintro e w1 ⟨rfl,hE⟩;have h:=HS.o.ext hE;have K:=e6.o;have b4:=d3.o;have hy:=HY.o;have H:=(Fd hy).1;have c0:=h.low.set H (.inr rfl) (hd-1);rw[<-K]at c0
 obtain⟨z,hz⟩:=vE w1.heap.size
 rw[<-hz]at c0;have HZ:=J hz;have hK:Ad (λz=>z=yb) w1 (w1.setCell ⟨yb,3,none⟩ (.int .i64 (hd-1))):=Ad.z4 w1 ⟨yb,3,none⟩ _;have A:=h.mp.look k false;rw[hy]at A;unfold Hp at A;simp only[cH,if_false]at A;rw[<-K]at A
 obtain⟨S0,X⟩:=vE (S.map (Cn 3 yb (hd-1)))
 rw[<-X]at c0;have e7:=J X
 obtain⟨rv,d4,_⟩:=(h.mp.items y H).cells
 rw[<-K, <-b4]at d4;have qs:=h.st.cell (i:=1) (v:=.map (some bm)) vF;have qh:=d4.cell (i:=3) (v:=.int .i64 hd) vF;have fh:w1.frozen? ⟨yb,3,none⟩=false:=d4.frozen;have h3:Ns S0:=by rw[X];exact W4 i6.o yb vO
 have h4:S0.length=S.length:=by rw[X,bT]
 have c3:Jb S0=Jb S-1:=by rw[X,K,q9 h.nd h.mp.blks H];omega
 have c4:(S0.map (·.1)).Nodup:=by rw[X,eW];exact h.nd
 have c7:IN S0 [k]:=by rw[X];intro x hx h0;obtain⟨u,hu,rfl⟩:=bC.1 hx;refine⟨k,by simp,?_⟩;by_cases e:u.2.1=yb;{have:u=y:=Qj h.mp.blks hu H (by rw[e,K]);rw[(CR yb (hd-1) u).2.2.1,this,(Fd hy).2]};unfold Cn at h0;rw[if_neg e]at h0;have:=g8.o u hu;omega
 have h6:=J c0;have i7:=J h3;have g3:=J c3;have g4:=J c4;have i8:=J c7;have e8:=J h4;have h7:=J (show S0.map (·.2.1)=S.map (·.2.1) by rw[X,oX]);have HK:=J (bA hE hK);have i9:=J (show yb∈S.map (·.2.1) by rw[K];exact bC.2 ⟨y,H,rfl⟩);clear h hy H K b4 c0 hK X d4 HS h3 h4 c3 c4 c7 HC hE g8
 obtain⟨w2,a0⟩:∃ w2,w2=w1.setCell ⟨yb,3,none⟩ (.int .i64 (hd-1)):=⟨_,rfl⟩
 rw[<-a0]at h6 HK;have j0:=J (show (w2:Nat)=z by rw[a0,hz];simp);have g5:=J (show RK w1 w2 by rw[a0];exact (RK.refl w1).set yb (.inr rfl) _);go_wp2_with fail
 rw[<-a0, <-hz];clear a0 qs qh fh A hz
 obtain⟨w3,d5⟩:=vE (w2.alloc (.cells #[k] 9))
 rw[<-d5];have h8:Ar 9 1 w2 w3 (.slice (some w2) 1 1) 1 [k]:=by rw[d5];exact Ar.lit #[k] (Aa w2) vI rfl
 have e9:=J (show w3.ownsRow 0 9 1 (.slice (some z) 1 1) 1 [k] by have h:=h8.own;rw[j0.o]at h;exact h);have f0:=J (show Af w2 w3 by rw[d5];exact (Aa w2).alloc _);clear d5 h8;go_loopw [5] (λv wr=>jzK z s bm room S0 w1 v wr) (λv wr=>17*mapSz wr bm+JC v)
 case atStart =>refine⟨S0,[k],h6.o.ext f0.o,i7.o,i8.o,e9.o,λb hb=>?_,λx hx=>⟨x,hx,rfl,rfl,rfl,rfl,rfl⟩,rfl,bO _,bO _,λx hx _=>bC.2 ⟨x,hx,rfl⟩,LP (F:=λb=>b=bm\/b∈S0.map (·.2.1)\/z<=b) (HK.o.2.mono λx _ e=>.inr (.inl (by rw[show x=yb from e,h7.o];exact i9.o))) f0.o λx e=>e.elim,g5.o.ext f0.o⟩;have e:some z=some b:=hb;have:=bV e;omega
 case round =>obtain⟨S1,T,hD⟩:=hrel;have q:=J hD;rcases List.eq_nil_or_concat T with hT|⟨T',t,hT⟩;{subst hT;obtain⟨a,c,rfl⟩:=Ir hD.row;(clear hD;go_wp2);go_ret;refine .inr ⟨S1,y,HY.o,by rw[<-d3.o];exact H1.o,rfl,q.o.st.st,q.o.cnt,λx hx=>?_,?_,?_,?_,?_,?_,?_⟩;{by_cases h0:x.2.2.used+x.2.2.held<=0;{obtain⟨r,hr,_⟩:=q.o.loose x hx h0;cases hr};omega};{rw[q.o.sum,g3.o]};{have:=q.o.len;rw[e8.o]at this;exact this};{rw[<-e6.o, <-d3.o, <-e7.o];exact q.o.sub};{rw[<-e6.o, <-d3.o, <-e7.o];exact q.o.stay};{have hz:=HZ.o;refine Ad.O (F:=λb=>b=bm\/b∈S.map (·.2.1)) (HK.o.1.mono kZ) q.o.kp (λx hx e=>?_);rcases e with e|e|e;{exact .inl e};{rw[h7.o]at e;exact .inr e};have:=HK.o.1.size;omega};exact ((RK.refl w).ext HK.o.1).trans q.o.rk};(have hT:T=T'++[t]:=by rw[hT];simp);subst hT;have O:=hD.row;rw[show (T'++[t]).length=T'.length+1 by simp]at O;obtain⟨g,cp,rfl⟩:=zG O;have q1:=jzf O;have c8:=J (x9 O);obtain⟨n,hn⟩:=vE T'.length;rw[<-hn]at c8 q1 ⊢;have Z:=J hn;have j1:=hD.len;have h9:=J (show S1.length<=20000 by have:=e8.o;omega);have hm:=hD.st.st.mapSz;have f1:=J hm;have j2:Hid (z<=g):=hD.new g rfl;have l8:n+1<=cp:=jze O hn;have HB:=J (show ∀ x∈S1, -1000000000<=x.2.2.used/\x.2.2.used<=1000000000 /\ -1000000000<=x.2.2.held/\x.2.2.held<=1000000000 from λx hx=>by have:=hD.cnt.bd h9.o x hx;have:=hD.cnt.held x hx;obtain⟨u,hu,_,_,_,_,e5⟩:=hD.sub x hx;(have h5:u.2.2.held<=1000000:=by rw[e7.o]at hu;obtain⟨v,hv,rfl⟩:=bC.1 hu;have:=HH.o v hv;unfold Cn Jt;split;{show hd-1<=1000000;omega};exact this);omega);(have b8:=J (show n+1+16*S1.length<=1+16*S0.length by have h:=hD.tl;rw[bK, <-hn]at h;exact h);have l9:n<=400000:=by have:=b8.o;have:=e8.o;omega);(clear hD O hn j1 hm;go_wp2_with fail);refine vC (K9 wr s bm room S1 t q.o.st.st HB.o) λw5 hE=>?_;obtain⟨cn,b7⟩:=vE (PR (Be S1 t.data.toList));rw[<-b7];have c9:=J b7;have a1:=q.o.st.ext hE;have b2:=J a1;have a8:=J (Kh c8.o hE);have f2:=J (q.o.kp.trans (hE.mono kZ));have b5:=J (q.o.rk.ext hE);have qs:=a1.st.st.cell (i:=1) (v:=.map (some bm)) vF;have A:=a1.st.mp.look t false;simp only[cH,if_false]at A;have d0:=J a1.st.mapSz;have b6:=J (show ∀ b c m,(Value.slice (some g) m c).ownBlock=some b->z<=b from λb c m hb=>by have e:some g=some b:=hb;have:=bV e;have:=j2.o;omega);clear hE b7 a1 q1;by_cases hp:0<cn;{(go_wp2);go_roundw;(case rel =>refine⟨S1,T',b2.o,q.o.cnt,lM q.o.loose λx hx e=>?_,by rw[<-Z.o];exact a8.o,λb hb=>b6.o b _ _ hb,q.o.sub,q.o.sum,q.o.len,by have:=b8.o;have:=Z.o;omega,q.o.stay,f2.o,b5.o⟩;have h1:=c9.o;rw[show Be S1 t.data.toList=some x from R8 q.o.st.st.nd hx e]at h1;have h1:cn=x.2.2.used+x.2.2.held:=h1;omega);case measure=>rw[d0.o,f1.o];simp[JC]};(have f3:¬ 0<PR (Be S1 t.data.toList):=by rw[<-c9.o];exact hp);rcases Q2 q.o.cnt f3 with hno|⟨y1,hy1,d6,hh0⟩;{rw[hno]at A;(unfold Hp at A;simp only at A;have j3:=J hno;clear f3 hno;go_wp2);go_roundw;(case rel =>exact⟨S1,T',b2.o,q.o.cnt,lM q.o.loose λx hx e=>absurd e.symm (EJ.1 j3.o x hx),by rw[<-Z.o];exact a8.o,λb hb=>b6.o b _ _ hb,q.o.sub,q.o.sum,q.o.len,by have:=b8.o;have:=Z.o;omega,q.o.stay,f2.o,b5.o⟩);case measure=>rw[d0.o,f1.o];simp[JC]};rw[hy1]at A;unfold Hp at A;simp only at A;have a2:=(Fd hy1).1;obtain⟨_,rv,i1,d7,i2⟩:=b2.o.lo y1 a2;obtain⟨R,hR⟩:=vE y1.2.2.refs;rw[<-hR]at d7;obtain⟨ar,cr,rfl⟩:=Ir d7;have qr:=i1.cell (i:=1) (v:=.slice ar R.length cr) vF;have a3:=J (show R.length<=16 by rw[hR];exact q.o.cnt.r16 y1 a2);have j4:=J (show ∀ r∈R,r.data.toList∈S1.map (·.1)from λr hr=>q.o.cnt.shut r (dE.2 ⟨y1,a2,by rw[<-hR];exact hr⟩));have j5:=J (show YG z s bm room S0 S1 T' R (.slice ar R.length cr) w1 0 (.slice (some g) n cp) w5 from⟨by rw[iG,r4];exact b2.o,by rw[iG,cC,gJ, <-Z.o];exact a8.o,λb hb=>b6.o b _ _ hb,d7,f2.o,b5.o⟩);have j6:=J hR;have j7:=J i2;have d8:=J (bA a2 (Fd hy1).2);have f4:=J (bA d6 hh0);obtain⟨m1,d1⟩:=vE y1.2.1;(rw[<-d1]at A qr;clear f3 hy1 d6 hh0 a2 i1 d7 i2 hR d1;go_wp2);(go_loopw [5,65] (λv5 iv j8=>jzJ z s bm room S0 S1 T' R (.slice ar R.length cr) w1 v5 iv j8) (λ_ iv _=>R.length-(intOf iv).toNat));(case atStart=>exact⟨0,cD _,rfl,j5.o⟩);case round =>obtain⟨j,hj,rfl,hI⟩:=hrel;have HI:=J hI;obtain⟨a5,c5,rfl⟩:=Ir hI.row;by_cases hlt:j<R.length;{have b1:(j:Int)<(R.length:Int):=vO;obtain⟨r,hr⟩:∃ r,R[j]?=some r:=⟨_,bB hlt⟩;obtain⟨ax,cx,j9,b3⟩:=(EW hI.refs).slice;obtain⟨ba,oa,k0,m2⟩:=b3 j r hr;subst k0;cases j9;have k1:=hI.st.st.st.cell (i:=1) (v:=.map (some bm)) vF;have a4:=hI.st.st.mp.look r false;simp only[cH,if_false]at a4;obtain⟨x1,d9⟩:=cW.1 (Xs.2 (show r.data.toList∈(S1.map (Nr (R.take j))).map (·.1) by rw[TS];exact j4.o r (bD hr)));rw[d9]at a4;unfold Hp at a4;simp only at a4;have a7:=(Fd d9).1;have k2:=E7 q.o.cnt h9.o a3.o j x1 a7;obtain⟨rx,e0,_⟩:=(hI.st.st.mp.items x1 a7).cells;(have c1:=hI.st.set a7 (.inl rfl) (x1.2.2.used-1);rw[L1 hI.st.st.mp d9, <-n1]at c1;have b9:Ad (λz=>z=x1.2.1) wr (wr.setCell ⟨x1.2.1,2,none⟩ (.int .i64 (x1.2.2.used-1))):=Ad.z4 wr ⟨x1.2.1,2,none⟩ _;have f5:Mm wr (λz=>z=x1.2.1):=λz m3 fz e hz=>by have e:z=x1.2.1:=e;subst e;have:=e0.uniq hz;injection this with _ h2;exact absurd h2 vI);have f6:=J (BR hI.row b9 f5);have f7:=J (BR hI.refs b9 f5);have i3:=J (show x1.2.1∈S0.map (·.2.1)from by obtain⟨u,hu,e⟩:=bC.1 a7;obtain⟨u0,d6,_,e2,_⟩:=q.o.sub u hu;exact bC.2 ⟨u0,d6,by rw[<-e];exact e2.symm⟩);have qx:=e0.cell (i:=2) (v:=.int .i64 x1.2.2.used) vF;have fx:wr.frozen? ⟨x1.2.1,2,none⟩=false:=e0.frozen;obtain⟨u,hu⟩:=vE x1.2.2.used;obtain⟨xb,i4⟩:=vE x1.2.1;(rw[<-hu]at k2 c1 qx f6 f7 b9;rw[<-i4]at a4 qx fx c1 f6 f7 b9 i3;have k3:=J b9;have k4:=J (show Ty z (wr.setCell ⟨xb,2,none⟩ (.int .i64 (u-1))) s bm room (S1.map (Nr (R.take (j+1)))) by rw[cB,hr];exact c1);have k5:=J (show T'++R.take (j+1)=(T'++R.take j)++[r] by rw[cB,hr, <-bZ];rfl);have f8:=Jx (Ae.new (wr.setCell ⟨xb,2,none⟩ (.int .i64 (u-1))) (.cells #[.string r] 9));rw[fT]at f8;have k6:=J f8;have k7:T'.length+j+1<=maxLen:=by have:=b8.o;have:=Z.o;have:=a3.o;unfold maxLen;omega);(have k8:(T'.length+j+1)*16<=140737488355328:=by have:=b8.o;have:=Z.o;have:=a3.o;omega);clear hI hr b3 d9 a7 e0 c1 b9 f5 hu i4 f8 A qr qs;obtain⟨i0,hi,k9,l0,l1⟩:=info_parts Bn;(go_wp2_with (at_builtin;refine FR _ rfl (.tmp 84) (.tmp 86) 51 rfl 9 i0 _ 1 16 Bg hi k9 l0 l1 rfl vI (.slice a5 (T'.length+j) c5) (T'.length+j) _ rfl (Kh f6.o ((Aa _).alloc _)) wr 1 1 [.string r] rfl rfl k6.o zc k7 k8 ?_;intro v' w6 r1 r2 r3;have l2:=J r1;have e1:=J r2;have e9:=J r3;obtain⟨a6,c6,rfl⟩:=Ir r1;clear r1 r2 r3));go_roundw;(case rel =>(have m4:z<=(wr:Nat):=by have:=HI.o.kp.size;have:=HZ.o;omega);have e3:=(Aa (wr.setCell ⟨xb,2,none⟩ (.int .i64 (u-1)))).alloc (.cells #[.string r] 9);refine⟨j+1,by omega,by go_num,(k4.o.ext e3).past e1.o λc hc=>HI.o.new c hc,?_,λb hb=>?_,Lb (Kh f7.o e3) e1.o λc hc f=>by have:=j7.o c hc;have:=HI.o.new c f;omega,?_,((HI.o.rk.set xb (.inl rfl) _).ext e3).Z e1.o λc hc=>by have:=HI.o.new c hc;have:=HZ.o;omega⟩;{have h:=l2.o;rw[k5.o,bW];exact h};{rcases e9.o with h|h;{exact HI.o.new b (h ▸ hb)};have:=h b hb;rw[bJ,fT]at this;omega};refine LP (LP (LP HI.o.kp k3.o λx e=>.inr (.inl ?_)) e3 λx e=>e.elim) e1.o (λx e=>.inr (.inr (HI.o.new x e)));rw[show x=xb from e];exact i3.o);case measure=>exact vJ};have l3:j=R.length:=vO;subst l3;have c2:=hI.st;rw[cF]at c2;have a9:=hI.row;rw[cF]at a9;obtain⟨ob,m5,f9⟩:=c2.del t;have k1:=c2.st.st.cell (i:=1) (v:=.map (some bm)) vF;have e4:Ad (λz=>z=bm) wr (wr.putObj bm ob):=Ad.z7 wr bm ob;have i5:=J f9;have l4:=J (Lb a9 e4 λb hb e=>by have:=hI.new b hb;have:=c2.b0;have e:b=bm:=e;omega);have l5:=J hI.new;have l6:=J (LP hI.kp e4 λx e=>.inl e);obtain⟨m6,m7,d2,_⟩:=f9.st.mp.mp;(have g6:=J (hI.rk.put e4 d2);clear d2;clear c2 a9 f9 e4 hI HI A qr qs;go_wp2);go_roundw;(case rel =>have H:=d8.o.1;have hk:=d8.o.2;have g0:=qX H R;rw[hk]at g0;have m8:=q.o.len;have m9:=b8.o;have l7:=Z.o;have g7:=a3.o;refine⟨Es (S1.map (Nr R)) t.data.toList,T'++R,i5.o,?_,r5 q.o.loose rfl,by rw[bK];exact l4.o,l5.o,jzn q.o.sub R _,?_,by omega,by rw[bK];omega,?_,l6.o,g6.o⟩;{have:=W3 q.o.st.st.nd q.o.cnt H f4.o.1;rw[hk, <-j6.o]at this;exact this};{rw[GR,n0, <-q.o.sum,q8 q.o.st.st.nd H,hk,f4.o.2];omega};have:=L8 g4.o q.o.sub q.o.stay H f4.o.2 R;rw[hk]at this;exact this);case measure =>have g0:=qX d8.o.1 R;rw[d8.o.2]at g0;have g7:=a3.o;have l7:=Z.o;rw[i5.o.st.mapSz,f1.o];simp only[JC];omega
theorem J0(s bm:Nat)(room:Int)(S:vT)(h:Ev w s bm room S)(hcn:Ns S)(hfl:CF S)(hl:S.length<=20000)(hh:∀ x∈S,x.2.2.held<=1000000)(k:vB):vQ 92 #[s,k] w (tO w s bm room S k):=by
 by_cases q:Xy (Be S k.data.toList)=0
 ·exact (drop_zero w s bm room S h k q).mono λe w' ⟨A,H⟩=>.inl ⟨q,A,H⟩
 ·cases hy:Be S k.data.toList with| none=>rw[hy]at q;exact absurd rfl q| some y =>rw[hy]at q;have q:¬ y.2.2.held=0:=q;have:=hcn.held y (Fd hy).1;exact s5 w s bm room S h hcn hfl hl hh k y hy vO
end
section
open Go Go.RowKit
theorem jlp{M:vM}:Ko (Gl S G M top)=Ko S++(Da S M).flatMap (Ik G):=by
 rw[Vp];have h:=n9 ((Da S M).flatMap (Ik G)) (Aj top) (S++Lj G (Da S M));unfold Ko;rw[h,dS, <-aE]
theorem JY{M:vM}:(Gl S G M top).map (·.1)=(S++Lj G (Da S M)).map (·.1):=by rw[Vp,n8]
theorem pS{M:vM}(hc:Ns S)(hG:G.map Nb=Cm L)(hf:Yi G)(hP:Sh S G (Aj top) M (Da S M).length):Ns (Gl S G M top):=by
 have K:∀ r∈(Da S M).flatMap (Ik G),r∈M:=λr A=>by have:=hP.is;rw[cF]at this;rw[this];exact bM _ A
 refine⟨λx H=>?_,λr A=>?_,λx H=>?_,λx H=>?_⟩
 ·rw[jlp,PK];rw[Vp]at H;obtain⟨z,q,rfl⟩:=bC.1 H;show z.2.2.used+((cK ((Da S M).flatMap (Ik G)) z.1:Nat):Int)=((cK (Ko S) z.1+cK ((Da S M).flatMap (Ik G)) z.1:Nat):Int);rcases bR.1 q with q|q;{have:=hc.used z q;omega};obtain⟨O,f,X,Z⟩:=Vn q;obtain⟨t,ht,_,e⟩:=Xp hG O;(have h0:cK (Ko S) z.1=0:=P5 λr A er=>by have:=hc.shut r A;rw[er,Z, <-Xs,(EO.1 X).2]at this;cases this);(have hu:z.2.2.used=0:=by rw[e];rfl);omega
 ·rw[JY];rw[jlp]at A;rcases bR.1 A with A|A;{rw[bW];exact gR _ (hc.shut r A)};exact Xs.1 (LM hP (K r A))
 ·rw[Vp]at H;obtain⟨z,q,rfl⟩:=bC.1 H;show 0<=z.2.2.held+((cK [Aj top] z.1:Nat):Int);rcases bR.1 q with q|q;{have:=hc.held z q;omega};obtain⟨t,ht,_,e⟩:=Xp hG (Vn q).1;(have hu:z.2.2.held=0:=by rw[e];rfl);omega
 ·rw[Vp]at H;obtain⟨z,q,rfl⟩:=bC.1 H;show z.2.2.refs.length<=16;rcases bR.1 q with q|q;{exact hc.r16 z q};exact hf.refs z (Vn q).1
theorem oO{M:vM}(hc:Ns S)(hfl:CF S)(hG:G.map Nb=Cm L)(hP:Sh S G (Aj top) M (Da S M).length):CF (Gl S G M top):=λx K=>by
 rw[Vp]at K
 obtain⟨z,q,rfl⟩:=bC.1 K
 show 0<z.2.2.used+((cK ((Da S M).flatMap (Ik G)) z.1:Nat):Int)+(z.2.2.held+((cK [Aj top] z.1:Nat):Int));rcases bR.1 q with q|q
 ·have:=hfl z q;omega
 ·obtain⟨A,f,H,O⟩:=Vn q
  obtain⟨t,Z,_,e⟩:=Xp hG A
  have hu:z.2.2.used=0:=by rw[e];rfl
  have hh:z.2.2.held=0:=by rw[e];rfl
  have X:=(EO.1 H).1
  have:=hP.is
  rw[cF]at this;rw[this]at X;rcases bU.1 X with h|h
  ·have:1<=cK [Aj top] z.1:=by rw[O,h];exact XF (by simp)
   omega
  ·have:1<=cK ((Da S M).flatMap (Ik G)) z.1:=by rw[O];exact XF h
   omega
theorem M0(T:vM)(r:vB)(S:vT):Jb (S.map (DN T r))=Jb S+((S.map (·.1)).count r.data.toList:Int):=by
 induction S with
 |nil=>simp[Jb]
 |cons x l ih =>(have e:∀ (a:Gk) b,Jb (a::b)=a.2.2.held+Jb b:=λa b=>by unfold Jb;rw[bP,gZ]);(rw[bP,e,e,ih,bP,List.count_cons];have q:(DN T r x).2.2.held=x.2.2.held+((cK [r] x.1:Nat):Int):=rfl;have A:cK [r] x.1=if x.1=r.data.toList then 1 else 0:=by have:=LJ r [] x.1;rw[this];simp[cK]);rw[q,A];by_cases hx:x.1=r.data.toList;{rw[if_pos hx,if_pos (by simp[hx])];push_cast;omega};rw[if_neg hx,if_neg (by simpa using hx)];push_cast;omega
theorem jzp(A B:vT):Jb (A++B)=Jb A+Jb B:=by unfold Jb;rw[bW,List.sum_append]
theorem pB:∀ {B:vT},(∀ x∈B,x.2.2.held=0)->Jb B=0
 |[],_=>rfl
 |x::r,h=>by
  have e:Jb (x::r)=x.2.2.held+Jb r:=by unfold Jb;rw[bP,gZ]
  rw[e,h x bN,pB λy q=>h y (bM _ q)];rfl
theorem jW:∀ {l:List Eo},l.Nodup->∀ {k:Eo},k∈l->l.count k=1
 |[],_,_,q=>by cases q
 |x::r,h,k,q=>by
  rw[dL]at h;rw[List.count_cons]
  by_cases e:x=k
  ·subst e
   rw[List.count_eq_zero_of_not_mem h.1];simp
  ·have q:k∈r:=(bU.1 q).resolve_left λA=>e A.symm
   rw[jW h.2 q];simp[e]
theorem jzo{M:vM}(hn:((Gl S G M top).map (·.1)).Nodup)(hG:G.map Nb=Cm L)(hP:Sh S G (Aj top) M (Da S M).length):Jb (Gl S G M top)=Jb S+1:=by
 have q:(Aj top).data.toList∈(S++Lj G (Da S M)).map (·.1):=Xs.1 (LM hP (by rw[hP.is];exact bN));rw[JY]at hn;rw[Vp,M0,jzp,pB (B:=Lj G (Da S M)) (λx A=>by obtain⟨t,H,_,e⟩:=Xp hG (Vn A).1;rw[e];rfl),jW hn q]
 omega
theorem OW{M:vM}:(Gl S G M top).length<=S.length+(Da S M).length:=by
 rw[Vp,bT,bK]
 have:(Lj G (Da S M)).length<=(Da S M).length:=List.length_filterMap_le _ _
 omega
theorem nA{M:vM}{n:Int}(h:∀ x∈S,x.2.2.held<=n)(h0:0<=n)(hG:G.map Nb=Cm L):∀ x∈Gl S G M top,x.2.2.held<=n+1:=λx A=>by
 rw[Vp]at A
 obtain⟨z,q,rfl⟩:=bC.1 A
 show z.2.2.held+((cK [Aj top] z.1:Nat):Int)<=n+1;have H:=QD [Aj top] z.1;rw[List.length_singleton]at H;rcases bR.1 q with q|q
 ·have:=h z q;omega
 ·obtain⟨t,K,_,e⟩:=Xp hG (Vn q).1
  have O:z.2.2.held=0:=by rw[e];rfl
  omega
structure Kp(U:vM)(S:vT):Prop where
 is:∀ x∈S,∃ t∈U,x.1=ky t/\x.2.2.text=t/\x.2.2.refs=Gc (Bq t)
 cnt:Ns S
 full:CF S
theorem Kp.text(hU:Gi U)(h:Kp U S)(ht:t∈U)(hk:ky t∈S.map (·.1)):∃ x,Be S (ky t)=some x/\x∈S/\x.2.2.text=t/\x.2.2.refs=Gc (Bq t):=by
 obtain⟨x,q⟩:=cW.1 (Xs.2 hk)
 obtain⟨A,H⟩:=Fd q
 obtain⟨K,e,O,X,Z⟩:=h.is x A
 have:K=t:=wE hU e ht (O.symm.trans H)
 subst this
 exact⟨x,q,A,X,Z⟩
theorem Kp.shut(hU:Gi U)(h:Kp U S)(ht:t∈U)(hk:ky t∈S.map (·.1))(hr:r∈Gc (Bq t)):r.data.toList∈S.map (·.1):=by
 obtain⟨x,_,e,_,q⟩:=h.text hU ht hk
 exact h.cnt.shut r (dE.2 ⟨x,e,by rw[q];exact hr⟩)
def IQ(U:vM):Prop:=∀ t∈U,∃ n,Hv t n
theorem oU(w:vW)(hU:Gi U)(h:Kp U S)(hm:Em m=0)(hs:∀ t∈Ld m,t∈U)(e:ky (Cr m).text∈S.map (·.1)):∀ t∈Ld m,ky t∈S.map (·.1):=
 K5 w hm (λk=>k.data.toList∈S.map λx:Gk=>x.1) (λt q A r e=>h.shut hU (hs t q) A e) e
theorem Kp.has(w:vW)(hU:Gi U)(h:Kp U S)(hm:Em m=0)(hs:∀ t∈Ld m,t∈U)(hr:ky (Cr m).text∈S.map (·.1)):Iy S m:=
 ⟨hm,λt e=>by
  have e:=(Ql (Bz (Cr m)) t).2 e
  obtain⟨x,q,_,A,_⟩:=h.text hU (hs t e) (oU w hU h hm hs hr t e)
  exact⟨x,q,A⟩⟩
theorem Kp.nodes(h:Kp U S)(hN:∀ t∈U,∃ n,Hv t n):∀ x∈S,∃ n,Hv x.2.2.text n:=λx q=>by
 obtain⟨t,A,_,e,_⟩:=h.is x q
 rw[e];exact hN t A
theorem b6(hm:Em m=0):IQ (Ld m):=λt e=>by
 obtain⟨n,q,_⟩:=(RB hm).node t e
 exact⟨n,q⟩
structure Sm(S:vT)(m:vL)(L:vM):Prop where
 ok:Em m=0
 head:L[0]?=some (Cr m).text
 sub:∀ t∈L,t∈Ld m
 all:∀ t∈Ld m,t∈L\/ky t∈S.map (·.1)
theorem Sm.refs(w:vW){S:vT}{m:vL}{L:vM}(h:Sm S m L){G:vT}(hG:G.map Nb=Cm L){x r:vB}(q:r∈Ik G x):Rm S G r:=by
 unfold Ik at q;cases ha:Be G x.data.toList with
 |none=>rw[ha]at q;cases q
 |some y =>rw[ha]at q;obtain⟨t,O,_,e⟩:=Xp hG (Fd ha).1;have q:r∈y.2.2.refs:=q;rw[e]at q;obtain⟨n,K,A⟩:=(RB h.ok).node t (h.sub t O);have q:r∈Gc (Bq t):=q;rw[BL w (Vm K) K]at q;obtain⟨X,H,e⟩:=A r q;subst e;rcases h.all X H with h1|h1;{exact .inr (jl0 hG h1)};exact .inl (Xs.2 h1)
theorem Sm.why(w:vW)(h:Sm S m L){k:Int}(hk:XD False room S L k):k=3/\room<(S.length:Int)+(L.length:Int):=by
 rcases hk with⟨_,e⟩|⟨_,G,hG,x,r,hr,hno⟩|⟨rfl,top,G,M,_,hG,hP,hroom⟩
 ·exact e.elim
 ·exact absurd (h.refs w hG hr) hno
 ·have e:=KU (S:=S) (M:=M) (λx q=>hP.at' q);have A:=(GC L).2.2;rw[<-hG,bT]at A;exact⟨rfl,by omega⟩
theorem jl5(f:Gk->Gk)(hf:∀ x,(f x).1=x.1):∀ (L:vT) (k:Eo),Be (L.map f) k=(Be L k).map f
 |[],k=>rfl
 |x::L,k=>by
  unfold Be;rw[bP,fQ,fQ,hf];cases e:decide (k=x.1)with
  |true=>rfl
  |false=>exact jl5 f hf L k
theorem jQ(r:vB)(k:Eo):cK [r] k=if k=r.data.toList then 1 else 0:=by
 have:=LJ r [] k
 rw[this];unfold cK;simp
structure Sj(w:World)(U:vM)(S:vT)(m:vL)(L:vM)(S':vT):Prop where
 kp:Kp U S'
 key:∀ k,k∈S'.map (·.1)↔k∈S.map (·.1)\/∃ t∈Ld m,k=ky t
 held:∀ k,Xy (Be S' k)=Xy (Be S k)+if k=ky (Cr m).text then 1 else 0
 sum:Jb S'=Jb S+1
 len:S'.length<=S.length+L.length
 blk:∀ x∈S',x.2.1∈S.map (·.2.1)\/(w:Nat)<=x.2.1
 bd:∀ n:Int,0<=n->(∀ x∈S,x.2.2.held<=n)->∀ x∈S',x.2.2.held<=n+1
theorem Sm.add(hU:Gi U)(hK:Kp U S)(h:Sm S m L)(hs:∀ t∈Ld m,t∈U)(hl:L.length<=1000){M:vM}(hA:Mb w s bm room S L (Cr m).text G M e w'):Sj w U S m L (Gl S G M (Cr m).text):=by
 have Z:=hA.path;have X:=hA.given;have hF:=TP X hA.nodes hl;have a3:((Gl S G M (Cr m).text).map (·.1)).Nodup:=hA.st.nd;have q:∀ x∈Lj G (Da S M),x∈G/\(∃ t∈L,x.1=ky t/\x.2.2=Fu t)/\Be S x.1=none:=λx A=>by obtain⟨h1,z,K,e⟩:=Vn A;exact⟨h1,Xp X h1,by rw[e];exact (EO.1 K).2⟩
 have a4:∀ x∈S++Lj G (Da S M),∃ t∈U,x.1=ky t/\x.2.2.text=t/\x.2.2.refs=Gc (Bq t):=λx A=>by rcases bR.1 A with A|A;{exact hK.is x A};obtain⟨t,ht,e1,e2⟩:=(q x A).2.1;exact⟨t,hs t (h.sub t ht),e1,by rw[e2];rfl,by rw[e2];rfl⟩
 have a0:Kp U (Gl S G M (Cr m).text):=by refine⟨λx' a1=>?_,pS hK.cnt X hF Z,oO hK.cnt hK.full X Z⟩;rw[Vp]at a1;obtain⟨x,A,rfl⟩:=bC.1 a1;exact a4 x A
 have H:ky (Cr m).text∈(Gl S G M (Cr m).text).map (·.1):=by rw[JY];exact Xs.1 (LM Z (by rw[Z.is];exact bN))
 have a2:∀ k,Be (Gl S G M (Cr m).text) k=(Be (S++Lj G (Da S M)) k).map (DN ((Da S M).flatMap (Ik G)) (Aj (Cr m).text)):=λk=>by rw[Vp];exact jl5 (DN ((Da S M).flatMap (Ik G)) (Aj (Cr m).text)) (λ_=>rfl) _ k
 refine⟨a0,λk=>?_,λk=>?_,jzo a3 X Z,?_,λx A=>?_,λn hn hb=>nA hb hn X⟩
 ·constructor;{intro O;rw[JY,bW,bR]at O;rcases O with O|O;{exact .inl O};obtain⟨x,A,rfl⟩:=bC.1 O;obtain⟨t,ht,e1,_⟩:=(q x A).2.1;exact .inr ⟨t,h.sub t ht,e1⟩};rintro (O|⟨t,ht,rfl⟩);{rw[JY,bW,bR];exact .inl O};exact oU w hU a0 h.ok hs H t ht
 ·rw[a2];(have K:(if k=ky (Cr m).text then (1:Int)else 0)=((cK [Aj (Cr m).text] k:Nat):Int):=by rw[jQ];unfold ky;split<;>rfl);rw[K];unfold Be;rw[iX];cases hS:List.find? (λx=>decide (k=x.1)) S with| some y =>have a5:=(Fd (L:=S) (k:=k) hS).2;show y.2.2.held+((cK [Aj (Cr m).text] y.1:Nat):Int)=y.2.2.held+_;rw[a5]| none =>cases hP2:List.find? (λx=>decide (k=x.1)) (Lj G (Da S M))with| some y =>have hy:=Fd (L:=Lj G (Da S M)) (k:=k) hP2;obtain⟨t,ht,e1,e2⟩:=(q y hy.1).2.1;show y.2.2.held+((cK [Aj (Cr m).text] y.1:Nat):Int)=0+_;rw[hy.2,e2];rfl| none =>show (0:Int)=0+_;rw[jQ];(have:k≠(Aj (Cr m).text).data.toList:=λe=>by have h1:=a2 k;have h2:=Xs.2 H;unfold ky at h2;rw[<-e,h1]at h2;unfold Be at h2;rw[iX,hS,hP2]at h2;cases h2);rw[if_neg this];rfl
 ·have h1:=OW (S:=S) (G:=G) (M:=M) (top:=(Cr m).text);have h2:=KU (S:=S) (M:=M) (λx A=>Z.at' A);have h3:=(GC L).2.2;rw[<-X,bT]at h3;omega
 ·rw[Vp]at A;obtain⟨z,K,rfl⟩:=bC.1 A;rcases bR.1 K with K|K;{exact .inl (bC.2 ⟨z,K,rfl⟩)};exact .inr (hA.news z (q z K).1)
theorem Kp.drop(h:Kp U S){w:vW}(hD:IL w s bm room S S' y w'):Kp U S':=
 ⟨λx e=>by
  obtain⟨z,q,A,_,H,K,_⟩:=hD.sub x e
  obtain⟨u,O,rfl⟩:=bC.1 q
  obtain⟨k1,X,Z,k4,k5⟩:=CR y.2.1 (y.2.2.held-1) u
  obtain⟨t,ht,f1,f2,f3⟩:=h.is u O
  exact⟨t,ht,by rw[A,Z];exact f1,by rw[H,k4];exact f2,by rw[K,X];exact f3⟩,hD.cnt,hD.full⟩
end
section
open Go Go.RowKit
section
variable {w:vW} {s bm:Nat} {room:Int} {S:vT} {L:vM} {top:vB} {G:vT} {M:vM} {e:Ending} {w':vW}
theorem Mb.nodesS(h:Mb w s bm room S L top G M e w')(hN:∀ x∈S,∃ n,Hv x.2.2.text n):∀ x∈Gl S G M top,∃ n,Hv x.2.2.text n:=λx A=>by
 rw[Vp]at A
 obtain⟨z,q,rfl⟩:=bC.1 A
 rcases bR.1 q with q|q
 ·exact hN z q
 ·obtain⟨t,H,_,e⟩:=Xp h.given (Vn q).1
  obtain⟨n,K⟩:=h.nodes t H
  refine⟨n,?_⟩
  show Hv z.2.2.text n;rw[e];exact K
theorem Mb.lenS(h:Mb w s bm room S L top G M e w')(hr:(S.length:Int)<=room):((Gl S G M top).length:Int)<=room:=by
 have q:=h.fits;have A:=OW (S:=S) (G:=G) (M:=M) (top:=top);omega
theorem Mb.len2(h:Mb w s bm room S L top G M e w'):(Gl S G M top).length<=S.length+L.length:=by
 have H:=OW (S:=S) (G:=G) (M:=M) (top:=top);have K:=KU (S:=S) (M:=M) (λx q=>h.path.at' q);have A:=(GC L).2.2;rw[<-h.given,bT]at A;omega
theorem Mb.newS(h:Mb w s bm room S L top G M e w'):∀ x∈Gl S G M top,x.2.1∈S.map (·.2.1)\/(w:Nat)<=x.2.1:=λx A=>by
 rw[Vp]at A
 obtain⟨z,q,rfl⟩:=bC.1 A
 rcases bR.1 q with q|q
 ·exact .inl (bC.2 ⟨z,q,rfl⟩)
 ·exact .inr (h.news z (Vn q).1)
theorem Mb.cntS(h:Mb w s bm room S L top G M e w')(hl:L.length<=1000)(hc:Ns S)(hf:CF S):Ns (Gl S G M top)/\CF (Gl S G M top):=
 ⟨pS hc h.given (TP h.given h.nodes hl) h.path,oO hc hf h.given h.path⟩
end
end
section
open Go Go.RowKit
structure Kq(w0:World)(s bm:Nat)(room:Int)(S:vT)(W:World)(n:Nat):Prop where
 st:Ev W s bm room S
 all:RG S
 bnew:(w0:Nat)<=bm
 new:∀ x∈S,(w0:Nat)<=x.2.1
 cnt:Ns S
 full:CF S
 len:S.length<=n
 fit:(S.length:Int)<=room
 held:∀ x∈S,x.2.2.held<=n
theorem Kq.ext(h:Kq w0 s bm room S W n)(e:Af W W'):Kq w0 s bm room S W' n:=
 ⟨h.st.ext e,h.all,h.bnew,h.new,h.cnt,h.full,h.len,h.fit,h.held⟩
theorem Kq.mono{m:Nat}(h:Kq w0 s bm room S W n)(e:n<=m):Kq w0 s bm room S W m:=
 ⟨h.st,h.all,h.bnew,h.new,h.cnt,h.full,bH h.len e,h.fit,λx q=>kL (h.held x q)⟩
theorem Kq.bds(h:Kq w0 s bm room S W n)(hn:n<=20000):S.length<=100000/\(∀ x∈S,0<=x.2.2.used/\x.2.2.used<=1000000000)/\(∀ x∈S,0<=x.2.2.held/\x.2.2.held<=1000000000):=
 ⟨kL h.len,λx e=>by
  have q:=h.cnt.used x e;have A:=QD (Ko S) x.1;have H:=jmB h.cnt.r16
  have:=h.len
  omega,λx e=>⟨h.cnt.held x e,kL (h.held x e)⟩⟩
theorem Kq.none(h:Ev W' s bm (max room 0) [])(hb:(W:Nat)<=bm)(hw:(w0:Nat)<=↑W):Kq w0 s bm (max room 0) [] W' 0:=
 ⟨h,λx e=>(by cases e),bH hw hb,λx e=>(by cases e),Ns.none,λx e=>(by cases e),bO _,by show (0:Int)<=_;omega,λx e=>(by cases e)⟩
theorem Kq.add{M:vM}(h:Kq w0 s bm room S W n)(hw:(w0:Nat)<=↑W)(hl:L.length<=1000)(h1:1<=L.length)(hY:Mb W s bm room S L top G M e W'):Kq w0 s bm room (Gl S G M top) W' (n+L.length):=by
 obtain⟨A,H⟩:=hY.cntS hl h.cnt h.full
 refine⟨hY.st,hY.nodesS h.all,h.bnew,λx q=>?_,A,H,bH hY.len2 (kL h.len),hY.lenS h.fit,λx q=>?_⟩
 ·rcases hY.newS x q with e|e;{obtain⟨y,K,e⟩:=bC.1 e;rw[<-e];exact h.new y K};exact bH hw e
 ·have:=nA (top:=top) (M:=M) h.held vO hY.given x q;omega
theorem Kq.drop(h:Kq w0 s bm room S W n)(hy:y∈S)(hD:IL W s bm room S S' y W'):Kq w0 s bm room S' W' n:=by
 have q:∀ x∈S',∃ z∈S,x.2.1=z.2.1/\x.2.2.text=z.2.2.text/\x.2.2.held<=n:=λx A=>by obtain⟨v,K,_,O,X,_,Z⟩:=hD.sub x A;obtain⟨z,H,rfl⟩:=bC.1 K;have hb:=h.held z H;refine⟨z,H,?_⟩;rw[O,X,Z];unfold Cn;by_cases hc:z.2.1=y.2.1;{rw[if_pos hc];refine⟨rfl,rfl,?_⟩;show y.2.2.held-1<=(n:Int);have:=h.held y hy;omega};rw[if_neg hc];exact⟨rfl,rfl,hb⟩
 refine⟨hD.st,λx A=>?_,h.bnew,λx A=>?_,hD.cnt,hD.full,bH hD.len h.len,?_,λx A=>(q x A).choose_spec.2.2.2⟩
 ·obtain⟨z,H,_,e,_⟩:=q x A;rw[e];exact h.all z H
 ·obtain⟨z,H,e,_⟩:=q x A;rw[e];exact h.new z H
 ·have h1:=hD.len;have:=h.fit;omega
theorem Ev.Z{L:vT}(h:Ev W s bm room L)(k:Ad F W W')(hs:¬ F s)(hm:¬ F bm)(hL:∀ x∈L,¬ F x.2.1)(hF:Mm W F):Ev W' s bm room L:=⟨h.st.Z k hs,h.mp.Z k hm hL hF⟩
theorem Kq.Z(h:Kq w0 s bm room S W n)(k:Ad F W W')(hs:¬ F s)(hm:¬ F bm)(hL:∀ x∈S,¬ F x.2.1)(hF:Mm W F):Kq w0 s bm room S W' n:=
 ⟨h.st.Z k hs hm hL hF,h.all,h.bnew,h.new,h.cnt,h.full,h.len,h.fit,h.held⟩
theorem J2{w:vW}(h:IL w s bm room S S' y w'):∀ x∈S',∃ z∈S,x.2.1=z.2.1:=λx e=>by
 obtain⟨v,q,_,A,_⟩:=h.sub x e
 obtain⟨z,H,rfl⟩:=bC.1 q
 refine⟨z,H,?_⟩
 rw[A];unfold Cn;split<;>rfl
def QL(S:vT)(r:vB)(S':vT):Prop:=(Xy (Be S r.data.toList)=0/\S'=S)\/∃ w s bm room y w',Ev w s bm room S/\Be S r.data.toList=some y/\0<y.2.2.held/\IL w s bm room S S' y w'
def Ub(l:List Au)(es:List (Ce Int))(S:vT)(es':List (Ce Int))(S':vT):Prop:=
 ∀ J00:List (Ce Int)->vT->Prop,(∀ e1 S1 x r S2,J00 e1 S1->x∈e1->Co l x.1=false->x.2.1=.string r->QL S1 r S2->J00 (Kb e1 x.1) S2)->J00 es S->J00 es' S'
theorem Ub.refl:Ub l es S es S:=λ_ _ h=>h
theorem Ub.step(h:Ub l es S e1 S1)(h1:x∈e1)(h2:Co l x.1=false)(h3:x.2.1=.string r)(h4:QL S1 r S2):Ub l es S (Kb e1 x.1) S2:=λA e q=>e _ _ x r _ (h A e q) h1 h2 h3 h4
theorem Ub.sub(h:Ub l es S es' S'):∀ x∈S',∃ z∈S,x.2.1=z.2.1:=
 h (λ_ T=>∀ x∈T,∃ z∈S,x.2.1=z.2.1) (λ_ S1 _ _ S2 A _ _ _ K u H=>by
  rcases K with⟨_,rfl⟩|⟨_,_,_,_,_,_,_,_,_,hD⟩
  ·exact A u H
  ·obtain⟨v,O,e⟩:=J2 hD u H
   obtain⟨X,q,Z⟩:=A v O
   exact⟨X,q,e.trans Z⟩) λx hx=>⟨x,hx,rfl⟩
def Ry(s:List (Ce Int)):Array Nat:=(s.map (·.2.2)).toArray
theorem E6{s:List (Ce Int)}(hx:x∈Fq es (Ry s)):(Fq es (Ry (s++[x]))).length<(Fq es (Ry s)).length:=by
 have e:Fq es (Ry (s++[x]))=(Fq es (Ry s)).filter (λy => !(y.2.2 == x.2.2)):=by unfold Fq Ry;rw[List.filter_filter];refine iY (λy _=>?_);simp only[List.contains_toArray,bW,bP,fY,List.contains_append];by_cases h1:y.2.2=x.2.2<;>simp[h1]
 rw[e,jI]
 exact⟨x,hx,by simp⟩
def Tj(l:List Au)(sn:List (Ce Int))(x:Ce Int):Bool:=Co l x.1 || !(sn.map (·.2.2)).contains x.2.2
theorem ZD{k:Int}:∀ {l:List (Ce Int)},(l.map (·.1)).Nodup->Kb l k=l.filter λx => !decide (k=x.1)
 |[],_=>rfl
 |x::r,h=>by
  have q:x.1 ∉ r.map (·.1)/\(r.map (·.1)).Nodup:=dL.1 h;unfold Kb
  by_cases hk:k=x.1
  ·rw[if_pos hk,iF (by simp[hk])]
   refine (fN.2 λy A=>?_).symm
   have:k≠y.1:=λe=>q.1 (bC.2 ⟨y,A,by rw[<-e,hk]⟩)
   simp[this]
  ·rw[if_neg hk,iE (by simp[hk]),ZD q.2]
theorem lZ{y:Ce Int}(h:y.2.2≠x.2.2):((sn++[x]).map (·.2.2)).contains y.2.2=(sn.map (·.2.2)).contains y.2.2:=by
 simp only[bW,bP,fY,List.contains_append]
 have:[x.2.2].contains y.2.2=false:=by rw[dK];intro e;have:=cM.1 e;exact h (bG.1 this)
 rw[this,Bool.or_false]
theorem x8(hst:(es.map (·.2.2)).Nodup)(hx:x∈es)(hb:Co l x.1=true):es.filter (Tj l (sn++[x]))=es.filter (Tj l sn):=by
 refine iY λy q=>?_;unfold Tj
 by_cases h1:Co l y.1=true
 ·rw[h1];rfl
 ·have:y.2.2≠x.2.2:=λe=>h1 (by rw[Qj hst q hx e];exact hb);rw[lZ this]
theorem oT(hst:(es.map (·.2.2)).Nodup)(hkn:(es.map (·.1)).Nodup)(hx:x∈es)(hb:Co l x.1=false):Kb (es.filter (Tj l sn)) x.1=es.filter (Tj l (sn++[x])):=by
 rw[ZD ((List.filter_sublist.map _).nodup hkn),List.filter_filter];refine iY λy q=>?_;unfold Tj
 by_cases h1:x.1=y.1
 ·have:y=x:=Qj hkn q hx h1.symm;subst this;simp[hb]
 ·have:y.2.2≠x.2.2:=λe=>h1 (by rw[Qj hst q hx e]);rw[lZ this];simp[h1]
theorem K6(h:Fq (es.filter (Tj l sn)) (Ry sn)=[]):es.filter (Tj l sn)=es.filter λx=>Co l x.1:=by
 refine iY λy q=>?_
 by_cases e:Co l y.1=true
 ·unfold Tj;rw[e];rfl
 ·have e:Co l y.1=false:=dK.2 e;unfold Tj;rw[e];cases hc:(sn.map (·.2.2)).contains y.2.2 with| true=>rfl| false =>(have:y∈Fq (es.filter (Tj l sn)) (Ry sn):=by unfold Fq Ry;refine cE.2 ⟨cE.2 ⟨q,by unfold Tj;rw[hc];simp⟩,by simpa using hc⟩);rw[h]at this;cases this
def RA(w:vW)(r:Nat):Array Nat:=match w.heap[r]? with|some (.mapIter _ _ s _)=>s|_=>#[]
theorem NO{w:vW}{r:Nat}{m:Option Nat}{s:Array Nat}(h:Ae w r (.mapIter m a s b)):RA w r=s:=by
 unfold RA;rw[show w.heap[r]?=_ from h]
theorem jzv{a:Act}{w:vW}(x y:Operand)(hx:a.eval x=.map (some rm))(hy:a.eval y=.int .i64 bk)
  (ho:o.op=Op.call { callee:=Callee.builtin Builtin.delete,args:=#[x,y],argTypes:=#[74,3] }) (hb:Ae w rm (.map (EB.arr es) ck))
  (h:∀ W,Ae W rm (.map (EB.arr (Kb es bk)) ck)->Ad (λz=>z=rm) w W->K (a.put o.dst (.tuple #[])) W):o.wp prog a w K Q:=by
 have q:=TB EB Ft hb bk 3 o.type;have e:EB.κ bk=.int .i64 bk:=rfl;rw[e]at q;unfold Oper.wp;simp[execOp,ho,resolve,invoke,builtin,hx,hy,q,Result.andThen];exact h _ (hb.put_same _) (Ad.z7 w rm _)
def DQ(rm bm:Nat)(S:vT):Bd:=λz=>z=rm\/z=bm\/z∈S.map (·.2.1)
def xW(w w0:vW)(D:Nat->Prop)(b:Nat)(M:Dm)(a:Option Addr)(c rm sb cb:Nat)(es:List (Ce Int))(ck bm:Nat)(room:Int)(S:vT)(n r:Nat)(wr:vW):Prop:=
 ∃ sn S',Ae wr r (.mapIter (some rm) ck (Ry sn) ck)/\Kk D wr b M a c rm sb cb (es.filter (Tj M.all sn)) ck/\Kq w0 sb bm room S' wr n/\Ad (DQ rm bm S) w wr/\Ub M.all es S (es.filter (Tj M.all sn)) S'/\((∀ x∈es,Co M.all x.1=true)->S'=S/\Af w wr)
theorem l9(w0:vW)(D:Nat->Prop)(b:Nat)(M:Dm)(a:Option Addr)(c rm sb cb:Nat)(es:List (Ce Int))(ck bm:Nat)(room:Int)(S:vT)(n:Nat)(h:Kk D w b M a c rm sb cb es ck)(hs:Kq w0 sb bm room S w n)(hn:n<=20000)
  (Z:∀ z,z=b\/z=rm\/D z->z≠bm/\z≠sb/\z ∉ S.map (·.2.1)) (a7:rm≠b) (a1:∀ z,D z->z≠rm/\z<(w:Nat)) (hl:M.all.length<=1000)
  (a3:(es.map (·.2.2)).Nodup) (a8:(es.map (·.1)).Nodup) (a9:∀ x∈es,x.2.2<ck) (O:∀ x∈es,∃ r,x.2.1=.string r) :
  vQ 43 #[b] w λe w'=>e=.returned (.tuple #[])/\∃ S',Kk D w' b M a c rm sb cb (es.filter λx=>Co M.all x.1) ck/\Kq w0 sb bm room S' w' n/\Ad (DQ rm bm S) w w'/\Ub M.all es S (es.filter λx=>Co M.all x.1) S'/\((∀ x∈es,Co M.all x.1=true)->S'=S/\Af w w'):=by
 have g9:∀ (fn:Fn) (first cap:Array vV) (w:vW),(Instr.makeFunc fn first cap).run prog w=.ok (.func fn first cap) w:=λ_ _ _ _=>rfl;have e9:=UL EB Ft h.map;have q3:w.cell? ⟨b,3,none⟩=some (.map (some rm)):=h.blk.z1 rfl;have H:=J (kQ h hs hn Z a7 a1 hl);have HE:=J (kU a3 a8 a9 O)
 obtain⟨nl,f0⟩:=vE M.all.length
 have f1:=J f0;clear h hs hn Z a7 a1 hl a3 a8 a9 O f0;unfold vQ;go_in;go_wp2
 go_loopw [] (λwr=>xW w w0 D b M a c rm sb cb es ck bm room S n w wr) (λwr=>(Fq es (RA wr w)).length)
 case atStart =>(have hE:=(Aa w).alloc (.mapIter (some rm) ck #[] ck);have hf:es.filter (Tj M.all [])=es:=fN.2 λy _=>by unfold Tj;simp);refine⟨[],S,Ae.new w _,?_,H.o.2.1.ext hE,hE.mono kZ,?_,λ_=>⟨rfl,hE⟩⟩;{rw[hf];exact H.o.1.ext hE};rw[hf];exact .refl
 case round =>obtain⟨sn,S',hB,hM,hS,hK,b8,A⟩:=hrel;have q:=b8.sub;have d9:=J b8;clear b8;obtain⟨a3,a8,a9,O⟩:=HE.o;have HR:=J (kY hB hM hS hK q A);rcases UQ EB hM.map hB (λx hx=>a9 x (cE.1 hx).1) 0 with⟨hl0,hnx⟩|⟨x,b9,w2,hnx,c0,X⟩;{have c1:=K6 hl0;(have f9:=J c1;clear c1 hl0 hB hM hS hK q A a3 a8 a9 O e9 q3;go_wp2_with fail);refine bodyPost_end (results_none rfl _ _ _) rfl ?_;obtain⟨hB,hM,hS,hK,q,A⟩:=HR.o;have b8:=d9.o;rw[f9.o]at hM b8;exact⟨rfl,S',hM,hS,hK,b8,A⟩};have c2:=(cE.1 b9).1;have b0:=(cE.1 c2).1;obtain⟨rr,c8⟩:=O x b0;have d4:rm≠(w:Nat):=kL H.o.1.map.lt;have f2:=hM.map.Z X d4;have c1:=UK EB f2 c2 c0 ((List.filter_sublist.map _).nodup a3);obtain⟨kx,a4⟩:=vE x.1;(rw[c8]at c1 hnx;have e7:(Instr.entry w).run prog w2=.ok (.tuple #[.int .i64 kx,rr]) w2:=by rw[a4];exact c1);(have e8:(Instr.next w false 0).run prog wr=.ok (.tuple #[true,.int .i64 kx,rr]) w2:=by rw[a4];exact hnx);have f3:b≠(w:Nat):=kL H.o.1.blk.lt;(have g0:∀ z,D z->z<(w:Nat)\/True:=λ_ _=>.inr trivial;have q2:(w2.alloc (.cells #[.int .i64 kx] 3)).cell? ⟨b,2,none⟩=some (.slice a nl c):=by rw[f1.o];exact ((hM.blk.Z X f3).alloc _).z1 rfl);(have g2:=J (show Ry (sn++[x])=(Ry sn).push x.2.2 by unfold Ry;simp);have HX:=J (kQ b9 c2 b0 c8 a4 c0 X);clear c1 hnx hB hM hS hK q A a3 a8 a9 O e9 q3 b9 c2 b0 c8 a4 c0 X f2 g2 g0;go_wp2_with fail);have k3:=(Aa w2).alloc (.cells #[.int .i64 kx] 3);have d5:=Ae.new w2 (.cells #[.int .i64 kx] 3);generalize w2.alloc (.cells #[.int .i64 kx] 3)=w3 at k3 d5 q2 ⊢;obtain⟨b9,c2,b0,c8,a4,c0,X⟩:=HX.o;obtain⟨hB,hM,hS,hK,q,A⟩:=HR.o;have a1:∀ z,D z->¬ z=(w:Nat):=λz hz e=>kL ((H.o.i z hz).2);have f4:=(hM.ver.Z X a1).ext k3;have e0:=h4 91 m3 (λargs w=>by kernel_rfl) w3 D a c M.all f4 (kL H.o.2.2.2.2.2.2) w2 kx (d5.cell (i:=0) rfl);rw[<-f1.o]at e0;refine e0.mono ?_;rintro e w4 ⟨rfl,e1⟩;have c3:=k3.trans e1;have a7:b≠(w:Nat):=f3;have d4:rm≠(w:Nat):=kL H.o.1.map.lt;(have b1:=(hM.Z X a7 d4 a1).ext c3;have a5:=H.o.2.1.st;have c9:Mm wr (λz=>z=(w:Nat)):=λz g3 fz e e3=>by have e:z=(w:Nat):=e;subst e;cases hB.uniq e3);have b2:=(hS.Z X (by have:=a5.st.lt;show ¬ sb=(w:Nat);omega) (by obtain⟨_,_,h1,_⟩:=a5.mp.mp;have:=h1.lt;show ¬ bm=(w:Nat);omega) (λy hy e=>by obtain⟨z,hz,e2⟩:=q y hy;have:=(a5.mp.items z hz).lt;have e:y.2.1=(w:Nat):=e;omega) c9).ext c3;(have b3:Ad (DQ rm bm S) w w4:=(hK.O (G:=λz=>z=(w:Nat)) X kJ).trans (c3.mono kZ);have b4:Ae w4 w (.mapIter (some rm) ck (Ry (sn++[x])) ck):=by(have e:Ry (sn++[x])=(Ry sn).push x.2.2:=by unfold Ry;simp);rw[e];exact c0.Z c3 kI);(have c4:(∀ x∈es,Co M.all x.1=true)->S'=S/\Af w w4:=λha=>⟨(A ha).1,((A ha).2.O (G:=λz=>z=(w:Nat)) X kJ).trans c3⟩;have d2:x∈Fq es (Ry sn):=by obtain⟨h1,h2⟩:=cE.1 b9;exact cE.2 ⟨b0,h2⟩);(have HM:=J (show (Fq es (Ry (sn++[x]))).length<(Fq es (RA wr w)).length by rw[NO hB];exact E6 d2);have H4:=J (kQ b1 b2 b3 b4 c4 q a7);have g4:=J ((d5.Z e1 kI));have g5:(w2:Nat)≠rm:=by have:=H.o.1.map.lt;have:=hK.size;have:=X.size;omega);clear b9 c2 b0 c8 c0 X hB hM hS hK q A a1 f4 e0 k3 d5 e1 c3 d4 b1 a5 c9 b2 b3 b4 c4 d2 q2 e7 e8 a7;cases hh:Co M.all kx with| true =>(have HH:=J hh;clear hh;go_wp2);go_roundw;(case rel =>obtain⟨b1,b2,b3,b4,c4,q,_⟩:=H4.o;(refine⟨sn++[x],S',b4,?_,b2,b3,?_,c4⟩<;>rw[x8 HE.o.1 HX.o.c (by rw[<-a4];exact HH.o)]);{exact b1};exact d9.o);case measure=>rw[NO H4.o.d];exact HM.o| false =>(have HH:=J hh;clear hh;go_wp2_with fail);have f5:rm≠b:=H.o.e;refine Na [0,1,2,3,4,5] [5] Af (Ad λz=>z=rm) Aa Ap (λx y z h k=>Ad.trans h k) (λx y h=>h.mono kZ) vY vY vY ?_;refine vD ?_;refine Lx _ b rfl zh (vS ?_);refine vD ?_;refine Fa ⟨b,3,none⟩ (.map (some rm)) rfl (λw5 h5=>De zf ((H4.o.1.blk.drew.Z h5 λe=>f5 e.symm).z1 rfl)) (vS ?_);refine Fa w2 (.int .i64 kx) rfl (λw5 h5=>De zf ((g4.o.drew.Z h5 g5).cell (i:=0) rfl)) (vS ?_);refine Hh _ rfl (λwb hb K hK=>?_);have kb:Af w4 wb:=(Ao _).trans hb;refine jzv _ _ rfl rfl rfl (H4.o.1.map.Z kb kI) (λW5 d0 a2=>hK _ _ a2 ?_);have HS:=J (kT kb d0 a2);clear hK K hb kb d0 a2;refine vS ?_;refine Mt (λw6 h6=>?_);obtain⟨kb,d0,a2⟩:=HS.o;obtain⟨b1,b2,b3,b4,c4,q,a7⟩:=H4.o;obtain⟨e4,d6,hn,Z,_,a1,hl⟩:=H.o;obtain⟨a3,a8,a9,O⟩:=HE.o;(have b0:=HX.o.c;have a4:=HX.o.e;have g6:=e4.map.lt;have d7:=Z rm (.inr (.inl rfl));have d8:=b1.ext kb;have b5:Kk D w6 b M a c rm sb cb (es.filter (Tj M.all (sn++[x]))) ck:=by have h5:=d0.Z h6 kI;rw[<-oT a3 a8 b0 (by rw[<-a4];exact HH.o), <-a4];exact⟨(d8.blk.Z a2 λe=>f5 e.symm).Z h6 kI,(d8.ver.Z a2 λz hz e=>(a1 z hz).1 e).ext h6,h5⟩);(have c9:Mm wb (λz=>z=rm):=λz g3 fz e e3=>by have e:z=rm:=e;subst e;cases d8.map.uniq e3);have a0:=((b2.ext kb).Z a2 (λe=>d7.2.1 e.symm) (λe=>d7.1 e.symm) (λy hy e=>by obtain⟨z,hz,e2⟩:=q y hy;have e:y.2.1=rm:=e;exact d7.2.2 (bC.2 ⟨z,hz,by rw[<-e2,e]⟩)) c9).ext h6;(have c5:Ad (DQ rm bm S) w w6:=((b3.trans (kb.mono kZ)).trans (a2.mono λz _ e=>.inl e)).trans (h6.mono kZ);have c7:=((b4.Z kb kI).Z a2 (by show ¬ (w:Nat)=rm;omega)).Z h6 kI;have q4:w6.cell? ⟨b,4,none⟩=some (.pointer (some sb)):=b5.blk.z1 rfl;have f6:=J0 w6 sb bm room S' a0.st a0.cnt a0.full (kL a0.len) (λy hy=>kL (a0.held y hy)) rr;have H6:=J (kX b5 a0 c5 c7 q);have g7:=J f6;clear kb d0 a2 b1 b2 b3 b4 c4 q a7 e4 d6 hn Z a1 hl a3 a8 a9 O g6 d7 d8 b5 c9 a0 c5 c7 f6 h6 HS;go_wp2_with fail);refine g7.o.mono ?_;rintro e w7 h7;have f7:=J (show ¬(∀ x∈es,Co M.all x.1=true)from λha=>by have:=ha x HX.o.c;rw[<-HX.o.e,HH.o]at this;cases this);have b6:=λS2 (h:QL S' rr S2)=>d9.o.step HX.o.b (by rw[<-HX.o.e];exact HH.o) HX.o.d h;rw[oT HE.o.1 HE.o.b HX.o.c (by rw[<-HX.o.e];exact HH.o)]at b6;have d3:=J b6;clear b6;rcases h7 with⟨h0,rfl,hE7⟩|⟨S2,y,hy,hpos,rfl,hD⟩;{have d1:=J hE7;(have b7:=J (d3.o S' (.inl ⟨h0,rfl⟩));clear hE7 h0;go_wp2);go_roundw;(case rel =>obtain⟨b5,a0,c5,c7,q⟩:=H6.o;exact⟨sn++[x],S',c7.Z d1.o kI,b5.ext d1.o,a0.ext d1.o,c5.trans (d1.o.mono kZ),b7.o,λha=>absurd ha f7.o⟩);case measure=>rw[NO (H6.o.2.2.2.1.Z d1.o kI)];exact HM.o};have HD:=J (bA hy hD);(have b7:=J (d3.o S2 (.inr ⟨_,_,_,_,y,_,H6.o.2.1.st,hy,hpos,hD⟩));clear hy hD hpos;go_wp2_with fail);obtain⟨b5,a0,c5,c7,q⟩:=H6.o;obtain⟨e4,d6,hn,Z,_,a1,hl⟩:=H.o;obtain⟨hy,hD⟩:=HD.o;(have e5:∀ z,(z=bm\/z∈S'.map (·.2.1))->z=bm\/z∈S.map (·.2.1):=λz hz=>hz.imp id λh=>by obtain⟨u,hu,rfl⟩:=bC.1 h;obtain⟨v,hv,e⟩:=q u hu;exact bC.2 ⟨v,hv,e.symm⟩);(have e6:∀ z,(z=b\/z=rm\/D z)->¬(z=bm\/z∈S'.map (·.2.1)):=λz hz e=>by have:=Z z hz;rcases e5 z e with h|h;{exact this.1 h};exact this.2.2 h);(have h3:bm<(w:Nat):=by obtain⟨_,_,h1,_⟩:=d6.st.mp.mp;exact h1.lt);have g8:=c7.Z hD.kp (λe=>by rcases e5 _ e with h|h;{omega};obtain⟨u,hu,e⟩:=bC.1 h;have:=(d6.st.mp.items u hu).lt;omega);have f8:=J g8;go_roundw;(case rel =>refine⟨sn++[x],S2,f8.o,b5.Z hD.kp (e6 b (.inl rfl)) (e6 rm (.inr (.inl rfl))) λz hz=>e6 z (.inr (.inr hz)),a0.drop (Fd hy).1 hD,c5.trans (hD.kp.mono λz _ e=>.inr (e5 z e)),b7.o,λha=>absurd ha f7.o⟩);case measure=>rw[NO f8.o];exact HM.o
structure Fp(w0:World)(D:Nat->Prop)(W:World)(b:Nat)(M:Dm)(a:Option Addr)(c rm sb cb:Nat)(es:List (Ce Int))(ck bm:Nat)(room:Int)(S:vT)(n:Nat):Prop where
 m:Kk D W b M a c rm sb cb es ck
 s:Kq w0 sb bm room S W n
 sep:∀ z,z=b\/z=rm\/D z->z≠bm/\z≠sb/\z ∉ S.map (·.2.1)
 rb:rm≠b
 db:¬ D b
 dr:∀ z,D z->z≠rm/\z<(W:Nat)
 ok:Fh M
 st:(es.map (·.2.2)).Nodup
 kn:(es.map (·.1)).Nodup
 lt:∀ x∈es,x.2.2<ck
 val:∀ x∈es,∃ r,x.2.1=.string r
theorem Fp.ext{a:Option Addr}{c:Nat}(h:Fp w0 D W b M a c rm sb cb es ck bm room S n)(k:Af W W'):Fp w0 D W' b M a c rm sb cb es ck bm room S n:=
 ⟨h.m.ext k,h.s.ext k,h.sep,h.rb,h.db,λz e=>⟨(h.dr z e).1,bE (h.dr z e).2 k.size⟩,h.ok,h.st,h.kn,h.lt,h.val⟩
theorem Fp.lt'{a:Option Addr}{c:Nat}(h:Fp w0 D W b M a c rm sb cb es ck bm room S n):b<(W:Nat)/\rm<(W:Nat)/\sb<(W:Nat)/\bm<(W:Nat)/\∀ z∈S.map (·.2.1),z<(W:Nat):=
 ⟨h.m.blk.lt,h.m.map.lt,h.s.st.st.lt,by obtain⟨_,_,e,_⟩:=h.s.st.mp.mp;exact e.lt,λz q=>by
  obtain⟨x,A,rfl⟩:=bC.1 q
  exact (h.s.st.mp.items x A).lt⟩
theorem Fp.turn{a a':Option Addr}{c:Nat}(h:Fp w0 D W b M a c rm sb cb es ck bm room S n)(k:Af W W')(hv:Dh (Fs W W') W' (.slice a' M'.all.length c') M'.all)(hM':Fh M')
  (hB:Ae W'' b (.cells (([(M'.win:Int),(M'.next:Int),.slice a' M'.all.length c']:List vV)++(Sd M a c rm sb cb).drop 3).toArray 80)) (k':Ad (λz=>z=b) W' W''):Fp w0 (Fs W W') W'' b M' a' c' rm sb cb es ck bm room S n:=by
 obtain⟨l1,l2,l3,l4,X⟩:=h.lt'
 have H:∀ z,Fs W W' z->(W:Nat)<=z/\z<(W':Nat):=λz q=>q;have K:=h.s.ext k;have A:=h.sep b (.inl rfl)
 refine⟨h.m.turn k hv hB k' h.rb λz q e=>kL ((H z q).1),K.Z k' (λe=>A.2.1 e.symm) (λe=>A.1 e.symm) (λx Z e=>A.2.2 (bC.2 ⟨x,Z,e⟩)) λz a0 fz e O=>?_,λz q=>?_,h.rb,λe=>kL ((H b e).1),λz q=>⟨λe=>kL ((H z q).1),bE (H z q).2 k'.size⟩,hM',h.st,h.kn,h.lt,h.val⟩
 ·have e:z=b:=e;subst e;have:=(h.m.ext k).blk.uniq O;injection this with _ e _;exact absurd e vI
 ·rcases q with q|q|q;{exact h.sep z (.inl q)};{exact h.sep z (.inr (.inl q))};have h1:=(H z q).1;exact⟨by omega,by omega,λe=>kL (X z e)⟩
theorem UI(w0:vW)(D:Nat->Prop)(b:Nat)(M:Dm)(a:Option Addr)(c rm sb cb:Nat)(es:List (Ce Int))(ck bm:Nat)(room:Int)(S:vT)(n:Nat)(h:Fp w0 D w b M a c rm sb cb es ck bm room S n)(hn:n<=20000)(hl:M.all.length<=1000):vQ 43 #[b] w λe w'=>e=.returned (.tuple #[])/\∃ H,Fp w0 D w' b M a c rm sb cb (es.filter λx=>Co M.all x.1) ck bm room H n/\Ad (DQ rm bm S) w w'/\Ub M.all es S (es.filter λx=>Co M.all x.1) H/\((∀ x∈es,Co M.all x.1=true)->H=S/\Af w w'):=by
 refine (l9 w w0 D b M a c rm sb cb es ck bm room S n h.m h.s hn h.sep h.rb h.dr hl h.st h.kn h.lt h.val).mono ?_;rintro e w' ⟨he,H,hM,hS,Z,A,K⟩;have q:(es.filter λx=>Co M.all x.1).Sublist es:=jN
 refine⟨he,H,⟨hM,hS,λz X=>?_,h.rb,h.db,λz X=>⟨(h.dr z X).1,bE (h.dr z X).2 Z.size⟩,h.ok,(q.map _).nodup h.st,(q.map _).nodup h.kn,λx O=>h.lt x (q.subset O),λx O=>h.val x (q.subset O)⟩,Z,A,K⟩
 obtain⟨h1,h2,h3⟩:=h.sep z X
 refine⟨h1,h2,λe=>?_⟩
 obtain⟨x,O,e⟩:=bC.1 e
 obtain⟨y,hy,e2⟩:=A.sub x O
 exact h3 (bC.2 ⟨y,hy,by rw[<-e,e2]⟩)
theorem D5{x:Int}:(Nv M x).2≠0->(Nv M x).1=M:=by
 unfold Nv;split
 ·exact λ_=>rfl
 ·split;{exact λ_=>rfl};split;{exact λ_=>rfl};exact λh=>absurd rfl h
theorem D6{x:Int}:(Nv M x).1.all.length<=M.all.length:=by
 unfold Nv;split
 ·exact bO _
 ·split;{exact bO _};split;{exact bO _};refine bH BG.length_le ?_;unfold Lz;rw[iB];exact bO _
theorem p4(w0:vW)(D:Nat->Prop)(b:Nat)(M:Dm)(a:Option Addr)(c rm sb cb:Nat)(es:List (Ce Int))(ck bm:Nat)(room:Int)(S:vT)(n:Nat)(h:Fp w0 D w b M a c rm sb cb es ck bm room S n)(hn:n<=20000)(hl:M.all.length<=900)(at':Int):vQ 13 #[b,.int .i64 at'] w λe w'=>e=.returned (.int .i64 (Nv M at').2)/\Ad (λz=>z=b\/DQ rm bm S z) w w'/\∃ D' a' c' es' S',Fp w0 D' w' b (Nv M at').1 a' c' rm sb cb es' ck bm room S' n/\((Nv M at').2≠0->es'=es/\S'=S)/\((Nv M at').2=0->es'=es.filter λx=>Co (Nv M at').1.all x.1)/\Ub (Nv M at').1.all es S es' S'/\((∀ x∈es,Co (Nv M at').1.all x.1=true)->S'=S)/\∀ z,D' z->D z\/(w:Nat)<=z:=by
 have H:=J h;have HP:=J (bA hn hl);have b8:=h.m.blk.lt
 obtain⟨R,hR⟩:=vE (Nv M at')
 have HR:=J hR;rw[<-hR]
 obtain⟨nl,a8⟩:=vE M.all.length
 have HN:=J a8;clear h hn hl hR a8;unfold vQ;go_in;go_wp2_with fail
 refine vC (DC w D b M a c rm sb cb es ck H.o.m) λw2 q=>?_;have q0:w2.cell? b=some (.int .i64 (M.win:Int)):=(H.o.m.ext q).blk.z1 rfl;have q1:w2.cell? ⟨b,1,none⟩=some (.int .i64 (M.next:Int)):=(H.o.m.ext q).blk.z1 rfl;have q2:w2.cell? ⟨b,2,none⟩=some (.slice a nl c):=by rw[HN.o];exact (H.o.m.ext q).blk.z1 rfl
 have A:=J q;clear q;go_wp2_with fail
 have hp:=M4 w2 D M _ (H.o.m.ext A.o).ver H.o.ok HP.o.2 at';rw[<-HN.o, <-HR.o]at hp;refine hp.mono ?_;rintro e w3 ⟨av,rfl,a9,a2⟩
 obtain⟨a3,c3,b5⟩:=a2.sl
 subst b5;have O:=J (bA a9 a2);clear hp a9 a2 q0 q1 q2;unfold Il;have b6:=((H.o.m.ext A.o).ext O.o.1).blk
 by_cases he:R.2=0
 ·have K:=J he
  rw[he];clear he;go_wp2_with (first
   |(refine Di Cy rfl rfl ?_;intro W4 a4 a5)
   |(refine Bt (vs:=[(R.1.win:Int),(R.1.next:Int),.slice a3 R.1.all.length c3]) rfl rfl rfl rfl a4 rfl Aq zc ?_;intro W5 X a7
     have q0:W5.cell? w3=some (.int .i64 (R.1.win:Int)):=X.z1 rfl;have q1:W5.cell? ⟨↑w3,1,none⟩=some (.int .i64 (R.1.next:Int)):=X.z1 rfl;have q2:W5.cell? ⟨↑w3,2,none⟩=some (.slice a3 R.1.all.length c3):=X.z1 rfl;have k5:Af w3 W5:=a5.O a7 kJ
     have Z:=J (bA k5 (b6.Z k5 kI));clear k5)
   |(refine SQ (old:=Sd M a c rm sb cb) (vs:=[(R.1.win:Int),(R.1.next:Int),.slice a3 R.1.all.length c3]) rfl rfl rfl rfl Z.o.2 (by show 3<=6;decide) Aq zc ?_;intro W6 b7 b0))
  have kx:=A.o.trans (O.o.1.trans Z.o.1);have hv:=(O.o.2.ext Z.o.1).mono (λz hz=>(show Fs w W5 z from⟨by have:=hz.1;have:=A.o.size;omega,by have:=hz.2;have:=Z.o.1.size;omega⟩));have b1:=H.o.turn kx hv (by rw[HR.o];exact M5 H.o.ok at') b7 b0;have b2:=UI W6 w0 _ b R.1 a3 c3 rm sb cb es ck bm room S n b1 HP.o.1 (by rw[HR.o];have:=D6 (M:=M) (x:=at');have:=HP.o.2;omega);have K6:=J (bA kx b0);refine b2.mono ?_;clear b2 b1 hv kx q0 q1 q2;rintro e w7 ⟨rfl,S',b3,b4,a0,a1⟩;have H7:=J (kT b3 b4 (bA a0 λh=>(a1 h).1));clear b3 b4 a0 a1;go_wp2
  go_ret
  refine⟨by rw[K.o];rfl,?_,_,a3,c3,_,S',H7.o.1,λh=>absurd K.o h,λ_=>rfl,H7.o.c,H7.o.D,λz hz=>.inr hz.1⟩
  exact ((K6.o.1.mono kZ).trans (K6.o.2.mono λz _ e=>.inl e)).trans (H7.o.2.1.mono λz _ e=>.inr e)
 ·have e1:(R.2 != 0)=true:=by simpa using he
  have K:=J he;clear he;go_wp2_with (first
   |(refine Di Cy rfl rfl ?_;intro W4 a4 a5)
   |(refine Bt (vs:=[(R.1.win:Int),(R.1.next:Int),.slice a3 R.1.all.length c3]) rfl rfl rfl rfl a4 rfl Aq zc ?_;intro W5 X a7))
  go_ret;have k5:Af w3 W5:=a5.O a7 kJ
  have hk:=A.o.trans (O.o.1.trans k5);have g1:=D5 (M:=M) (x:=at') (by rw[<-HR.o];exact K.o);rw[<-HR.o]at g1
  refine⟨rfl,hk.mono kZ,D,a,c,es,S,?_,λ_=>⟨rfl,rfl⟩,λh=>absurd h K.o,.refl,λ_=>rfl,λz hz=>.inl hz⟩
  rw[g1];exact H.o.ext hk
end
section
open Go Go.RowKit
attribute [local go_sem] Oper.semAt_some
theorem t6(s bm:Nat)(room:Int)(L:vT)(h:Ev w s bm room L)(hl:L.length<=1000000):vQ 58 #[s] w λe w'=>∃ v,e=.returned v/\Cg w w' v L.length (FP (Ru (L.map (·.1)))):=by
 have q1:=h.st.cell (i:=1) (v:=.map (some bm)) vF
 obtain⟨es,ck,hm,a9⟩:=h.mp.mp
 have d0:=SP Al Ex hm;have b0:es.length=L.length:=a9.lenL;rw[b0]at d0
 obtain⟨i0,hi,b8,b9,c0⟩:=info_parts Jk
 obtain⟨w1,a1,a2,b1⟩:=run_make_own (P:=prog) (w:=w) w 51 9 i0 _ 1 Ci.ht hi b8 b9 .i64 .i64 L.length (by rw[c0];omega) zi (bO _)
 have k1:Af w w1:=Ad.y3 b1 (λ_ e=>by cases e);have c1:=Ar.made w a2 b1;have d5:=Am q1 k1;have K:=hm.Z k1 kI;have d6:=UL Al Ex K;have HM:=J a9;have K1:=J k1;have c2:=J c1;have c3:=J hm;clear h a2 b1 hm a9 hi b8 b9 c0 k1 c1 K;unfold vQ;go_in;go_wp2_with fail
 obtain⟨r,hr⟩:=vE w1.heap.size
 have HR:=J hr;rw[<-hr];clear hr;go_loopw [3] (λv wr=>yC w r bm ck es v wr) (λv _=>L.length-JC v)
 case atStart =>have hz:=K1.o.size;refine⟨[],⟨c2.o.mono ((Aa w1).alloc _),?_,λx hx=>(by cases hx),List.nodup_nil,λb hb e=>?_⟩⟩;{rw[HR.o];exact Ae.new w1 _};have:=c2.o.lt b hb;rw[HR.o]at e;omega
 case round =>obtain⟨q,H⟩:=hrel;obtain⟨ad,cp,rfl⟩:=H.row.sl;have a5:=(c3.o).Z H.row.ext kI;have b4:q.length<=es.length:=H.len;rcases UQ Al a5 H.it HM.o.lt 0 with⟨hl0,hnx⟩|⟨x,hxl,w2,hnx,hr2,hk2⟩;{have hp:=H.done hl0 HM.o.born;(have a3:q.length=L.length:=by rw[hp.length_eq,b0]);(have c4:Ru (q.map (·.1))=Ru (L.map (·.1)):=by rw[eY (hp.map _),HM.o.keysL]);(have d1:=J c4;have O:=J (show Ar 9 1 w wr (.slice ad q.length cp) q.length ((q.map (·.1)).map encStr)from H.row);have b2:=J a3;clear H a5 hp c4 a3 hl0 a1;go_wp2_with fail);(refine vC (tI O.o (by rw[b2.o];exact hl)) λw3 a7=>?_;rw[d1.o]at a7;rw[b2.o]at a7 ⊢;have d2:=J a7;clear a7 O b2;go_wp2);go_ret;refine⟨_,rfl,?_⟩;unfold Cg;rw[pZ];exact d2.o};(have d7:(w:Nat)<=r:=by rw[HR.o];exact K1.o.size);(have d8:=c3.o.lt;have c5:=a5.Z hk2 (λe=>by have e:bm=r:=e;omega);have b3:x∈es:=(cE.1 hxl).1;have c7:x.2.2 ∉ q.map (·.2.2):=by have:=(cE.1 hxl).2;simpa [CH]using this);(have c8:=UK Al c5 b3 hr2 HM.o.born;have X:((q++[x]).map (·.2.2)).Nodup:=by rw[bW,dW];exact⟨H.nd,by simp,λa ha b hb e=>by simp at hb;subst hb;subst e;exact c7 ha⟩);(have Z:∀ y∈q++[x],y∈es:=λy hy=>by rcases bR.1 hy with hy|hy;{exact H.sub y hy};simp at hy;exact hy ▸ b3);(have b5:q.length+1<=L.length:=by have:=iO (KY _ X) (λy hy=>Z y hy);rw[b0]at this;simpa using this);(have A:Ar 9 1 w w2 (.slice ad q.length cp) q.length (Zk q):=H.row.Z hk2 (λb hb e=>H.ne b hb e) kJ;have a4:Ae w2 r (.mapIter (some bm) ck (CH (q++[x])) ck):=by(have e:CH (q++[x])=(CH q).push x.2.2:=by unfold CH;simp);rw[e];exact hr2);(have a0:=J (kT X Z H.ne);have O:=J A;have d3:=J a4;have K:q.length+1<=maxLen:=by unfold maxLen;omega);have c9:(q.length+1)*16<=140737488355328:=vO;have d9:=hr2.lt;obtain⟨kx,a8⟩:=vE x.1;(have d4:=J a8;have b6:(Instr.entry r).run prog w2=.ok (.tuple #[encStr kx,x.2.1]) w2:=by rw[a8];exact c8);(have b7:(Instr.next r false 0).run prog wr=.ok (.tuple #[true,encStr kx,x.2.1]) w2:=by rw[a8];exact hnx);obtain⟨n,hn⟩:=vE q.length;(have HN:=J hn;rw[<-hn]at K c9 b5 A O a0 ⊢;clear H a5 c5 hxl hr2 hk2 b3 c7 c8 X Z A a4 a1 hnx a8 b4 hn;unfold encStr at b6 b7;go_wp2_with (at_builtin;refine Qm Ci (O.o.mono ((Aa w2).alloc _)) (.tmp 20) (.tmp 22) rfl rfl rfl (Jx (Ae.new w2 _)) (news:=[encStr kx]) (by intro u hu;simp at hu;rcases hu with rfl;rfl) rfl rfl K c9 ?_;intro v' w' r1 r2 r3));have HX:=J (kT r1 r2 r3);obtain⟨e0,e1,rfl⟩:=r1.sl;(clear r1 r2 r3;go_wp2);go_roundw;(case rel =>obtain⟨r1,r2,r3⟩:=HX.o;have e2:=((Aa w2).alloc (.cells #[.string ⟨kx.toArray⟩] 9)).size;refine⟨q++[x],?_,?_,a0.o.b,a0.o.1,?_⟩;{(have e:Zk (q++[x])=Zk q++[encStr kx]:=by unfold Zk;simp[d4.o]);rw[e,bK, <-HN.o];exact r1};{refine (d3.o.alloc _).Z r2 (λe=>a0.o.C r e rfl)};intro b hb e;rcases r3 with r3|r3;{exact a0.o.C b (r3 ▸ hb) e};have:=r3 b hb;omega);case measure=>simp[JC];omega
end
section
open Go Go.RowKit
theorem o8(w0:vW)(D:Nat->Prop)(b:Nat)(M:Dm)(a:Option Addr)(c rm sb cb:Nat)(es:List (Ce Int))(ck bm:Nat)(room:Int)(S:vT)(n:Nat)(h:Fp w0 D w b M a c rm sb cb es ck bm room S n)(hn:S.length<=100000):vQ 22 #[b] w λe w'=>∃ v,e=.returned v/\Cg w w' v S.length (FP (Ru (S.map (·.1)))):=by
 have H:=J h;have X:=J hn;clear h hn;unfold vQ;go_in;go_wp2_with fail
 refine vH (DC w D b M a c rm sb cb es ck H.o.m) λK q=>?_;have q4:K.cell? ⟨b,4,none⟩=some (.pointer (some sb)):=(H.o.m.ext q).blk.z1 rfl;go_wp2_with fail
 refine (t6 K sb bm room S (H.o.s.st.ext q.o) (kL X.o)).mono ?_;rintro e w3 ⟨v,rfl,O⟩;have A:=J O;clear O;go_wp2
 go_ret
 exact⟨v,rfl,A.o.sl,A.o.own,q.o.trans A.o.ext,λz Z=>by have:=A.o.new z Z;have:=q.o.size;omega⟩
theorem Tc:prog.underlying 66=some (.slice 3):=vY
theorem Sr:(prog.info? 3).map (λi=>(i.zero,i.size,i.bytes))=some (some (.int .i64 0),1,8):=vY
theorem Sw:Mn prog 66 3 1 8:=Mn.mk' Tc Sr rfl vI
def RX(l:List Au):List vV:=l.map λv=>.int .i64 (v.block:Int)
def xV(w:vW)(l:List Au)(lv iv:vV)(wr:vW):Prop:=∃ i:Nat,i<=l.length/\iv=.int .i64 i/\Ar 3 1 w wr lv i (RX (l.take i))
theorem o2(w0:vW)(D:Nat->Prop)(b:Nat)(M:Dm)(a:Option Addr)(c rm sb cb:Nat)(es:List (Ce Int))(ck bm:Nat)(room:Int)(S:vT)(n:Nat)(h:Fp w0 D w b M a c rm sb cb es ck bm room S n)(hl:M.all.length<=1000):vQ 21 #[b] w λe w'=>∃ v,e=.returned v/\Ar 3 1 w w' v M.all.length (RX M.all):=by
 have H:=J h
 obtain⟨A,q⟩:=vE M.all.length
 have O:=J q;have a0:A<=1000:=by rw[q];exact hl
 rw[<-q];clear h hl q;unfold vQ;go_in;go_wp2_with fail
 refine vC (DC w D b M a c rm sb cb es ck H.o.m) λw2 K=>?_;have q2:w2.cell? ⟨b,2,none⟩=some (.slice a A c):=by rw[O.o];exact (H.o.m.ext K).blk.z1 rfl
 have Z:=J K;clear K;go_wp2
 go_loopw [3,15] (λlv iv wr=>xV w M.all lv iv wr) (λ_ iv _=>A-(intOf iv).toNat)
 case atStart=>exact⟨0,cD _,rfl,Ar.nil _ _ Z.o⟩
 case round =>obtain⟨i,hi,rfl,X⟩:=hrel;have HR:=J X;obtain⟨al,cl,rfl⟩:=X.sl;rw[<-O.o]at hi;have hE:=X.ext;clear X;by_cases hlt:i<A;{obtain⟨x,hx⟩:∃ x,M.all[i]?=some x:=⟨_,bB (by rw[<-O.o];exact hlt)⟩;obtain⟨b1,o1,a1,c1,a2,c2,rfl,p0,p1,p2,p3,_,_⟩:=(H.o.m.ver.ext hE).at' hx;have HX:=J hx;have a4:(i:Int)<(A:Int):=vO;(have a5:=hi;clear hx hE;go_wp2_with (at_builtin;go_loud (refine Qm Sw (news:=[(x.block:Int)]) (HR.o.mono (((Aa wr).alloc _).alloc _)) (.tmp 19) (.tmp 22) rfl rfl rfl (by have:=OO (wr.alloc (.cells #[(x.block:Int),.slice a1 x.ents.length c1,.slice a2 x.chgs.length c2,(x.pins:Int)] 91)) 3 [(x.block:Int)];rw[bJ]at this;exact this) zc rfl rfl zi vO ?_);intro v' w' r1 r2 r3));have R1:=J r1;obtain⟨a3,c3,rfl⟩:=r1.sl;(clear r1 r2 r3;go_wp2);go_roundw;{refine⟨i+1,by rw[<-O.o];exact hlt,by simp,?_⟩;have:=R1.o;unfold RX at this ⊢;rw[cB,HX.o,bW];exact this};show A-((i:Int)+1).toNat<A-(i:Int).toNat;omega};obtain rfl:i=A:=vO;(go_wp2);go_ret;refine⟨_,rfl,?_⟩;have:=HR.o;rw[O.o,cF]at this;rw[O.o];exact this
theorem Q0(w0:vW)(D:Nat->Prop)(b:Nat)(M:Dm)(a:Option Addr)(c rm sb cb:Nat)(es:List (Ce Int))(ck bm:Nat)(room:Int)(S:vT)(n:Nat)(h:Fp w0 D w b M a c rm sb cb es ck bm room S n)(hl:M.all.length<=900)(at':Int):vQ 9 #[b,.int .i64 at'] w λe w'=>e=.returned (.tuple #[((Gd M at').2.1:Int),.int .i64 (Gd M at').2.2])/\Ad (λz=>z=b) w w'/\∃ D' H K,Fp w0 D' w' b (Gd M at').1 H K rm sb cb es ck bm room S n/\∀ z,D' z->D z\/(w:Nat)<=z:=by
 refine (P9 w D b M a c rm sb cb es ck h.m h.ok hl h.db h.rb at').mono ?_;rintro e w' ⟨Z,O,H,K,hM⟩
 obtain⟨l1,l2,l3,l4,l5⟩:=h.lt'
 have A:=h.sep b (.inl rfl)
 refine⟨Z,O,_,H,K,⟨hM,h.s.Z O (λe=>A.2.1 e.symm) (λe=>A.1 e.symm) (λx hx e=>A.2.2 (bC.2 ⟨x,hx,e⟩)) λz a0 fz e X=>?_,λz q=>?_,h.rb,λe=>?_,λz q=>?_,yZ h.ok at',h.st,h.kn,h.lt,h.val⟩,λz q=>q.imp id λe=>e.1⟩
 ·have e:z=b:=e;subst e;have:=h.m.blk.uniq X;injection this with _ e _;exact absurd e vI
 ·rcases q with q|q|q|q;{exact h.sep z (.inl q)};{exact h.sep z (.inr (.inl q))};{exact h.sep z (.inr (.inr q))};have h1:=q.1;exact⟨by omega,by omega,λe=>kL (l5 z e)⟩
 ·rcases e with e|e;{exact h.db e};have:=e.1;omega
 ·rcases q with q|q;{exact⟨(h.dr z q).1,bE (h.dr z q).2 O.size⟩};exact⟨kL q.1,q.2⟩
theorem A4(w0:vW)(D:Nat->Prop)(b:Nat)(M:Dm)(a:Option Addr)(c rm sb cb:Nat)(es:List (Ce Int))(ck bm:Nat)(room:Int)(S:vT)(n:Nat)(h:Fp w0 D w b M a c rm sb cb es ck bm room S n)(hn:n<=20000)(hl:M.all.length<=1000)(u:FrameMode)(bd bw bc bb:Nat)
  (hd:w.cell? bd=some (.bool true)) (hc:w.cell? bc=some (.pointer (some b))) :
  CallsD prog 44 #[bd,bw,bc,bb] u w λe A w'=>A=u/\e=.returned (.tuple #[])/\∃ S',Fp w0 D w' b M a c rm sb cb (es.filter λx=>Co M.all x.1) ck bm room S' n/\Ad (DQ rm bm S) w w'/\Ub M.all es S (es.filter λx=>Co M.all x.1) S'/\((∀ x∈es,Co M.all x.1=true)->S'=S/\Af w w'):=by
 have H:=J (UI w w0 D b M a c rm sb cb es ck bm room S n h hn hl);clear h hn hl;go_enter_d func44,ntmps44;go_wp2_with fail
 refine H.o.mono ?_;rintro e O ⟨rfl,q⟩;have K:=J q;clear q hd hc;go_wp2_with fail
 refine bodyPost_end (results_none rfl _ _ _) rfl ?_
 exact⟨rfl,K.o⟩
theorem Q1(w0:vW)(D:Nat->Prop)(b:Nat)(M:Dm)(a:Option Addr)(c rm sb cb:Nat)(es:List (Ce Int))(ck bm:Nat)(room:Int)(S:vT)(n:Nat)(hn:n<=20000)(hl:M.all.length<=1000)(u:FrameMode)(bd bw bc bb:Nat)(x1 x2 x3:vV)(v0:vV)
  (hd:w.cell? bd=some (.bool false)) (hc:w.cell? bc=some (.pointer (some b))) (hw:Ae w bw (.cells (MC M (.slice a M.all.length c)).toArray 72)) (hbb:Ae w bb (.cells #[v0] 3)) (hne:bb≠b/\bc≠b/\bc≠bb)
  (hB:Ae w b (.cells ([x1,x2,x3]++(Sd M a c rm sb cb).drop 3).toArray 80))
  (hfix:∀ W,Ad (λz=>z=b\/z=bb) w W->Ae W b (.cells (Sd M a c rm sb cb).toArray 80)->Fp w0 D W b M a c rm sb cb es ck bm room S n) (q:∀ x∈es,Co M.all x.1=true) :
  CallsD prog 44 #[bd,bw,bc,bb] u w λe u' w'=>u'=u/\e=.returned (.tuple #[])/\Fp w0 D w' b M a c rm sb cb es ck bm room S n/\Ad (λz=>z=b\/z=bb) w w'/\Ae w' bb (.cells #[qa] 3):=by
 have q0:w.cell? bw=some (.int .i64 (M.win:Int)):=hw.z1 rfl;have q1:w.cell? ⟨bw,1,none⟩=some (.int .i64 (M.next:Int)):=hw.z1 rfl
 obtain⟨nl,A⟩:=vE M.all.length
 have q2:w.cell? ⟨bw,2,none⟩=some (.slice a nl c):=by rw[A];exact hw.z1 rfl
 have a5:=J A;have HB:=J (bA hB hbb);have HF:=J hfix;have HA:=J (kT hn hl q);clear hw hB hfix q A hn hl hbb
 obtain⟨n1,n2,n3⟩:=hne
 go_enter_d func44,ntmps44;go_wp2_with (first
  |(refine SQ (old:=[x1,x2,x3]++(Sd M a c rm sb cb).drop 3) (vs:=[(M.win:Int),(M.next:Int),.slice a nl c]) rfl rfl rfl rfl HB.o.1 (by show 3<=6;decide) Aq zc ?_;intro W2 a7 H
    have b2:=HB.o.2.Z H n1;have p2:=b2.cell (i:=0) (v:=v0) rfl;have f2:W2.frozen? bb=false:=b2.frozen;have c2:=Ed hc H n2)
  |(refine MP rfl bb 0 qa rfl rfl rfl rfl vY p2 f2 ?_;intro K O
    have c3:K.cell? bc=some (.pointer (some b)):=by rw[O];exact Ed c2 (Ad.z4 W2 bb qa) n3
    have a1:=J O;clear O))
 have k3:Ad (λz=>z=bb) W2 K:=by rw[a1.o];exact Ad.z4 W2 bb qa
 have X:Ad (λz=>z=b\/z=bb) w K:=(H.mono λz _ e=>.inl e).trans (k3.mono λz _ e=>.inr e);have a2:Ae K b (.cells (Sd M a c rm sb cb).toArray 80):=by
  have:=a7.Z k3 (λe=>n1 e.symm)
  rw[a5.o]at this;exact this
 have a3:Ae K bb (.cells #[qa] 3):=by
  have:=b2.z2 (i:=0) qa
  rw[a1.o];exact this
 have hI:=HF.o K X a2;have a4:=UI K w0 D b M a c rm sb cb es ck bm room S n hI HA.o.1 HA.o.b;refine a4.mono ?_;rintro e w4 ⟨rfl,S',Z,_,_,q⟩
 obtain⟨rfl,a0⟩:=q HA.o.C
 have hf:es.filter (λx=>Co M.all x.1)=es:=fN.2 HA.o.C;rw[hf]at Z;have HR:=J (kT Z (X.trans (a0.mono kZ)) (a3.Z a0 kI));clear k3 X a2 a3 hI a4 Z a0 hf q;go_wp2_with fail
 refine bodyPost_end (results_none rfl _ _ _) rfl ?_
 exact⟨rfl,HR.o⟩
end
section
open Go Go.RowKit
attribute [local go_sem] Oper.semAt_some
end
section
open Go Go.RowKit
theorem Fp.back{a:Option Addr}{c:Nat}(h:Fp w0 D W b M a c rm sb cb es ck bm room S n)(k:Ad (λz=>z=b) W W')(hB:Ae W' b (.cells (Sd M a c rm sb cb).toArray 80)):Fp w0 D W' b M a c rm sb cb es ck bm room S n:=by
 have q:=h.sep b (.inl rfl)
 refine⟨⟨hB,h.m.ver.Z k λz A e=>h.db (by have e:z=b:=e;rw[<-e];exact A),h.m.map.Z k h.rb⟩,h.s.Z k (λe=>q.2.1 e.symm) (λe=>q.1 e.symm) (λx K e=>q.2.2 (bC.2 ⟨x,K,e⟩)) λz O X e H=>?_,h.sep,h.rb,h.db,λz A=>⟨(h.dr z A).1,bE (h.dr z A).2 k.size⟩,h.ok,h.st,h.kn,h.lt,h.val⟩
 have e:z=b:=e;subst e
 have:=h.m.blk.uniq H
 injection this with _ e _;exact absurd e vI
theorem Lo:(callFunc 45 args).run prog w=.ok (.enter 45 args) w:=vY
theorem PJ{a:Act}{w:vW}{T T2:TypeId}{x y:Operand}(ho:o.op=.store T x y)(hx:a.eval x=.pointer (some b))(hy:a.eval y=.agg vs.toArray)
  (hB:Ae w b (.cells old.toArray T2)) (hl:vs.length<=old.length) (hi:(P.info? T).map (·.size)=some vs.length) (h1:∀ v∈vs,v.oneCell'=true)
  (h:∀ W,Ae W b (.cells (vs++old.drop vs.length).toArray T2)->Ad (λz=>z=b) w W->K (a.put o.dst undef) W):o.wp P a w K Q:=by
 refine wp_store_mid T x y ho b 0 vs.toArray hx hy (by have:=UH hB (o:=0) (n:=vs.length) vO;simpa using this) (by simpa using hi) (all_oneCell_toArray h1) (h _ ?_ (Ad.z9 b vs 0 w))
 have:=Ae.setCells vs 0 w old hB vO
 simpa using this
def RM(w0 w:vW)(s bm:Nat)(room:Int)(S:vT)(n:Nat)(N:Int->Prop)(R:vB->vT->Prop)(e:Ending)(w':vW):Prop:=
 (∃ k:Int,k≠0/\N k/\e=.returned (.tuple #[(),.int .i64 k])/\Af w w')\/∃ t S',R t S'/\e=.returned (.tuple #[.string t,qa])/\Kq w0 s bm room S' w' (n+1000)/\Ad (λz=>z=bm\/z∈S.map (·.2.1)) w w'/\∀ x∈S',x.2.1∈S.map (·.2.1)\/(w:Nat)<=x.2.1
theorem R2(h:RH L):AP (∃ t∈L,¬ ∃ n,Hv t n) L:=λt e=>by
 by_cases hn:∃ n,Hv t n
 ·exact .inl hn
 ·exact .inr ⟨(h t e).resolve_left hn,t,e,hn⟩
end
