/- Lemmas. -/
import Derived.Test.YtgppadbgofalpaaGreatDoorPa0
import Derived.Test.YtgppadbgofalpaaGreatDoorPa26
import Derived.Lib.SmallJoins
import Derived.Test.YtgppadbgofalpaaGreatDoorCards
import Derived.Test.YtgppadbgofalpaaGreatDoorTie
import Derived.Deep.DeepHandedRow
import Derived.Lay
namespace Go.Proofs.YtgppadbgofalpaaGreatDoor
open Go.Proofs.Tryz
set_option linter.unusedSimpArgs false
set_option linter.unusedVariables false
set_option maxRecDepth 100000
set_option maxHeartbeats 16000000
variable (W0 w W:vW)(b1 wb k c:Nat){pre lb tmps x:Array vV}{M F:Bf}{assign body:Code}{Q:Exit->Act->vW->Prop}{t N b rm sb cb ck mb g bm n m:Nat}{D:Nat->Prop}{a:Option Addr}{P:Program}{xs ys U nodes:vM}{v1 v2 v3 x2 x3 x4 v pv:vV}{w0 w1 W':vW}
section
open Go Go.RowKit
attribute [local go_sem] Oper.semAt_some
theorem t_{ops:Array Oper}{rest:List Oper}{d:Option Tmp}{ty:TypeId}{pos:String}{af:Array Edge}{a:Act}{w:vW}{s x:Operand}
  (hR:Cd w0 w v n xs) (hP:Cd w1 w pv m ys) (h0:0<m) (hN:n+m=N) (hs:a.eval s=v) (hx:a.eval x=pv) (h63:N<=1000000)
  (h:∀ e w',Cd w0 w' e N (xs++ys)->Ad (fun b=>v.ownBlock=some b) w w'->wpList prog ops Q rest (a.put d e) w') :
  wpList prog ops Q (⟨d,.call { callee:=.builtin .append,args:=#[s,x],argTypes:=#[52,52] },ty,pos,af,none⟩::rest) a w:=by
 subst hN
 obtain⟨Z,⟨rfl,q⟩|⟨g,A,H,rfl,q,h4,h5,h6,h7⟩⟩:=hP.own
 ·omega
 ·exact Rc Cg hR s x rfl hs hx (fun j u J=>hP.own.cells (g:=g) rfl j u J) (fun u K=>by obtain⟨y,_,rfl⟩:=bC.1 K;rfl) (by have:=hP.len;simpa using this) rfl (by unfold maxLen;omega) vO (fun e w' O X _=>h e w' (by unfold Cd;rw[bW];exact O) X)
def tH(w:vW)(l:List Fy)(nv mv iv:vV)(wr:vW):Prop:=∃ i:Nat,i<=l.length/\iv=.int .i64 ((i:Nat):Int)/\Io wr mv (Jt l i)/\Af w wr/\∃ n,Cd w wr nv n (Cw l i)
theorem jrf(hc:Ha w)(v:vV)(l:List Fy)(hv:Zs w v l)(hl:l.length<=10)(hf:∀ p∈l,Ll p.cs=true) :
  vQ 7 #[v] w fun e w'=>∃ b,e=.returned (.bool b)/\(b=true->He (Cw l l.length))/\Af w w':=by
 have HC:=Hd hc;have HV:=Hd hv;have HF:=Hd hf
 obtain⟨ad,c,rfl⟩:=hv.sl;have c7:∀ W:vW,(convert 84 9 (.slice (some ⟨W.heap.size,0,none⟩) 1 1)).run prog (W.alloc (.cells #[.int .u8 128] 5))=.ok (.string ⟨#[128]⟩) (W.alloc (.cells #[.int .u8 128] 5)):=fun W =>
  BT (l:=[128]) _ Bg Ch Ag (World.ownsRow_lit W #[.int .u8 128] 1 (cE _) (by unfold maxLen;omega) rfl)
 obtain⟨ln,O⟩:=vE l.length
 have H:=Hd O;rw[<-O]at hl ⊢;clear hc hv hf O;unfold vQ;go_in;go_wp2_with fail
 have Z:=((Aa w).alloc (.cells #[.int .u8 128] 5)).alloc (.cells #[.string ⟨#[128]⟩] 9);have b4:Cd w ((w.alloc (.cells #[.int .u8 128] 5)).alloc (.cells #[.string ⟨#[128]⟩] 9)) (.slice (some ⟨w.heap.size+1,0,none⟩) 1 1) 1 (Cw l 0):=by
  have:=Av.lit (T:=9) (sz:=1) (w0:=w) (w:=w.alloc (.cells #[.int .u8 128] 5)) #[.string ⟨#[128]⟩] (n:=1) ((Aa w).alloc _) vI rfl
  rwa [bG]at this
 have H0:=Hd (bA Z b4);clear Z b4 c7;go_loopw [3,4,5] (fun nv mv iv wr=>tH w l nv mv iv wr) (fun _ _ iv _=>ln-(intOf iv).toNat)
 case atStart=>exact⟨0,cE _,rfl,.inl ⟨_,_,rfl,rfl⟩,H0.o.1,1,H0.o.2⟩
 case round =>
  obtain⟨i,hi,rfl,a5,hE,n,K⟩:=hrel
  rw[<-H.o]at hi;have b5:n=(Cw l i).length:=by have:=K.len;simpa using this.symm
  have c8:n<=6000:=by have:=aV (l:=l) i;omega
  have a1:=Hd a5;have HE:=Hd hE;have X:=Hd K
  obtain⟨na,nc,rfl⟩:=K.sl
  obtain⟨ma,mc,rfl⟩:=a5.sl;have c9:=Hd (bA b5 c8)
  obtain⟨m,hm⟩:=vE (Jt l i)
  have J:=Hd hm;rw[<-hm]at a1 ⊢;clear a5 hE K hm b5
  by_cases hlt:i<ln
  ·have b1:(i:Int)<(ln:Int):=vO
   obtain⟨p,hp⟩:∃ p,l[i]?=some p:=⟨_,bB (by rw[<-H.o];exact hlt)⟩
   rcases HV.o with⟨_,_,_,h0⟩|⟨vb,vo,vc,hh,hvb,hvc,hcell⟩
   ·rw[H.o,h0]at hlt;cases hlt
   obtain⟨rfl, -,rfl⟩:=dH hh
   obtain⟨h0,h1,h2,a7⟩:=hcell i p hp
   have p0:=Am h0 HE.o;have p1:=Am h1 HE.o
   obtain⟨ua,uc,a8⟩:=a7.sl
   rw[a8]at p1;have d0:=Hd (show Jb w (.slice ua p.cs.length uc) p.cs by rw[<-a8];exact a7);have b6:=HF.o p (bD hp);have b7:=ZZ b6;have b8:=Hd b7;have HP:=Hd hp;have b9:=Fr (show Dv m=0 by rw[J.o];exact MO i);have c0:=Hd b9;clear hcell hh hvb hvc h0 h1 h2 a7 a8 b6 b7 hp b9;go_wp2_with fail
   refine (OI wr _ _ m p.cs a1.o (d0.o.ext HE.o) (by have:=c0.o.len;omega) (by have:=b8.o.1;omega) (fun q hq=>by have:=c0.o.size q hq;omega) (fun d hd=>by have:=b8.o.2 d hd;omega)).mono ?_;rintro e w5 hA;unfold Vd at hA
   by_cases hap:Fi m p.cs=0
   case neg =>
    rw[if_neg hap]at hA
    obtain⟨rfl,a4⟩:=hA
    have HX:=Hd (HE.o.trans a4);have A:=Hd a4;have a9:=Hd hap
    obtain⟨x0,Z⟩:=vE (Fi m p.cs)
    rw[<-Z]at hap ⊢;have e4:(x0 != 0)=true:=by simpa using hap
    have d1:=Am p0 a4
    obtain⟨t1,t2⟩:=JE HP.o (fun h=>a9.o (by rw[J.o];exact h.2))
    have HT:=Hd (bA t1 t2);clear a4 Z hap p0 p1 t1 t2
    by_cases hk:p.k=0
    ·have b0:(p.k != 0)=false:=by simpa using hk
     go_wp2_with fail
     go_roundw
     case rel=>exact⟨i+1,by rw[<-H.o];omega,by go_num,by rw[HT.o.2, <-J.o];exact a1.o.ext A.o,HX.o,n,by rw[HT.o.1];exact X.o.mono A.o⟩
     case measure=>exact vJ
    ·have b0:(p.k != 0)=true:=by simpa using hk
     go_wp2_with fail
     go_roundw
     case rel=>exact⟨i+1,by rw[<-H.o];omega,by go_num,by rw[HT.o.2, <-J.o];exact a1.o.ext A.o,HX.o,n,by rw[HT.o.1];exact X.o.mono A.o⟩
     case measure=>exact vJ
   rw[if_pos hap]at hA
   obtain⟨r5,rfl,hR⟩:=hA
   have a0:Dv (Gw m p.cs)=0:=Ye hap
   obtain⟨m2,a2⟩:=vE (Gw m p.cs)
   have hR:Ey wr w5 r5 (Hi (Lq m p.cs)).length m2:=by rw[a2];exact hR
   have O:(Hi (Lq m p.cs)).length=m2.length:=by rw[a2];rfl
   rw[O]at hR;rw[<-a2]at a0;have d2:=Hd a2;have c1:=Hd (Ey.rd hR);have A:=Hd hR.ext;have d3:=Hd hR.new;have a3:=Hd a0;have a9:=Hd hap;have d1:=Am p0 hR.ext
   obtain⟨ra,rc,rfl⟩:=hR.sl;clear hR a0 a2 O hap p0 p1
   by_cases hk:p.k=0
   case neg =>
    have b0:(p.k != 0)=true:=by simpa using hk
    obtain⟨t1,t2⟩:=JE HP.o (fun h=>hk h.1)
    have HT:=Hd (bA t1 t2);clear t1 t2 hk;go_wp2_with fail
    go_roundw
    case rel=>exact⟨i+1,by rw[<-H.o];omega,by go_num,by rw[HT.o.2, <-J.o];exact a1.o.ext A.o,HE.o.trans A.o,n,by rw[HT.o.1];exact X.o.mono A.o⟩
    case measure=>exact vJ
   have b0:(p.k != 0)=false:=by simpa using hk
   obtain⟨t1,t2⟩:=ME HP.o hk (by rw[<-J.o];exact a9.o)
   rw[<-J.o, <-d2.o]at t1 t2;have HT:=Hd (bA t1 t2);clear t1 t2 hk;go_wp2_with fail
   refine (jv1 w5 _ m2 (HC.o.ext (HE.o.trans A.o)) c1.o a3.o).mono ?_;rintro e w6 ⟨u6,yn,rfl,hY⟩;have hY:Cd w5 w6 u6 yn (Nf m2):=hY;have d4:=aW a3.o;have c2:0<yn:=by
    have h1:=(Rb (Bz (Ds m2)) _).2 (NY (Ds m2))
    have:yn=(Nf m2).length:=by have:=hY.len;simpa using this.symm
    rw[this];exact List.length_pos_of_mem h1
   have d5:yn=(Nf m2).length:=by have:=hY.len;simpa using this.symm
   obtain⟨ya,yc,rfl⟩:=hY.sl
   have d6:=Hd hY;have d7:=Hd (A.o.trans hY.ext);have d8:=Hd (c1.o.ext hY.ext);have b2:=Hd (X.o.mono d7.o)
   obtain⟨N,hN⟩:∃ N,n+yn=N:=⟨_,rfl⟩
   have b3:N<=1000000:=vO
   have d9:=Hd hN;clear hY d5 d4 hN;have e0:=Hd c2;clear c2;go_wp2_with (at_builtin;(refine t_ b2.o d6.o e0.o d9.o rfl rfl b3 ?_;intro v9 w9 r2 r3;have c3:=Hd (bA r2 r3);obtain⟨aa,ac,e1⟩:=r2.sl;subst e1;clear r2 r3))
   have c4:=Hd (show Cd w w9 (.slice aa N ac) N (Cw l (i+1)) by rw[HT.o.1];exact c3.o.1);have e2:=Hd (d8.o.keeps c3.o.2 fun b hb e=>by have:=d3.o b hb;have:=X.o.lt b e;omega);go_roundw
   case rel=>exact⟨i+1,by rw[<-H.o];omega,by go_num,by rw[HT.o.2];exact e2.o,c4.o.ext,N,c4.o⟩
   case measure=>exact vJ
  ·have c5:i=ln:=vO
   have b1:¬(i:Int)<(ln:Int):=vO
   have e3:=Hd c5;clear c5;go_wp2_with fail
   refine (jxu wr (HC.o.ext HE.o) _ (Cw l i) (Cd.rd X.o) (by have:=c9.o;omega)).mono ?_;rintro e w6 ⟨b,rfl,hb,hE⟩;have HB:=Hd (bA hb (HE.o.trans hE));clear hb hE;go_wp2_with fail
   go_ret
   exact⟨b,rfl,fun h=>by have:=HB.o.1.1 h;rw[e3.o]at this;exact this,HB.o.2⟩
end
section
open Go Go.RowKit
def PJ(P:Program)(gf:FuncId)(pre lb:Array vV)(N:Nat)(vals:Nat->Array vV)(M:Bf)(S:Bf->vW->Prop)(SE:Nat->Bf->vW->Prop):Prop:=
 ∀ (l:Nat) (C:Nat->Bf->vW->Prop) (Cx:Nat->Bf->vW->Prop),(∀ k,Ly (C k))->(∀ k D W,¬ Cx k D W) ->
  ∀ D O W,(∀ k D' W',k<N->C k D' W'->Ad (fun b=>D b\/M b) W W'->jq1 P l (vals k) D' W' (C (k+1)) (Cx (k+1))) ->
   C 0 D W->S O W->(∀ b,D b->¬ O b) ->
   CallsIn Fence.wide 0 P gf ((pre++#[.func (.yield l) #[] #[]])++lb) W (UO W M D O N C Cx SE)
def jzL(D:Bf)(W:vW)(Ct:Bf->vW->Prop):Exit->Act->vW->Prop
 |.normal,_,W'=>∃ D':Bf,Ad D W W'/\(∀ b,D' b->D b\/W.heap.size<=b)/\Ct D' W'
 |_,_,_=>False
theorem kM{g:Operand}{ps:Array Tmp}{a:Act}{w:vW}
  {gf:Nat}  (hg:a.eval g=.func (.func gf) pre lb) (eg:∀ args w,(callFunc gf args).run P w=.ok (.enter gf args) w)
   {vals:Nat->Array vV}  {S:Bf->vW->Prop} {SE:Nat->Bf->vW->Prop} (IS:PJ P gf pre lb N vals M S SE)
  (hS:Ly S) (hps:∀ k,(vals k).size=ps.size)
  (C:Nat->Bf->vW->Prop) (hC:∀ k,Ly (C k))
  (D₀ O₀:Bf) (h0:C 0 D₀ w) (hS0:S O₀ w) (hdis:∀ b,D₀ b->¬ O₀ b)
  (hround:∀ (l k:Nat) (D:Bf) (W:vW) (K:Act->vW->Prop),k<N->C k D W->w.heap.size+1<W.heap.size ->
   (∀ a1 W1,Af W W1->(∀ W2,C k D W2->Ad (fun b=>b=w.heap.size+1) W1 W2->Ad (fun b=>D₀ b\/M b) w W2->body.wpIn (Fence.wide.inRound l) 0 P (jzL D W2 (C (k+1))) a1 W2)->K a1 W1) ->
   assign.wpIn (Fence.wide.inRound l) 0 P (Exit.then K (fun _ _ _=>False)) { tmps:=(ps.zip (vals k)).foldl (fun t (p,v)=>t.setIfInBounds p v) a.tmps,defers:=[] } W)
  (hdone:∀ (D O:Bf) (W:vW),Ad (fun b=>D₀ b\/M b) w W->C N D W->SE N O W->Ae W w.heap.size (.deferred (some [])) ->
   Q .normal { a with defers:={ target:=.collected w.heap.size,args:=#[] }::a.defers } W)
  (hSE:∀ k,Ly (SE k)) :
  (Code.rangeFunc g ps assign body).wpIn Fence.wide 0 P Q a w:=by
 refine SI hg eg fun a3 W1 a8 a4 b8 b2=>?_;have a9:∀ b,D₀ b->b<w.heap.size:=(hC 0).lt _ _ h0;have b3:∀ b,O₀ b->b<w.heap.size:=hS.lt _ _ hS0
 let CC:Nat->Bf->vW->Prop:=fun k D W=>∃ X:Bf,C k X W/\(∀ b,D b↔X b\/b=w.heap.size+1\/b=w.heap.size)/\¬ X (w.heap.size+1)/\¬ X w.heap.size/\Lv a3 w.heap.size .ready none W
 have b4:∀ k,Ly (CC k):=fun k=>⟨fun D W ⟨X,Z,H,_,_,q⟩ b hb=>by rcases (H b).1 hb with h|rfl|rfl;{exact (hC k).lt _ _ Z b h};{exact q.loop.lt};exact q.dfr.lt,fun D W W' ⟨X,Z,H,h5,h6,q⟩ hs hb=>⟨X,(hC k).st _ _ _ Z hs (fun b h=>hb b ((H b).2 (.inl h))),H,h5,h6,(hb _ ((H _).2 (.inr (.inl rfl)))).trans q.loop,(hb _ ((H _).2 (.inr (.inr rfl)))).trans q.dfr⟩⟩
 have b0:∀ {W},Ad (fun b=>(D₀ b\/b=w.heap.size+1\/b=w.heap.size)\/M b) W1 W->Ad (fun b=>D₀ b\/M b) w W:=fun hk=>(a4.mono (fun _ _ h=>h.elim)).trans' hk (fun x hx h=>by rcases h with (h|rfl|rfl)|h;{exact .inl h};{omega};{omega};exact .inr h)
 refine CallsIn.mono (IS (w.heap.size+1) CC (fun _ _ _=>False) b4 (fun _ _ _ h=>h) (fun b=>D₀ b\/b=w.heap.size+1\/b=w.heap.size) O₀ W1 ?_ ⟨D₀,(hC 0).keeps h0 a4 (fun _ _ h=>h),fun _=>Iff.rfl,fun h=>by have:=a9 _ h;omega,fun h=>by have:=a9 _ h;omega,b2⟩ (hS.keeps hS0 a4 (fun _ _ h=>h)) (fun b hb ho=>by have:=b3 b ho;rcases hb with h|rfl|rfl;{exact hdis b h ho};{omega};omega)) ?_
 ·rintro k D W hk ⟨X,Z,H,h5,h6,q⟩ b5;have a5:D (w.heap.size+1):=(H _).2 (.inr (.inl rfl));refine SJ a8 q (hps k) (hround _ k X W _ hk Z q.loop.lt fun a1 W2 hX b6=>?_);have Z:=(hC k).keeps Z hX (fun _ _ h=>h);have q:=q.keeps hX (fun h=>h) (fun h=>h);have a2:=Ad.onePut W2 (w.heap.size+1) (.loop (a3 .busy none));refine⟨q,Code.wpIn_mono ?_ (b6 _ ((hC k).keeps Z a2 (fun b hb e=>h5 (e ▸ hb))) a2 (((b0 b5).trans' hX (fun _ _ h=>h.elim)).trans' a2 (fun x hx e=>by omega)))⟩;intro e a' W' hq;cases e with| normal =>obtain⟨J,hK,A,hc⟩:=hq;rw[World.putObj_size]at A;have b9:=q.loop.lt;have n1:¬ J (w.heap.size+1):=fun h=>(A _ h).elim h5 vO;have n2:¬ J w.heap.size:=fun h=>(A _ h).elim h6 vO;have b1:=Ad.onePut W' (w.heap.size+1) (.loop (a3 .ready none));refine⟨none,rfl,hK.mono fun b _ h=>⟨fun e=>h6 (e ▸ h),fun e=>h5 (e ▸ h)⟩,fun hb=>⟨fun b=>J b\/b=w.heap.size+1\/b=w.heap.size,(hX.mono (fun _ _ h=>h.elim)).trans (((a2.mono (fun x _ e=>e ▸ a5)).trans' hK (fun x hx h=>(H x).2 (.inl h))).trans' b1 (fun x hx e=>e ▸ a5)),?_,.inl ⟨rfl,J,(hC _).keeps hc b1 (fun b hb e=>n1 (e ▸ hb)),fun _=>Iff.rfl,n1,n2,hb⟩⟩⟩;rintro b (h|rfl|rfl);{exact (A b h).imp (fun h=>(H b).2 (.inl h)) (fun h=>bF hX.size h)};{exact .inl a5};exact .inl ((H _).2 (.inr (.inr rfl)))| _=>exact hq.elim
 ·rintro e W' ⟨hv,X,O',hk,c0,c1,a0,⟨⟨J,Z,H,h5,h6,q⟩,b7⟩|⟨_,_,_,h,_⟩⟩;{refine⟨hv,.inl ⟨q,fun o hd=>?_⟩⟩;have a7:=Ad.onePut W' (w.heap.size+1) o;exact hdone J O' _ ((b0 hk).trans' a7 (fun x hx e=>by omega)) ((hC N).keeps Z a7 (fun b hb e=>h5 (e ▸ hb))) ((hSE N).keeps b7 a7 (fun b hb e=>a0 _ ((H _).2 (.inr (.inl rfl))) (e ▸ hb))) hd};exact h.elim
end
section
open Go Go.RowKit
attribute [local go_sem] Oper.semAt_some
end
section
open Go Go.RowKit
end
section
open Go Go.RowKit
attribute [local go_sem] Oper.semAt_some
structure DF(t:Nat)(to:vB)(limit:Int)(W:World):Prop where
 b0:Ae W t (.cells #[.string to] 9)
 b1:Ae W (t+1) (.cells #[.int .i64 limit] 3)
 b2:Ae W (t+2) (.cells #[.slice none 0 0] 30)
 b3:Ae W (t+3) (.cells #[.bool false] 4)
 b4:Ae W (t+4) (.cells #[.int .i64 0] 25)
theorem DF.keeps{to:vB}{limit:Int}{W:vW}(h:DF t to limit W)(k:Ad F W W')(hF:∀ b,t<=b->b<=t+4->¬ F b):DF t to limit W':=
 ⟨h.b0.keeps k (hF _ vO vO),h.b1.keeps k (hF _ vO vO),h.b2.keeps k (hF _ vO vO),h.b3.keeps k (hF _ vO vO),h.b4.keeps k (hF _ vO vO)⟩
theorem DF.new(to:vB)(limit:Int):DF W.heap.size to limit (((((W.alloc (.cells #[.string to] 9)).alloc (.cells #[.int .i64 limit] 3)).alloc (.cells #[.slice none 0 0] 30)).alloc (.cells #[.bool false] 4)).alloc (.cells #[.int .i64 0] 25)):=by
 refine⟨?_,?_,?_,?_,?_⟩
 ·exact ((((Ae.new W _).alloc _).alloc _).alloc _).alloc _
 ·have:=(((Ae.new (W.alloc (.cells #[.string to] 9)) (.cells #[.int .i64 limit] 3)).alloc (.cells #[.slice none 0 0] 30)).alloc (.cells #[.bool false] 4)).alloc (.cells #[.int .i64 0] 25);rwa [bG]at this
 ·have:=((Ae.new ((W.alloc (.cells #[.string to] 9)).alloc (.cells #[.int .i64 limit] 3)) (.cells #[.slice none 0 0] 30)).alloc (.cells #[.bool false] 4)).alloc (.cells #[.int .i64 0] 25);rwa [bG,bG]at this
 ·have:=(Ae.new (((W.alloc (.cells #[.string to] 9)).alloc (.cells #[.int .i64 limit] 3)).alloc (.cells #[.slice none 0 0] 30)) (.cells #[.bool false] 4)).alloc (.cells #[.int .i64 0] 25);rwa [bG,bG,bG]at this
 ·have:=Ae.new ((((W.alloc (.cells #[.string to] 9)).alloc (.cells #[.int .i64 limit] 3)).alloc (.cells #[.slice none 0 0] 30)).alloc (.cells #[.bool false] 4)) (.cells #[.int .i64 0] 25);rwa [bG,bG,bG,bG]at this
theorem zO{fn:Func}{t u x:Tmp}{ty ty2 ty3:TypeId}(h:fn.results=#[.cell t ty,.cell u ty2,.cell x ty3]){a b c:Addr}(ha:tmps.getD t undef=.pointer (some a))(hb:tmps.getD u undef=.pointer (some b))(hc:tmps.getD x undef=.pointer (some c)){w:vW}
  (l1:(loadVar ty a).run P w=.ok v1 w) (l2:(loadVar ty2 b).run P w=.ok v2 w) (l3:(loadVar ty3 c).run P w=.ok v3 w):(results fn tmps).run P w=.ok (.tuple #[v1,v2,v3]) w:=by
 have e:tmps[t]?.getD undef=.pointer (some a):=by simpa using ha
 have q:tmps[u]?.getD undef=.pointer (some b):=by simpa using hb
 have A:tmps[x]?.getD undef=.pointer (some c):=by simpa using hc
 simp[results,h,e,q,A,asAddr,bQ,Result.andThen,l1,l2,l3]
theorem SB{W:vW}{p:Addr}{t:TypeId}{d:TypeDesc}(hu:P.underlying t=some d)(hd:(match d with | .struct _ | .array _ _=>true|_=>false)=false)(h:W.cell? p=some v):(loadVar t p).run P W=.ok v W:=by
 have:=Bq hu hd h
 simpa [Instr.loadAt,Instr.sureAddr,bQ,Result.andThen]using this
theorem uZ(y2 y3 y4:vV)(h2:Ae w1 (t+2) (.cells #[x2] 30))(h3:Ae w1 (t+3) (.cells #[x3] 4))(h4:Ae w1 (t+4) (.cells #[x4] 25)) :
  Ae (((w1.setCell ⟨t+1+1,0,none⟩ y2).setCell ⟨t+1+1+1,0,none⟩ y3).setCell ⟨t+1+1+1+1,0,none⟩ y4) (t+2) (.cells #[y2] 30) /\
  Ae (((w1.setCell ⟨t+1+1,0,none⟩ y2).setCell ⟨t+1+1+1,0,none⟩ y3).setCell ⟨t+1+1+1+1,0,none⟩ y4) (t+3) (.cells #[y3] 4) /\
  Ae (((w1.setCell ⟨t+1+1,0,none⟩ y2).setCell ⟨t+1+1+1,0,none⟩ y3).setCell ⟨t+1+1+1+1,0,none⟩ y4) (t+4) (.cells #[y4] 25) /\
  Ad (fun b=>b=t+2\/b=t+3\/b=t+4) w1 (((w1.setCell ⟨t+1+1,0,none⟩ y2).setCell ⟨t+1+1+1,0,none⟩ y3).setCell ⟨t+1+1+1+1,0,none⟩ y4):=by
 have q:=Ad.oneSet w1 ⟨t+1+1,0,none⟩ y2;have A:=Ad.oneSet (w1.setCell ⟨t+1+1,0,none⟩ y2) ⟨t+1+1+1,0,none⟩ y3;have H:=Ad.oneSet ((w1.setCell ⟨t+1+1,0,none⟩ y2).setCell ⟨t+1+1+1,0,none⟩ y3) ⟨t+1+1+1+1,0,none⟩ y4
 refine⟨?_,?_,?_,((q.mono (fun b _ e=>.inl e)).trans' A (fun b _ e=>.inr (.inl e))).trans' H (fun b _ e=>.inr (.inr e))⟩
 ·exact ((h2.set_same (i:=0) y2).set_other (p:=⟨t+1+1+1,0,none⟩) (by show t+2≠t+3;omega) _).set_other (p:=⟨t+1+1+1+1,0,none⟩) (by show t+2≠t+4;omega) _
 ·exact ((h3.set_other (p:=⟨t+1+1,0,none⟩) (by show t+3≠t+2;omega) _).set_same (i:=0) y3).set_other (p:=⟨t+1+1+1+1,0,none⟩) (by show t+3≠t+4;omega) _
 ·exact ((h4.set_other (p:=⟨t+1+1,0,none⟩) (by show t+4≠t+2;omega) _).set_other (p:=⟨t+1+1+1,0,none⟩) (by show t+4≠t+3;omega) _).set_same (i:=0) y4
theorem jyK{W:vW}{y2 y3 y4:vV}(h2:Ae W (t+2) (.cells #[y2] 30))(h3:Ae W (t+3) (.cells #[y3] 4))(h4:Ae W (t+4) (.cells #[y4] 25))
  (ha:tmps.getD 10 undef=.pointer (some ⟨t+2,0,none⟩)) (hb:tmps.getD 11 undef=.pointer (some ⟨t+3,0,none⟩)) (hc:tmps.getD 12 undef=.pointer (some ⟨t+4,0,none⟩)):(results f59 tmps).run prog W=.ok (.tuple #[y2,y3,y4]) W:=
 zO rfl ha hb hc (SB Kk rfl (h2.cell (i:=0) vF)) (SB underlying4 rfl (h3.cell (i:=0) vF)) (SB underlying25 rfl (h4.cell (i:=0) vF))
def Xt(c s:Nat)(fr:vB)(v:vV)(W:vW):Prop:=Ae W c (.cells #[.pointer (some ⟨s,0,none⟩),.string fr,v,.int .i64 1] 296)
structure AE(g:Nat)(p x:vB)(W:World):Prop where
 p0:W.cell? ⟨g,0,none⟩=some (.string p)
 p1:W.cell? ⟨g,1,none⟩=some (.string x)
 p2:W.cell? ⟨g,2,none⟩=some (.string ⟨#[]⟩)
 lt:g<W.heap.size
theorem AE.keeps{W:vW}{p x:vB}(h:AE g p x W)(k:Ad F W W')(hF:¬ F g):AE g p x W':=⟨Dw h.p0 k hF,Dw h.p1 k hF,Dw h.p2 k hF,bE h.lt k.size⟩
def LO(W:vW)(c s:Nat)(fr p x:vB)(w':vW):Prop:=∃ g cp,Xt c s fr (.slice (some ⟨g,0,none⟩) 1 cp) w'/\AE g p x w'/\W.heap.size<=g/\c<g/\1<=cp
theorem jve(s:Nat)(fr p x:vB)(h:Xt c s fr (.slice none 0 0) W)(hx:x.toList.isEmpty=false)(hl:Op.bytesLess p.toList fr.toList=false)(hk:Mf p=true)(hp:p.size<=1000000) :
  vQ 196 #[.pointer (some ⟨c,0,none⟩),.string p,.string x] W fun e w'=>e=.returned (.tuple #[])/\LO W c s fr p x w'/\Ad (fun b=>b=c) W w':=by
 have q1:=Ae.cell (i:=1) (v:=.string fr) h vF;have q2:=Ae.cell (i:=2) (v:=.slice none 0 0) h vF;have H:=Hd h;have O:=EN W p hp;unfold Kw at O;rw[hk]at O;have a0:=Hd O;clear h O hk hp;unfold vQ;go_in;go_wp2_with fail
 refine a0.o.mono ?_;rintro e w1 ⟨rfl,hE⟩;simp only[if_true];have q2:=Am q2 hE;have X:=Hd hE;clear hE;go_wp2_with (at_builtin;(refine Rc Vz (Av.nil _ _ (X.o.alloc _)) (.tmp 28) (.tmp 32) rfl rfl rfl (Jx (Ae.new w1 _)) (news:=[.string p,.string x,.string ⟨#[]⟩]) (jyD ⟨p,x,⟨#[]⟩⟩) rfl rfl vI vI ?_;intro v' w' A K r3;have q:Af w1 w':=((Aa w1).alloc _).trans' K (fun x _ e=>by cases e);have q3:=Am q2 q;have qf:w'.frozen? ⟨c,2,none⟩=false:=(Ae.keeps H.o (X.o.trans q) (fun h=>h)).frozen;have HR:=Hd (bA A q);obtain⟨a2,J,a1⟩:=A.sl;subst a1;clear A K r3 q))
 refine bodyPost_end (results_none rfl _ _ _) rfl ?_
 obtain⟨A,K⟩:=HR.o
 obtain⟨_,⟨_,h3⟩|⟨g,a3,a4,h2,h3,h4,h5,h6⟩⟩:=A.own
 ·cases h3
 obtain⟨rfl,_,rfl⟩:=dH h2
 have Z:=fun j u hj=>World.ownsRow.cells (g:=g) A.own rfl j u hj;simp only[Addr.add_lit,bX]at Z;have hg:=A.new g rfl;have a5:=Ae.lt H.o;have h1:0+1<=J:=h5;have ks:=Ad.oneSet w' ⟨c,2,none⟩ (.slice (some ⟨g,0,none⟩) 1 J)
 exact⟨rfl,⟨g,J,Ae.set_same (i:=2) (Ae.keeps H.o (X.o.trans K) (fun h=>h)) _,AE.keeps ⟨Z 0 _ rfl,Z 1 _ rfl,Z 2 _ rfl,Ae.lt h4⟩ ks (by show ¬ g=c;omega),hg,by omega,by omega⟩,((X.o.trans K).mono fun _ _ e=>e.elim).trans ks⟩
theorem wR(s:Nat)(fr pa va:vB)(rs:vM)(hr:rs.length=16)(h:Xt c s fr (.slice none 0 0) W)(hx:va.toList.isEmpty=false)(hl:Op.bytesLess pa.toList fr.toList=false)(hk:Mf pa=true)(hp:pa.size<=1000000) :
  vQ 156 #[.pointer (some ⟨c,0,none⟩),(Ai.mk 1 pa va rs).V,.string ⟨#[]⟩] W fun e w'=>e=.returned (.tuple #[])/\LO W c s fr pa va w'/\Ad (fun b=>b=c) W w':=by
 have q:Af W (W.alloc (.cells (Ai.cells ⟨1,pa,va,rs⟩).toArray 215)):=(Aa W).alloc _;have K:=Hd (jve _ c s fr pa va (Ae.keeps h q (fun h=>h)) hx hl hk hp);have A:=Hd q;clear h hx hl hk q;unfold Ai.V;have e0:(Ai.cells ⟨1,pa,va,rs⟩)[0]?=some (.int .i64 1):=rfl;have e1:(Ai.cells ⟨1,pa,va,rs⟩)[1]?=some (.string pa):=rfl;have e2:(Ai.cells ⟨1,pa,va,rs⟩)[2]?=some (.string va):=rfl;unfold vQ;go_in;go_wp2_with fail
 rw[jyq];refine K.o.mono ?_;rintro e w1 ⟨rfl,H,J⟩;have O:=Hd H;have X:=Hd ((A.o.mono fun _ _ e=>e.elim).trans J);clear H J;go_wp2_with fail
 refine bodyPost_end (results_none rfl _ _ _) rfl ?_
 obtain⟨g,Z,h1,h2,h3,h4⟩:=O.o
 exact⟨rfl,⟨g,Z,h1,h2,bF A.o.size h3,h4⟩,X.o⟩
theorem jyU(s bm:Nat)(room:Int)(S:vT)(fr k pa va:vB)(rs:vM)(hf:fr.size<=100000)(hs:Ev W s bm room S)(y:Gd)(hy:Be S k.data.toList=some y)(d:Nat)(n:Ai)(hg:Gi (Bs d) n)(htx:y.2.2.text=Cr n)(hn:n=⟨1,pa,va,rs⟩)(hx:va.toList.isEmpty=false)(hlow:Op.bytesLess pa.toList (Ci fr).toList=false)(hk:Mf pa=true)(hp:pa.size<=1000000) :
  vQ 113 #[.pointer (some ⟨s,0,none⟩),.string k,.string fr] W fun e w'=>∃ c,e=.returned (.tuple #[.pointer (some ⟨c,0,none⟩),.int .i64 0])/\W.heap.size<=c/\LO W c s (Ci fr) pa va w'/\Af W w':=by
 have J:=hg.one (Br d);have q:=fun w (h:Ev w s bm room S)=>BG w s bm room S k h;rw[hy]at q
 obtain⟨t,ht⟩:=vE y.2.2.text
 rw[<-ht]at htx;have a1:(some y).map (fun z:Gd=>z.2.2.text)=some t:=by rw[ht];rfl
 simp only[a1]at q;have b9:=Hd q;have HS:=Hd hs;have HG:=Hd hg;have a2:=Hd htx;have a3:=Hd J.refs;have a4:=Hd (n.cells_len J.refs);have a5:=Hd hlow;have HN:=Hd hn;clear hs hy hg htx ht q a1 J hlow hn;unfold vQ;go_in;go_wp2_with fail
 refine vH (b9.o W HS.o) fun w1 a7=>?_;unfold Dg;go_wp2_with fail
 rw[a2.o];refine vH (Zt (Br d) w1 n HG.o) fun w2 hE=>?_;rw[<-a2.o];have c0:=Hd (a7.o.trans hE);clear a7;unfold Ai.V;go_wp2_with (refine Di Ac rfl rfl ?_;intro W5 a8 a9;refine Bv (vs:=n.cells) rfl rfl rfl rfl a8 (by rw[a4.o];rfl) (by rw[a4.o];exact Ab) n.one ?_;intro W6 b0 b1)
 have b2:Af w2 W6:=a9.trans' b1 (fun x hx e=>by have e:x=w2.heap.size:=e;omega);refine vC (Zu W6 fr vO) fun A hE=>?_;have O:=Hd ((c0.o.trans b2).trans hE);have b3:=Hd (b0.keeps hE (fun h=>h))
 obtain⟨pf,X⟩:=vE (Ci fr)
 have c1:=Hd X;rw[<-X]at a5 ⊢;clear hE b2 b0 b1 a9 a8 X;go_wp2_with fail
 obtain⟨W8,H⟩:=vE (A.alloc (.cells #[.pointer (some ⟨s,0,none⟩),.string pf,.slice none 0 0,.int .i64 1] 296))
 have b4:Ae W8 A.heap.size (.cells #[.pointer (some ⟨s,0,none⟩),.string pf,.slice none 0 0,.int .i64 1] 296):=by rw[H];exact Ae.new A _
 have Z:Af A W8:=by rw[H];exact (Aa A).alloc _
 rw[<-H];have c2:Hid (Xt A.heap.size s pf (.slice none 0 0) W8):=b4;have c3:=Hd (O.o.trans Z);have c4:=Hd O.o.size;have c5:=Hd (b3.o.keeps Z (fun h=>h));clear H b4 Z b3 O;refine Kr [0,1,2,3,4] [4] Af Aa Aq vY vY vY ?_
 refine vP ?_
 refine qA _ (.pointer (some ⟨A.heap.size,0,none⟩)) rfl (fun w1=>by kernel_rfl) ?_;refine vS ?_
 refine vP ?_
 refine qL ⟨w2.heap.size,0,none⟩ n.V rfl (fun w1 h1=>Jq w1 _ n a3.o (c5.o.keeps ((Ap _).trans h1) (fun h=>h))) ?_;refine vS ?_;refine qH _ rfl (fun w4 he K hK=>?_);have b5:=Hd (show Af W8 w4 from(Ap _).trans he);clear he;have hl:=wR w4 A.heap.size s pf pa va rs (by have:=a3.o;rw[HN.o]at this;exact this) (Ae.keeps c2.o b5.o (fun h=>h)) hx a5.o hk hp;rw[<-HN.o]at hl;refine Oe (Ex (vX 156) vY) (hl.mono ?_);rintro e w5 ⟨rfl,b6,b7⟩
 refine⟨_,rfl,hK _ _ ?_⟩
 have H5:=Hd (bA b6 b7);clear hK K b6 b7 hl;refine qE (fun w6 he=>?_);have a0:=Hd he;clear he;refine vS ?_;go_wp2_with fail
 go_ret2
 obtain⟨⟨g,cp,h1,h2,h3,h4⟩,h5⟩:=H5.o
 have hz:=c4.o;have b8:=c3.o.trans b5.o;rw[c1.o]at h1
 exact⟨A.heap.size,rfl,hz,⟨g,cp,Ae.keeps h1 a0.o (fun h=>h),h2.keeps a0.o (fun h=>h),bF b8.size h3,h4⟩,(b8.trans' h5 fun x hx e=>by omega).trans a0.o⟩
theorem jtS(s g n cp:Nat)(fr p x:vB)(h:Xt c s fr (.slice (some ⟨g,0,none⟩) n cp) W)(hn:n=0\/n=1/\1<=cp/\AE g p x W/\x.toList.isEmpty=false) :
  vR 230 #[.pointer (some ⟨c,0,none⟩)] W (.bool (n == 1)):=by
 have H:=Hd h;have A:=Hd hn;clear h hn;unfold vR vQ;go_in;go_wp2_with fail
 go_loopw [2] (fun J wr=>J=.bool false/\Af W wr) (fun _ _=>0)
 case atStart=>exact⟨rfl,Aa W⟩
 case round =>obtain⟨rfl,q⟩:=hrel;have e:=Hd q;have K:=Ae.cell (i:=2) (v:=.slice (some ⟨g,0,none⟩) n cp) (Ae.keeps H.o q (fun h=>h)) vF;clear q;rcases A.o with rfl|⟨rfl,hcp,hP,hx⟩;{(go_wp2_with fail);go_ret;exact⟨rfl,e.o⟩};have O:=Am hP.p0 e.o;(have X:=Am hP.p1 e.o;have Z:=Am hP.p2 e.o;clear hP;go_wp2_with fail);go_ret;exact⟨rfl,e.o.alloc _⟩
def LJ(p x:vB):Nat->vV
 |0=>.tuple #[.agg #[.string ⟨#[]⟩,.string ⟨#[]⟩],.bool false]
 |_=>.tuple #[.agg #[.string (Iz p),.string x],.bool true]
theorem jyp(s g n cp:Nat)(fr p x:vB)(h:Xt c s fr (.slice (some ⟨g,0,none⟩) n cp) W)(hn:n=0\/n=1/\1<=cp/\AE g p x W/\x.toList.isEmpty=false)(hk:Mf p=true)(hp:p.size<=1000000) :
  vR 198 #[.pointer (some ⟨c,0,none⟩)] W (LJ p x n):=by
 have X:Af W (W.alloc (.cells #[.string ⟨#[]⟩,.string ⟨#[]⟩] 49)):=(Aa W).alloc _;have hB:Ae (W.alloc (.cells #[.string ⟨#[]⟩,.string ⟨#[]⟩] 49)) W.heap.size (.cells #[.string ⟨#[]⟩,.string ⟨#[]⟩] 49):=Ae.new W _;have hs:=jtS _ c s g n cp fr p x (Ae.keeps h X (fun h=>h)) (hn.imp id fun ⟨h1,O,h3,h4⟩=>⟨h1,O,h3.keeps X (fun h=>h),h4⟩);have HS:=Hd hs;have HB:=Hd hB;have HE:=Hd X;have H:=Hd h;have HN:=Hd hn;have b6:=Hd (show ∀ w,vQ 189 #[.string p] w fun e w'=>e=.returned (.tuple #[.string (Iz p),.bool true])/\Af w w' from fun w=>by have:=EN w p hp;unfold Kw at this;rw[hk]at this;exact this)
 clear h hn hk hp X hB hs;unfold vR vQ;go_in;go_wp2_with fail
 refine HS.o.mono ?_;rintro e w1 ⟨rfl,a0⟩;have A:=Hd (HE.o.trans a0);have a7:=Hd (HB.o.keeps a0 (fun h=>h));clear a0;rcases HN.o with rfl|⟨rfl,hcp,hP,hx⟩
 ·(go_wp2_with (refine Bv (old:=[.string ⟨#[]⟩,.string ⟨#[]⟩]) (vs:=[.string ⟨#[]⟩,.string ⟨#[]⟩]) rfl rfl rfl rfl a7.o rfl De (by intro u Z;simp at Z;rcases Z with rfl|rfl<;>rfl) ?_;intro W8 a1 a2));refine bodyPost_ret (Od rfl rfl rfl (LR a1)) rfl ?_;exact⟨rfl,A.o.trans' a2 fun x hx e=>by have e:x=W.heap.size:=e;omega⟩
 have Q2:=Hd (Ae.cell (i:=2) (v:=.slice (some ⟨g,0,none⟩) 1 cp) (Ae.keeps H.o A.o (fun h=>h)) vF);have HP:=Hd (hP.keeps A.o (fun h=>h));have a8:Hid (c<w1.heap.size):=bE (Ae.lt H.o) A.o.size;clear hP hx;go_wp2_with fail
 refine Nc [0,1,2,3,4,5,6,7,8,9,10,11,12,13] [12,13] Af (Ad (fun b=>w1.heap.size<=b)) Aa Aq (fun x y z h k=>Ad.trans h k) (fun x y h=>h.mono (fun _ _ h=>h.elim)) vY vY vY ?_
 refine vD ?_
 refine Lr _ (.pointer (some ⟨c,0,none⟩)) rfl (fun w1 _=>by kernel_rfl) ?_;refine vS ?_
 refine vD ?_
 refine Fc ⟨c,2,none⟩ _ rfl (fun q O=>Bq Hr rfl (Dw (Am Q2.o (Ap _)) O (by have:=a8.o;exact fun e=>absurd e (Nat.not_le.2 this)))) ?_;refine vS ?_
 refine vD ?_
 refine Lr _ (.pointer (some ⟨c,0,none⟩)) rfl (fun w1 _=>by kernel_rfl) ?_;refine vS ?_
 refine vD ?_
 refine Fc ⟨c,2,none⟩ _ rfl (fun q O=>Bq Hr rfl (Dw (Am Q2.o (Ap _)) O (by have:=a8.o;exact fun e=>absurd e (Nat.not_le.2 this)))) ?_;refine vS ?_;iterate 3 refine vD ?_
 refine Fc ⟨g,0,none⟩ _ rfl (fun q O=>by have a3:¬ w1.heap.size<=g:=Nat.not_le.2 HP.o.lt;exact jyh (Dw (Am HP.o.p0 (Ap _)) O a3) (Dw (Am HP.o.p1 (Ap _)) O a3) (Dw (Am HP.o.p2 (Ap _)) O a3)) ?_
 refine vS ?_;refine Hl _ rfl (fun q J K hK=>?_);have a9:=Hd (show Af w1 q from(Ap _).trans J);clear J;refine Ra (v:=.pointer (some ⟨q.heap.size,0,none⟩)) (w':=q.alloc (.cells [Value.string ⟨#[]⟩,.string ⟨#[]⟩,.string ⟨#[]⟩].toArray 371)) (by simp only[execOp,bQ,Qg,Result.andThen,cU]) (hK _ _ ((Ad.refl _ q).alloc _) ?_);clear hK K;refine vS ?_;refine Hl _ rfl (fun w3 J K hK=>?_);refine Yk (b:=q.heap.size) (old:=[Value.string ⟨#[]⟩,.string ⟨#[]⟩,.string ⟨#[]⟩]) (vs:=[.string p,.string x,.string ⟨#[]⟩]) rfl rfl rfl ((Ae.new q _).keeps J (fun h=>h)) rfl Pv (by intro u Z;simp at Z;rcases Z with rfl|rfl|rfl<;>rfl) (fun w4 b0 a4=>hK _ _ (a4.mono (fun x _ e=>by have:=a9.o.size;have e:x=q.heap.size:=e;omega)) ?_);have b1:Hid (Af w1 w4):=(a9.o.trans ((((Aa q).alloc _).trans J).trans' a4 (fun x hx e=>by have e:x=q.heap.size:=e;omega)));have b2:=Hd b0;clear hK K J b0 a4;refine vS ?_;refine Mr (fun w5 J=>?_);have b3:=Hd (b1.o.trans J);have a5:=b2.o.keeps J (fun h=>h);have c0:=a5.cell (i:=0) (v:=.string p) vF;have b4:=Hd a5;clear J b1 b2 a5;go_wp2_with fail
 refine vC (b6.o w5) fun w6 X=>?_;have c1:=(b4.o.keeps X (fun h=>h)).cell (i:=1) (v:=.string x) vF;have b5:=Hd (b3.o.trans X);have b7:=Hd (a7.o.keeps b5.o (fun h=>h));clear X b3 b4;go_wp2_with (refine Bv (old:=[.string ⟨#[]⟩,.string ⟨#[]⟩]) (vs:=[.string (Iz p),.string x]) rfl rfl rfl rfl b7.o rfl De (by intro u Z;simp at Z;rcases Z with rfl|rfl<;>rfl) ?_;intro W8 a1 a2)
 refine bodyPost_ret (Od rfl rfl rfl (LR a1)) rfl ?_
 exact⟨rfl,(A.o.trans b5.o).trans' a2 fun x hx e=>by have e:x=W.heap.size:=e;omega⟩
theorem jz6(s g cp:Nat)(fr:vB)(h:Xt c s fr (.slice (some ⟨g,0,none⟩) 1 cp) W) :
  vQ 199 #[.pointer (some ⟨c,0,none⟩)] W fun e w'=>e=.returned (.tuple #[])/\Xt c s fr (.slice (some ⟨g,0,none⟩) 0 cp) w'/\Ad (fun b=>b=c) W w':=by
 have X:=Hd (Ae.cell (i:=2) (v:=.slice (some ⟨g,0,none⟩) 1 cp) h vF);have H:=Hd h;clear h;unfold vQ;go_in;go_wp2_with fail
 refine Kr [0,1,2,3,4,5,6,7,8,9,10,11,12,13,14] [14] Af Aa Aq vY vY vY ?_;iterate 2 refine vP ?_
 refine qA _ (.pointer (some ⟨c,0,none⟩)) rfl (fun w1=>by kernel_rfl) ?_;refine vS ?_
 refine vP ?_
 refine qL ⟨c,2,none⟩ _ rfl (fun w1 J=>Bq Hr rfl (Am X.o ((Ap _).trans J))) ?_;refine vS ?_
 refine vP ?_
 refine qA _ (.pointer (some ⟨c,0,none⟩)) rfl (fun w1=>by kernel_rfl) ?_;refine vS ?_
 refine vP ?_
 refine qL ⟨c,2,none⟩ _ rfl (fun w1 J=>Bq Hr rfl (Am X.o ((Ap _).trans J))) ?_;refine vS ?_;iterate 3 refine vP ?_
 refine qA _ (.pointer (some ⟨c,0,none⟩)) rfl (fun w1=>by kernel_rfl) ?_;refine vS ?_
 refine vP ?_
 refine qH _ rfl (fun O q K Z=>?_);have A:=Ae.keeps H.o ((Ap _).trans q) (fun h=>h);have q1:O.cell? ⟨c,2,none⟩=some (.slice (some ⟨g,0,none⟩) 1 cp):=A.cell (i:=2) vF;have f1:O.frozen? ⟨c,2,none⟩=false:=A.frozen;have HC:=Hd (bA ((Ap _).trans q) (A.set_same (i:=2) (.slice (some ⟨g,0,none⟩) 0 cp)));clear q A;go_simp;refine Z _ _ ?_;clear Z K q1 f1;refine qE (fun w5 q=>?_);have HF:=Hd q;clear q;refine bodyPost_end (results_none rfl _ _ _) rfl ?_
 exact⟨rfl,Ae.keeps HC.o.2 HF.o (fun h=>h),((HC.o.1.mono fun _ _ e=>e.elim).trans (Ad.oneSet O ⟨c,2,none⟩ _)).trans (HF.o.mono fun _ _ e=>e.elim)⟩
theorem lH(s g n cp:Nat)(fr p x:vB)(h:Xt c s fr (.slice (some ⟨g,0,none⟩) n cp) W)(hn:n=0\/n=1/\1<=cp/\AE g p x W/\x.toList.isEmpty=false)(hk:Mf p=true)(hp:p.size<=1000000) :
  vQ 157 #[.pointer (some ⟨c,0,none⟩)] W fun e w'=>e=.returned (LJ p x n)/\Xt c s fr (.slice (some ⟨g,0,none⟩) 0 cp) w'/\Ad (fun b=>b=c) W w':=by
 have HC:=Hd (Ae.lt h);have H:=Hd h;have b3:=Hd (fun w (e:Af W w)=>jyp w c s g n cp fr p x (Ae.keeps h e (fun h=>h)) (hn.imp id fun ⟨h1,h2,h3,h4⟩=>⟨h1,h2,h3.keeps e (fun h=>h),h4⟩) hk hp);have hn:n=0\/n=1:=hn.imp id (·.1);clear h hk hp;unfold vQ;go_in;go_wp2_with (refine Di Hf rfl rfl ?_;intro W1 a8 a1)
 refine vC (b3.o W1 a1) fun w2 a2=>?_;have J:=Hd (a1.trans a2);have a9:=Hd (a8.keeps a2 (fun h=>h));have b4:=Hd (Ae.keeps H.o J.o (fun h=>h));clear a8 a1 a2
 obtain⟨y,hy⟩:=vE (Iz p)
 rcases hn with rfl|rfl
 ·unfold LJ;(go_wp2_with (first|(refine Di Hf rfl rfl ?_;intro W5 K O;refine Bv (vs:=[.string ⟨#[]⟩,.string ⟨#[]⟩]) rfl rfl rfl rfl K rfl De (KQ _ _) ?_;intro W6 A X;have q:Af w2 W6:=O.trans' X (fun x hx e=>by have e:x=w2.heap.size:=e;omega);have a3:=a9.o.keeps q (fun h=>h);have a4:=TN (b:=w2.heap.size) (o:=0) (A.cell (i:=0) vF) (A.cell (i:=1) vF))|(refine Gv 49 (.tmp 4) rfl rfl _ _ rfl a4 ?_)|(refine Bv (vs:=[.string ⟨#[]⟩,.string ⟨#[]⟩]) rfl rfl rfl rfl a3 rfl De (KQ _ _) ?_;intro W8 a5 Z)));(refine bodyPost_ret (Od rfl rfl rfl (LR a5)) rfl ?_;have b0:Af W W8:=(J.o.trans q).trans' Z fun x hx e=>by have e:x=W.heap.size:=e;omega);exact⟨rfl,Ae.keeps H.o b0 (fun h=>h),b0.mono fun _ _ e=>e.elim⟩
 ·unfold LJ;(rw[<-hy];have HY:=Hd hy;clear hy;go_wp2_with (first|(refine Di Hf rfl rfl ?_;intro W5 K O;refine Bv (vs:=[.string y,.string x]) rfl rfl rfl rfl K rfl De (KQ _ _) ?_;intro W6 A X)));(have q:Af w2 W6:=O.trans' X (fun x hx e=>by have e:x=w2.heap.size:=e;omega);refine (jz6 W6 c s g cp fr (Ae.keeps b4.o q (fun h=>h))).mono ?_;rintro e w7 ⟨rfl,b1,a0⟩;have b2:=HC.o;have b5:=J.o.size;have a7:=A.keeps a0 vO;have a4:=TN (b:=w2.heap.size) (o:=0) (a7.cell (i:=0) vF) (a7.cell (i:=1) vF);have a3:=(a9.o.keeps q (fun h=>h)).keeps a0 vO;have b6:=Hd (((J.o.trans q).mono fun _ _ e=>e.elim).trans a0);have b7:=Hd b1;clear a0 a7 A X O K q b2 b5 b1;go_wp2_with (first|(refine Gv 49 (.tmp 4) rfl rfl _ _ rfl a4 ?_)|(refine Bv (vs:=[.string y,.string x]) rfl rfl rfl rfl a3 rfl De (KQ _ _) ?_;intro W8 a5 Z)));refine bodyPost_ret (Od rfl rfl rfl (LR a5)) rfl ?_;have b2:=HC.o;exact⟨by rw[HY.o];rfl,Ae.keeps b7.o Z vO,b6.o.trans' Z fun x hx e=>by have e:x=W.heap.size:=e;omega⟩
def Xw(c s:Nat)(fr p x:vB)(g cp:Nat)(O:Bf)(W:vW):Prop:=(∀ b,O b↔b=c\/b=g)/\Xt c s fr (.slice (some ⟨g,0,none⟩) 1 cp) W/\AE g p x W
theorem Xw.supp(s:Nat)(fr p x:vB)(g cp:Nat):Ly (Xw c s fr p x g cp):=by
 refine⟨fun D W h b hb=>?_,fun D W A h H hb=>?_⟩
 ·rcases (h.1 b).1 hb with rfl|rfl;{exact Ae.lt h.2.1};exact h.2.2.lt
 ·have J:=hb g ((h.1 g).2 (.inr rfl));have e:=fun i v (q:W.cell? ⟨g,i,none⟩=some v)=>(show A.cell? ⟨g,i,none⟩=some v by unfold World.cell? at *;rw[J];exact q);exact⟨h.1,(hb c ((h.1 c).2 (.inl rfl))).trans h.2.1,e _ _ h.2.2.p0,e _ _ h.2.2.p1,e _ _ h.2.2.p2,bE h.2.2.lt H⟩
def LI(_:Nat)(O:Bf)(_:vW):Prop:=∀ b,¬ O b
theorem LI.supp:Ly (LI k):=⟨fun D W h b hb=>absurd hb (h b),fun D W e h _ _=>h⟩
theorem jrx(s:Nat)(fr p x:vB)(g cp:Nat)(hcp:1<=cp)(hx:x.toList.isEmpty=false)(hk:Mf p=true)(hp:p.size<=1000000) :
  PJ prog 114 #[.pointer (some ⟨c,0,none⟩)] #[] 1 (fun _=>#[.string (Iz p),.string x]) (fun b=>b=c) (Xw c s fr p x g cp) LI:=by
 intro y C Cx hC a9 D O W hY h0 hS X;have Z:=Hd (lH W c s g 1 cp fr p x hS.2.1 (.inr ⟨rfl,hcp,hS.2.2,hx⟩) hk hp);have b0:=Hd (fun W' h=>lH W' c s g 0 cp fr p x h (.inl rfl) hk hp);have a0:Hid (¬ D c):=fun h=>X c h ((hS.1 c).2 (.inl rfl));have b1:Hid (c<W.heap.size):=Ae.lt hS.2.1;have HY:=Hd hY;have HC:=Hd hC;have c1:=Hd a9;have H0:=Hd h0
 obtain⟨q,hq⟩:=vE (Iz p)
 unfold LJ at Z b0;rw[<-hq]at Z HY;clear hY hC a9 h0 hS X hcp hx hk hp hq;refine callsIn_of_wp func114 rfl trivial ?_ rfl;simp only[ntmps114,cQ,bS,cY,Nat.reduceAdd,Nat.reduceSub,cT,cS,dC,cW,cL,cR];gi_wp2_with fail
 refine⟨trivial,rfl,CallsIn.mono (callsIn_wide.2 Z.o) ?_⟩
 rintro e w1 ⟨rfl,b2,b3⟩;have c2:=Hd b2;have a1:=Hd b3;clear b2 b3;gi_wp2_with fail
 have hX:Af w1 (w1.alloc (.cells #[.string q,.string x] 49)):=(Aa w1).alloc _;have hB:Ae (w1.alloc (.cells #[.string q,.string x] 49)) w1.heap.size (.cells #[.string q,.string x] 49):=Ae.new w1 _;generalize w1.alloc (.cells #[.string q,.string x] 49)=w2 at hX hB ⊢;have HX:=Hd hX;have HB:=Hd hB;clear hX hB
 obtain⟨g1,a2⟩:=vE w1.heap.size
 rw[<-a2]at HB ⊢;have HG:=Hd a2;clear a2;gi_loopw [4,5] (fun gv bv wr=>(bv=.bool true/\gv=.pointer (some ⟨g1,0,none⟩)/\wr=w2)\/(bv=.bool false/\∃ D5,C 1 D5 wr/\Ad (fun b=>D b\/b=c) W wr/\∀ b,D5 b->D b\/W.heap.size<=b)) (fun _ bv _=>match bv with | .bool true=>1|_=>0)
 case atStart=>exact .inl ⟨rfl,rfl,rfl⟩
 case round =>have K:Ad (fun b=>D b\/b=c) W w2:=(a1.o.mono fun b _ h=>.inr h).trans' HX.o (fun _ _ h=>h.elim);have hD:=fun b h=>(HC.o 0).lt _ _ H0.o b h;rcases hrel with⟨rfl,rfl,rfl⟩|⟨rfl,D5,hC5,hK5,hS5⟩;{have b4:C 0 D wr:=(HC.o 0).keeps ((HC.o 0).keeps H0.o a1.o (fun b hb e=>a0.o (by rw[<-show b=c from e];exact hb))) HX.o (fun _ _ h=>h);obtain⟨fn,tm,c8,bd,c9,b5⟩:=HY.o 0 D wr vO b4 K;(have q0:=HB.o.cell (i:=0) (v:=.string q) vF;have q1:=HB.o.cell (i:=1) (v:=.string x) vF;have c3:=Hd b5;have a3:=Hd K;have HD:=Hd hD;clear b5 b4 K hD;gi_wp2_with fail);refine⟨rfl,c3.o.mono ?_⟩;rintro e A ⟨D5,k5,s5,H⟩;obtain⟨rfl,C5⟩:=H.resolve_right fun h=>c1.o _ _ _ h.2;(have a4:=k5;have a5:=HB.o.keeps k5 (fun h=>by have:=HD.o _ h;have:=a1.o.size;have:=HG.o;omega);have q0:=a5.cell (i:=0) (v:=.string q) vF;have q1:=a5.cell (i:=1) (v:=.string x) vF;have c4:=Hd (bA C5 (bA k5 s5));clear C5 k5 s5 a5 H;gi_wp2_with fail);have a7:Af A (A.alloc (.cells #[.string q,.string x] 49)):=(Aa A).alloc _;have b6:Ae (A.alloc (.cells #[.string q,.string x] 49)) A.heap.size (.cells #[.string q,.string x] 49):=Ae.new A _;have b7:=Ae.keeps (Ae.keeps (Ae.keeps c2.o HX.o (fun h=>h)) a4 a0.o) a7 (fun h=>h);refine⟨trivial,rfl,CallsIn.mono (callsIn_wide.2 (b0.o _ b7)) ?_⟩;(rintro e w7 ⟨rfl, -,a8⟩;have b8:A.heap.size≠c:=by have:=b1.o;have:=a3.o.size;have:=a4.size;omega);(have J:=b6.keeps a8 b8;have p0:=J.cell (i:=0) (v:=.string q) vF;have p1:=J.cell (i:=1) (v:=.string x) vF;have f0:w7.frozen? ⟨A.heap.size,0,none⟩=false:=J.frozen;have f1:w7.frozen? ⟨A.heap.size,1,none⟩=false:=J.frozen;have b9:=Hd (bA a7 a8);clear a7 b6 b7 a8 b8 J q0 q1 a4;gi_wp2_with fail);obtain⟨c5,k5,s5⟩:=c4.o;(have ks:=(Ad.oneSet w7 ⟨A.heap.size,0,none⟩ (.string ⟨#[]⟩)).trans (Ad.oneSet (w7.setCell ⟨A.heap.size,0,none⟩ (.string ⟨#[]⟩)) ⟨A.heap.size,1,none⟩ (.string ⟨#[]⟩));have hz:=a3.o.size;have c0:=((b9.o.1.mono fun _ _ e=>e.elim).trans b9.o.2).trans' ks (F:=fun b=>b=c) (fun b hb e=>by have e:b=A.heap.size:=e;omega);have c7:¬ D5 c:=fun h=>by have:=b1.o;rcases s5 c h with h|h;{exact a0.o h};omega);refine⟨.inr ⟨rfl,D5,(HC.o 1).keeps c5 c0 (fun b hb e=>c7 (by rw[<-show b=c from e];exact hb)),((a3.o.trans' k5 fun b _ h=>.inl h)).trans' c0 (fun b _ h=>.inr h),fun b hb=>(s5 b hb).imp id fun h=>by omega⟩,by decide⟩};have HF:Hid (UO W (fun b=>b=c) D O 1 C Cx LI (.returned (.tuple #[])) wr):=Hd ⟨⟨_,rfl⟩,D5,fun _=>False,hK5,hS5,fun b h=>h.elim,fun b _ h=>h,.inl ⟨hC5,fun b h=>h⟩⟩;clear hC5 hK5 hS5 K hD;gi_wp2;refine bodyPost_end (results_none rfl _ _ _) rfl ?_;exact HF.o
structure IM(t t5:Nat)(to:vB)(k:Nat)(D:Bf)(W:World):Prop where
 is:∀ b,D b↔(t<=b/\b<=t+4)\/b=t5
 a:DF t to 1 W
 b5:∃ a c,Ae W t5 (.cells #[.slice a k c] 30)/\(k=0->a=none/\c=0)
theorem IM.supp(t t5:Nat)(to:vB)(k:Nat):Ly (IM t t5 to k):=by
 refine⟨fun D W h b hb=>?_,fun D W H h X hb=>?_⟩
 ·obtain⟨a,c,A, -⟩:=h.b5;rcases (h.is b).1 hb with e|rfl;{have:=h.a.b4.lt;omega};exact A.lt
 ·obtain⟨a,c,A,J⟩:=h.b5;have q:∀ b,t<=b->b<=t+4->H.heap[b]?=W.heap[b]?:=fun b K O=>hb b ((h.is b).2 (.inl ⟨K,O⟩));exact⟨h.is,⟨(q _ vO vO).trans h.a.b0,(q _ vO vO).trans h.a.b1,(q _ vO vO).trans h.a.b2,(q _ vO vO).trans h.a.b3,(q _ vO vO).trans h.a.b4⟩,a,c,(hb t5 ((h.is t5).2 (.inr rfl))).trans A,J⟩
theorem jwf(s:Nat)(fr to k p x:vB)(hSK:∀ w,Af W w->vQ 113 #[.pointer (some ⟨s,0,none⟩),.string k,.string fr] w fun e w'=>∃ c,e=.returned (.tuple #[.pointer (some ⟨c,0,none⟩),.int .i64 0])/\w.heap.size<=c/\LO w c s (Ci fr) p x w'/\Af w w')(hx:x.toList.isEmpty=false)(hk:Mf p=true)(hp:p.size<=1000000)(hlt:Op.bytesLess (Iz p).toList to.toList=true) :
  vQ 59 #[.pointer (some ⟨s,0,none⟩),.string k,.string fr,.string to,.int .i64 1] W fun e w'=>(∃ la lc,e=.returned (.tuple #[.slice la 1 lc,.bool false,.int .i64 0]))/\Af W w':=by
 have c9:=Hd hSK;have a9:=Hd (fun c s fr g cp h=>jrx c s fr p x g cp h hx hk hp);clear hSK hx hk hp
 obtain⟨q,hq⟩:=vE (Iz p)
 rw[<-hq]at hlt a9;clear hq;refine (callsIn_wide (n:=0)).1 ?_;refine callsIn_of_wp_marks func59 rfl trivial ?_ rfl;simp only[ntmps59,cQ,bS,cY,Nat.reduceAdd,Nat.reduceSub,cT,cS,dC,cW,cL,cR];gi_wp2_with fail
 have hA:=DF.new W to 1;have a1:Af W (((((W.alloc (.cells #[.string to] 9)).alloc (.cells #[.int .i64 1] 3)).alloc (.cells #[.slice none 0 0] 30)).alloc (.cells #[.bool false] 4)).alloc (.cells #[.int .i64 0] 25)):=((((((Aa W).alloc _).alloc _).alloc _).alloc _)).alloc _
 refine⟨trivial,rfl,CallsIn.mono (callsIn_wide.2 (c9.o _ a1)) ?_⟩
 rintro e w1 ⟨c,rfl,hc,⟨g,cp,hC,hP,hg,b6,b7⟩,hX⟩;have b8:W.heap.size+5<=c:=by simpa using hc
 have HX:=Hd (a1.trans hX);have HA:=Hd (hA.keeps hX (fun _ _ _ h=>h));have p1:w1.cell? ⟨W.heap.size+1,0,none⟩=some (.int .i64 1):=HA.o.b1.cell (i:=0) vF;have HC:=Hd (bA b8 (bA hC (bA hP (bA b6 b7))));clear hA a1 hX hc hC hP hg b6 b7 b8;gi_wp2_with fail
 clear p1
 obtain⟨w2,X⟩:=vE (w1.alloc (.cells #[.slice none 0 0] 30))
 have J:Af w1 w2:=by rw[X];exact (Aa w1).alloc _
 have a2:Ae w2 w1.heap.size (.cells #[.slice none 0 0] 30):=by rw[X];exact Ae.new w1 _
 rw[<-X];have a3:=HC.o.1;have d0:=HC.o.2.2.1.lt;have b9:=HC.o.2.2.2.1;have c0:=HA.o.keeps J (fun _ _ _ h=>h);have c1:=Hd (HX.o.trans J);have d1:=J.size;have d2:=HA.o.b4.lt
 obtain⟨Z,c2⟩:=vE w1.heap.size
 rw[<-c2]at a2 ⊢;have a4:IM W.heap.size Z to 0 (fun b=>(W.heap.size<=b/\b<=W.heap.size+4)\/b=Z) w2:=⟨fun _=>Iff.rfl,c0,_,_,a2,fun _=>⟨rfl,rfl⟩⟩;have a5:Xw c s (Ci fr) p x g cp (fun b=>b=c\/b=g) w2:=⟨fun _=>Iff.rfl,Ae.keeps HC.o.2.1 J (fun h=>h),HC.o.2.2.1.keeps J (fun h=>h)⟩;have HZ:=Hd (show W.heap.size+5<=c/\W.heap.size+5<=Z/\W.heap.size+5<=w2.heap.size from⟨a3,by omega,by omega⟩);have HD:=Hd (show W.heap.size+5<=c/\c<g/\g<Z from⟨a3,b9,by omega⟩);clear X J a2 c0 d1 a3 d0 b9 d2 c2;refine kM (gf:=114) (pre:=#[.pointer (some ⟨c,0,none⟩)]) (lb:=#[]) rfl (vX 114) (a9.o c s (Ci fr) g cp HC.o.2.2.2.2) (Xw.supp c s (Ci fr) p x g cp) (fun k=>rfl) (IM W.heap.size Z to) (IM.supp W.heap.size Z to) _ _ a4 a5 (fun b hb ho=>by have:=HD.o;rcases ho with rfl|rfl<;>rcases hb with hb|hb<;>omega) ?hround ?hdone LI.supp
 case hround =>intro y j D W8 K hj A hz hK;simp only[EL];gi_wp2;refine hK _ _ (Aa W8) fun H A _ _=>?_;obtain rfl:j=0:=vO;obtain⟨_,_,h5,h6⟩:=A.b5;obtain⟨rfl,rfl⟩:=h6 rfl;(have HG:=Hd A;have H5:=Hd h5;have p0:=A.a.b0.cell (i:=0) (v:=.string to) vF;have p1:H.cell? ⟨W.heap.size+1,0,none⟩=some (.int .i64 1):=A.a.b1.cell (i:=0) vF;have p5:=h5.cell (i:=0) (v:=.slice none 0 0) vF;clear A h5 h6 a4 a5;gi_wp2_with (gi_at_builtin;refine s_ Ff (Av.nil _ _ ((Aa H).alloc _)) (.tmp 46) (.tmp 50) rfl rfl rfl (Jx (Ae.new H _)) (news:=[.string q,.string x]) (KQ _ _) rfl rfl vI vI ?_;intro d8 w' r1 r2 r3;have a0:=(H5.o.keeps ((Aa H).alloc (.cells #[.string q,.string x] 49)) (fun h=>h)).keeps r2 (fun e=>by cases e);have p5:=a0.cell (i:=0) (v:=.slice none 0 0) vF;have f5:w'.frozen? ⟨Z,0,none⟩=false:=a0.frozen;have a7:=Hd (bA (((Aa H).alloc _).trans' r2 (fun _ _ e=>by cases e):Af H w') a0);obtain⟨c3,c4,d3⟩:=r1.sl;subst d3;clear r1 r2 r3 a0));have ks:=Ad.oneSet w' ⟨Z,0,none⟩ (.slice c3 1 c4);have ha:=HZ.o;refine⟨D,(a7.o.1.mono fun _ _ e=>e.elim).trans' ks (fun b _ e=>(HG.o.is b).2 (.inr e)),fun b hb=>.inl hb,HG.o.is,HG.o.a.keeps ((a7.o.1.mono fun _ _ e=>e.elim).trans ks) (fun b h1 h2 e=>by have e:b=Z:=e;omega),c3,c4,a7.o.2.set_same (i:=0) _,fun e=>by cases e⟩
 case hdone =>intro D O H c5 A d4 c7;obtain⟨la,lc,h5, -⟩:=A.b5;have a8:=Hd A.a;have d5:=Hd c7;have c8:Af W H:=c1.o.trans' c5 (fun b hb e=>by have:=HZ.o;rcases e with (e|e)|e<;>omega);(have d6:=Hd c8;have p5:=h5.cell (i:=0) (v:=.slice la 1 lc) vF;have p2:H.cell? ⟨W.heap.size+1+1,0,none⟩=some (.slice none 0 0):=A.a.b2.cell (i:=0) vF;have p3:H.cell? ⟨W.heap.size+1+1+1,0,none⟩=some (.bool false):=A.a.b3.cell (i:=0) vF;have p4:H.cell? ⟨W.heap.size+1+1+1+1,0,none⟩=some (.int .i64 0):=A.a.b4.cell (i:=0) vF;have f2:H.frozen? ⟨W.heap.size+1+1,0,none⟩=false:=A.a.b2.frozen;have f3:H.frozen? ⟨W.heap.size+1+1+1,0,none⟩=false:=A.a.b3.frozen;have f4:H.frozen? ⟨W.heap.size+1+1+1+1,0,none⟩=false:=A.a.b4.frozen;clear A c5 d4 c7 a4 a5 c8 h5;gi_wp2_with fail);obtain⟨g2,g3,g4,gk⟩:=uZ (.slice la 1 lc) (.bool false) (.int .i64 0) a8.o.b2 a8.o.b3 a8.o.b4;have d7:=d5.o.keeps gk (by have:=HZ.o;omega);refine⟨by simp,.inl ⟨_,_,rfl,run_takeDeferred d7,?_⟩⟩;have d9:=HZ.o;refine⟨_,jyK (g2.put_other vO _) (g3.put_other vO _) (g4.put_other vO _) rfl rfl rfl,⟨_,_,rfl⟩,?_⟩;exact (d6.o.trans' gk (fun b hb e=>by omega)).trans' (Ad.onePut _ w2.heap.size (.deferred none)) (fun b hb e=>by have:=c1.o.size;omega)
structure QO(W0 W:World)(wb:Nat)(v:Value)(nodes:vM):Prop where
 cubes:Ha W0
 rd:Ic W0 v nodes
 ext:Af W0 W
 lo:W0.heap.size<=wb
 few:nodes.length<=1000000
structure LQ(W0:World)(wb:Nat)(v:Value)(nodes:vM):Prop where
 cubes:Ha W0
 rd:Ic W0 v nodes
 lo:W0.heap.size<=wb
 few:nodes.length<=1000000
theorem LQ.at'{W0 W:vW}{wb:Nat}(h:LQ W0 wb v nodes)(hz:W0.heap.size<=W.heap.size)(hb:∀ b,b<W0.heap.size->W.heap[b]?=W0.heap[b]?):QO { W with heap:=W0.heap } W wb v nodes:=
 ⟨h.cubes,h.rd,⟨rfl,rfl,rfl,hz,fun b e _=>hb b e⟩,h.lo,h.few⟩
def GT(wb:Nat)(root:vB)(v:vV)(_:Nat)(O:Bf)(W:vW):Prop:=(∀ b,O b->b<W.heap.size)/\O wb/\Nk W wb root v 1 .nilIface
theorem GT.supp(root:vB)(v:vV)(k:Nat):Ly (GT wb root v k):=
 ⟨fun D W h b hb=>h.1 b hb,fun D W J ⟨q,e,A⟩ H hb=>⟨fun b h=>bE (q b h) H,e,(hb _ e).trans A⟩⟩
structure rV(w w':World)(wb:Nat)(root:vB)(v:Value):Prop where
 kp:Ad (fun b=>b=wb) w w'
 way:Nk w' wb root v 1 .nilIface
structure jzt(W w':World)(wb:Nat)(root:vB)(v:Value)(L:Nat)(m:Ai):Prop where
 kp:Ad (fun b=>b=wb) W w'
 new:W.heap.size<=L
 var:Ae w' L (.cells m.cells.toArray 215)
 way:Nk w' wb root v 1 .nilIface
theorem jy6(root:vB)(v:vV)(nodes:vM)(u:Nat)(ev:vV)(t:vB)(m:Ai)(hB:QO W0 W wb v nodes)(hW:Nk W wb root v u ev)(hu:nodes[u]?=some t)(hm:m.refs.length=16)(hG:∀ w,Af W0 w->vR 116 #[.string t] w (.tuple #[m.V,.int .i64 0])) :
  vQ 193 #[.pointer (some ⟨wb,0,none⟩),.string (Ak t)] W (yM W wb root v u ev (some m)):=by
 have a2:u<nodes.length:=(bI.1 hu).1;have b1:=hB.few
 obtain⟨b,o,c,hv,b2,b3,J⟩:∃ b o c,v=.slice (some ⟨b,o,none⟩) nodes.length c/\b<W0.heap.size/\nodes.length<=c/\∀ (j:Nat) x,nodes[j]?=some x->W0.cell? ⟨b,o+j,none⟩=some (.string x):=by rcases hB.rd with⟨a,c,q,h2⟩|h;{rw[h2]at a2;cases a2};exact h
 unfold Nk at hW;have qt:=Am (J u t hu) hB.ext;have q1:=hW.cell (i:=1) (v:=v) vF;have q2:=hW.cell (i:=2) (v:=.int .i64 (u:Int)) vF;have b4:=Hd hW.lt;have HW:=Hd hW;have HB:=Hd hB
 obtain⟨n,hn⟩:=vE nodes.length
 rw[<-hn]at hv a2 b3 b1;have c1:¬(n:Int)<=(u:Int):=vO
 have c2:(u:Int)<(n:Int):=vO
 have c3:(0:Int)<=(u:Int):=vO
 have c4:decide (n<=u)=false:=decide_eq_false vO;have c5:(u:Int)<=1000000:=vO
 have HV:=Hd hv;have HG:=Hd hG;have HM:=Hd hm;have e2:=Hd (show u<=1000000 by omega);have d4:=Hd qt;have d5:=Hd (show b<W.heap.size/\b≠wb from⟨bE b2 hB.ext.size,by have:=hB.lo;omega⟩)
 obtain⟨sh,a4⟩:=vE (Ak t)
 have d6:=Hd a4;rw[<-a4];clear hB hW hu hn hv a2 b1 b2 b3 J hG hm a4;have e3:(sh.toList == sh.toList)=true:=by simp
 unfold vQ;go_in;go_wp2_with (refine Di Ac rfl rfl ?_;intro W1 b5 O)
 have Q1:=Hd (Am q1 O);have Q2:=Hd (Am q2 O);have QT:=Hd (Am qt O);have b6:=Hd b5;have b7:=Hd O;clear b5 O q1 q2 qt;rw[HV.o]at Q1;refine Ij [0,1,2,3,4,5,6,7,8,9,10,11,12,13,14,15,16,17,18,19,20,23,21,22,24,25] Af Aa Aq vY vY vY ?_
 refine vK ?_
 refine Lo _ (.pointer (some ⟨wb,0,none⟩)) rfl (fun w1 _=>by kernel_rfl) ?_;refine vS ?_
 refine vK ?_
 refine Dc ⟨wb,2,none⟩ (.int .i64 (u:Int)) rfl (fun w1 q=>Bq underlying3 rfl (Am (by exact Q2.o) q)) ?_;refine vS ?_
 refine vK ?_
 refine Lo _ (.pointer (some ⟨wb,0,none⟩)) rfl (fun w1 _=>by kernel_rfl) ?_;refine vS ?_
 refine vK ?_
 refine Dc ⟨wb,1,none⟩ (.slice (some ⟨b,o,none⟩) n c) rfl (fun w1 q=>Bq underlying52 rfl (Am (by exact Q1.o) q)) ?_;refine vS ?_;iterate 4 refine vK ?_
 refine Lo _ (.pointer (some ⟨wb,0,none⟩)) rfl (fun w1 _=>by kernel_rfl) ?_;refine vS ?_
 refine vK ?_
 refine Dc ⟨wb,1,none⟩ (.slice (some ⟨b,o,none⟩) n c) rfl (fun w1 q=>Bq underlying52 rfl (Am (by exact Q1.o) q)) ?_;refine vS ?_
 refine vK ?_
 refine Lo _ (.pointer (some ⟨wb,0,none⟩)) rfl (fun w1 _=>by kernel_rfl) ?_;refine vS ?_
 refine vK ?_
 refine Dc ⟨wb,2,none⟩ (.int .i64 (u:Int)) rfl (fun w1 q=>Bq underlying3 rfl (Am (by exact Q2.o) q)) ?_;refine vS ?_
 refine vK ?_
 refine Dc ⟨b,o+u,none⟩ (.string t) rfl (fun w1 q=>Bq underlying9 rfl (Am (by exact QT.o) q)) ?_;refine vS ?_
 refine vK ?_
 refine CD _ rfl vY rfl (fun w2 h2 K hK=>?_);have b8:=Hd (show Af W1 w2 from(Ap W1).trans h2);have b9:=Hd (BA w2 [t] 9);clear h2;go_simp;refine hK _ _ ((Aa w2).alloc _) ?_;clear hK K;have X:=Hd (show Af W1 (w2.alloc (.cells #[.string t] 9))from b8.o.trans ((Aa w2).alloc _));refine Ls _ 47 _ (.string (Ak (Aw [t]))) rfl (fun w1=>Ex (vX 47) vY) (fun w4 h4=>Tb w4 _ [t] (by simp) (b9.o.ext (by exact h4)) (HB.o.cubes.ext (HB.o.ext.trans (b7.o.trans (X.o.trans h4))))) ?_;rw[CA, <-d6.o];refine vS ?_;iterate 2 refine vK ?_
 refine Hv (fun w3 h3=>?_);have a5:=X.o.trans h3;have a7:=Hd (b6.o.keeps a5 (fun h=>h));have A:=Hd (b7.o.trans a5);have Z:Hid (Nk w3 wb root v u ev):=Ae.keeps HW.o A.o (fun h=>h);clear h3 a5 b6 Q1 Q2 QT b8 X b9;go_wp2_with fail
 have q2:=Z.o.cell (i:=2) (v:=.int .i64 (u:Int)) vF;have q1:=Z.o.cell (i:=1) (v:=v) vF;rw[HV.o]at q1;have Q1:=Hd q1;have Q2:=Hd q2;have QT:=Hd (Am d4.o A.o);have NA:=Hd (show ¬ w3.heap.size<=wb by have:=Z.o.lt;omega);have NB:=Hd (show ¬ w3.heap.size<=b by have:=d5.o.1;have:=A.o.size;omega);clear q1 q2;refine Nc [0,1,2,3,4,5,6,7,8,9,10,11,12,13,14,15,16] [14,15] Af (Ad (fun b=>w3.heap.size<=b)) Aa Aq (fun x y z h k=>Ad.trans h k) (fun x y h=>h.mono (fun _ _ h=>h.elim)) vY vY vY ?_
 refine vD ?_
 refine Lr _ (.pointer (some ⟨wb,0,none⟩)) rfl (fun w1 _=>by kernel_rfl) ?_;refine vS ?_
 refine vD ?_
 refine Fc ⟨wb,1,none⟩ (.slice (some ⟨b,o,none⟩) n c) rfl (fun w1 q=>Bq underlying52 rfl (Dw (by exact Q1.o) q NA.o)) ?_;refine vS ?_
 refine vD ?_
 refine Lr _ (.pointer (some ⟨wb,0,none⟩)) rfl (fun w1 _=>by kernel_rfl) ?_;refine vS ?_
 refine vD ?_
 refine Fc ⟨wb,2,none⟩ (.int .i64 (u:Int)) rfl (fun w1 q=>Bq underlying3 rfl (Dw (by exact Q2.o) q NA.o)) ?_;refine vS ?_
 refine vD ?_
 refine Fc ⟨b,o+u,none⟩ (.string t) rfl (fun w1 q=>Bq underlying9 rfl (Dw (by exact QT.o) q NB.o)) ?_;refine vS ?_;refine FM _ 116 _ (.tuple #[m.V,.int .i64 0]) rfl vY rfl (fun w1=>Ex (vX 116) vY) (fun w1 q=>HG.o w1 (((HB.o.ext.trans A.o).trans (Ap w3)).trans' q (fun x hx hw=>by have:=(HB.o.ext.trans A.o).size;omega))) ?_;refine vS ?_;iterate 3 refine vD ?_
 refine Hl _ rfl (fun w4 h4 K hK=>?_);have a0:=(Ap w3).trans h4;refine VP Ac rfl ?_;intro W5 c0 a8;refine hK _ _ (Lb a8) ?_;clear hK K h4;refine vS ?_;refine Hl _ rfl (fun w6 h6 K hK=>?_);refine Yk (vs:=m.cells) rfl rfl rfl (c0.keeps h6 (fun h=>h)) (by rw[m.cells_len HM.o];rfl) (by rw[m.cells_len HM.o];exact Ab) m.one ?_;intro W7 c7 a9;have c8:=(a0.trans a8).trans h6;have c9:=c8.trans' a9 (fun x hx e=>by have e:x=w4.heap.size:=e;have:=a0.size;omega);refine hK _ _ (a9.mono (fun x hx e=>by have e:x=w4.heap.size:=e;have:=a0.size;show w3.heap.size<=x;omega)) ?_;clear hK K h6 a9;refine vS ?_
 refine vD ?_
 refine Mr (fun w8 h8=>?_);have a3:=Hd (c9.trans h8);have d7:=Hd (A.o.trans a3.o);have d0:=Hd (c7.keeps h8 (fun h=>h));have d8:=Hd (a7.o.keeps a3.o (fun h=>h));have d1:Hid (Nk w8 wb root v u ev):=Ae.keeps Z.o a3.o (fun h=>h);have d2:=Hd (show W.heap.size<w4.heap.size/\wb<w4.heap.size by have:=a0.size;have:=a7.o.lt;have:=Z.o.lt;omega);clear a0 c0 a8 c7 c8 c9 h8 Q1 Q2 QT NA NB a7 a3
 obtain⟨mb,d3⟩:=vE w4.heap.size
 rw[<-d3]at d0 d2 ⊢;clear d3;have H:Nk w8 wb root v u ev:=d1.o;unfold Nk at H;have q2:=H.cell (i:=2) (v:=.int .i64 (u:Int)) vF;have f2:w8.frozen? ⟨wb,2,none⟩=false:=H.frozen;have d9:=d0.o.set_other (p:=⟨wb,2,none⟩) (by have:=d2.o;show mb≠wb;omega) (.int .i64 ((u:Int)+1));have e0:=d8.o.set_other (p:=⟨wb,2,none⟩) (by have:=b4.o;show W.heap.size≠wb;omega) (.int .i64 ((u:Int)+1));clear H;go_wp2_with (first|(refine Gv 215 (.tmp 6) rfl rfl _ _ rfl (Jq _ _ m HM.o d9) ?_)|(refine Bv (vs:=m.cells) rfl rfl rfl rfl e0 (by rw[m.cells_len HM.o];rfl) (by rw[m.cells_len HM.o];exact Ab) m.one ?_;intro e1 b0 a1))
 refine bodyPost_ret (Od rfl rfl rfl (Pm e1 _ m HM.o b0)) rfl ?_;have H:Nk w8 wb root v u ev:=d1.o
 refine⟨((Lb d7.o:Ad (fun b=>b=wb) W w8).trans (Ad.oneSet w8 ⟨wb,2,none⟩ _)).trans' a1 (fun x hx e=>by have e:x=W.heap.size:=e;omega),rfl,?_,HM.o⟩
 have h9:=Ae.set_same (i:=2) H (.int .i64 ((u:Int)+1));exact Ae.keeps h9 a1 (fun e=>by have e:wb=W.heap.size:=e;have:=b4.o;omega)
theorem jyl(pc:Nat)(t:vB)(v:vV)(p0:vB)(m:Ai)(hm:m.refs.length=16)(hG:∀ w,vR 116 #[.string t] w (.tuple #[m.V,.int .i64 0]))(hST:∀ w,vR 194 #[m.V,.string p0] w (.tuple #[.string ⟨#[]⟩,.string p0]))(hS:LQ W0 wb v [t])(hne:W0.heap.size<=b1/\W0.heap.size<=pc/\b1≠wb/\b1≠pc/\wb≠pc) :
  PJ prog 192 #[] #[.pointer (some ⟨b1,0,none⟩),.pointer (some ⟨pc,0,none⟩)] 1 (PR [(m,p0)]) (fun b=>b=wb\/b=pc) (Vr W0 b1 wb pc (Ak t) v p0) (GT wb (Ak t) v):=by
 intro y C Cx hC d3 D O W hY h0 A a0;have d4:=Hd (show ∀ w,Ad (fun b=>D b\/b=wb\/b=pc) W w->QO { w with heap:=W0.heap } w wb v [t]from fun w k=>hS.at' (bF A.size k.size) fun b hb=>(k.block b (bE hb A.size) (fun e=>by
  rcases e with e|e|e
  ·exact a0 b e ((A.is b).2 (.inl hb))
  ·have:=hS.lo;omega
  ·omega)).trans (A.old b hb))
 have a7:=Hd (show ¬ D b1/\¬ D wb/\¬ D pc from⟨fun h=>a0 _ h ((A.is _).2 (.inr (.inl rfl))),fun h=>a0 _ h ((A.is _).2 (.inr (.inr (.inl rfl)))),fun h=>a0 _ h ((A.is _).2 (.inr (.inr (.inr rfl))))⟩);have X:=Hd (show b1<W.heap.size/\wb<W.heap.size/\pc<W.heap.size from⟨A.cap.lt,Ae.lt A.way,A.path.lt⟩);have f4:=Hd (show O wb from(A.is _).2 (.inr (.inr (.inl rfl))));have Q1:=Hd (A.cap.cell (i:=0) (v:=.pointer (some ⟨wb,0,none⟩)) vF);have c2:=Hd (fun w hB hW=>jy6 { w with heap:=W0.heap } w wb (Ak t) v [t] 0 .nilIface t m hB hW rfl hm (fun w _=>hG w));have HM:=Hd hm;have f5:=Hd hST
 obtain⟨H,d5⟩:=vE (Ak t)
 rw[<-d5]at c2 A ⊢;have QR:=Hd (Nk.root' A.way);have HY:=Hd hY;have HC:=Hd hC;have f6:=Hd d3;have H0:=Hd h0;have HS:=Hd A;have b7:=Hd hne;clear hY hC d3 h0 A a0 hS hne hm hG hST d5;have d6:=Hd (show ¬(b1=wb\/W.heap.size<=b1)from fun e=>by have:=b7.o;have:=X.o;omega);refine callsIn_of_wp func192 rfl trivial ?_ rfl;simp only[ntmps192,cQ,bS,cY,Nat.reduceAdd,Nat.reduceSub,cT,cS,dC,cW,cL,cR];gi_wp2_with fail
 refine wpIn_wide.2 (wp_mono (Q:=fun e a' w'=>e=.normal/\∃ L:Nat,a'=rP y b1 pc wb H L m true/\jzt W w' wb H v L m) (zN [5,9,10] Af (Xv wb W.heap.size) Aa Aq (Xv.trans wb W.heap.size) (Xv.ext wb W.heap.size) vY vY 12 vY ?_) ?_);refine TQ (k:=0) ⟨b1,0,none⟩ (.pointer (some ⟨wb,0,none⟩)) rfl vY rfl rfl (fun w1 h1=>Bq underlying340 rfl (Dw (by exact Q1.o) h1.1 d6.o)) ?_;refine vS ?_;refine TQ (k:=1) ⟨b1,0,none⟩ (.pointer (some ⟨wb,0,none⟩)) rfl vY rfl rfl (fun w1 h1=>Bq underlying340 rfl (Dw (by exact Q1.o) h1.1 d6.o)) ?_;refine vS ?_;refine mX (k:=2) _ (.pointer (some ⟨wb,0,none⟩)) rfl vY rfl (fun w1 _=>by kernel_rfl) ?_;refine vS ?_;refine AN (k:=3) _ rfl vY rfl rfl (fun K q=>?_);go_big_quiet_op;refine q _ ?_;clear q K;refine TQ (k:=4) ⟨wb,0,none⟩ (.string H) rfl vY rfl rfl (fun w1 h1=>Bq underlying9 rfl (h1.2 _ (by exact QR.o))) ?_;refine vS ?_;refine jvV 5 9 _ _ vY rfl rfl rfl rfl (fun w2 h2 K q=>?_) (fun w2 h2 K q=>?_)
 ·have Z:=(Ap W).trans h2
  refine Oe (Ex (vX 193) vY) ((c2.o w2 (d4.o w2 (Lb Z)) (Ae.keeps HS.o.way Z (fun h=>h))).mono ?_);rintro e w3 ⟨c3,rfl,c4, -⟩;have J:rV w2 w3 wb H v:=⟨c3,c4⟩
  refine⟨_,rfl,q _ _ ⟨J.kp.mono (fun _ _ h=>.inl h),fun rt e=>?_⟩ ?_⟩
  ·have hr:=Nk.root' (Ae.keeps HS.o.way Z (fun h=>h))
   rw[hr]at e;rw[Nk.root' J.way];exact e
  clear q K;have HF:=Hd J;have HX:=Hd Z;clear J Z h2;refine vS ?_;refine AN (k:=6) _ rfl vY rfl rfl (fun K q=>?_);go_big_quiet_op;refine q _ ?_;clear q K;refine AN (k:=7) _ rfl vY rfl rfl (fun K q=>?_);go_big_quiet_op;refine q _ ?_;clear q K;refine AN (k:=8) _ rfl vY rfl rfl (fun K q=>?_);go_big_quiet_op;refine q _ ?_;clear q K;refine MX (k:=9) _ rfl vY rfl (fun w4 h4 K q=>?_);refine VP Ac rfl ?_;intro W5 b0 a9;refine q _ _ (Xv.ext _ _ _ _ a9) ?_;clear q K;refine vS ?_;refine MX (k:=10) _ rfl vY rfl (fun w6 h6 K q=>?_);refine Yk (vs:=m.cells) rfl rfl rfl (b0.keeps h6 (fun h=>h)) (by rw[m.cells_len HM.o];rfl) (by rw[m.cells_len HM.o];exact Ab) m.one ?_;intro W7 c5 a4;have d7:Af w3 w4:=h4;have g7:W.heap.size<=w3.heap.size:=bF HX.o.size HF.o.kp.size;have f7:=d7.size;refine q _ _ ⟨a4.mono (fun x hx e=>by have e:x=w4.heap.size:=e;exact .inr vO),fun rt e=>Dw e a4 (fun e=>by have e:wb=w4.heap.size:=e;have:=X.o;omega)⟩ ?_;clear q K;refine vS ?_;refine AN (k:=11) _ rfl vY rfl rfl (fun K q=>?_);go_big_quiet_op;refine q _ ?_;clear q K;refine mW vY (fun w8 h8=>?_);have f8:Af w3 W7:=((d7.trans a9).trans h6).trans' a4 (fun x hx e=>by have e:x=w4.heap.size:=e;omega);have d8:=f8.trans h8;have a3:=c5.keeps h8 (fun h=>h)
  obtain⟨L,hL⟩:=vE w4.heap.size
  rw[<-hL]at a3 f7 ⊢
  refine⟨trivial,L,rfl,⟨((Lb HX.o:Ad (fun b=>b=wb) W w2).trans HF.o.kp).trans (Lb d8),by omega,a3,?_⟩⟩
  have b8:=HX.o.size;exact Ae.keeps HF.o.way d8 (fun h=>h)
 ·have Z:=(Ap W).trans h2
  refine VP Ac rfl ?_;intro W5 b0 a9;refine q _ _ (Xv.ext _ _ _ _ a9) ?_;clear q K;refine vS ?_;refine MX (k:=5) _ rfl vY rfl (fun b2 b9 K q=>?_);have a1:=(Z.trans a9).trans b9;have d9:w2.heap.size<b2.heap.size:=bE b0.lt b9.size;have b8:=Z.size;have a2:=b0.keeps b9 (fun h=>h)
  obtain⟨L,hL⟩:=vE w2.heap.size
  rw[<-hL]at a2 d9 b8 ⊢;clear hL b0 a9 h2 b9 Z W5;refine Oe (Ex (vX 193) vY) ((c2.o b2 (d4.o b2 (Lb a1)) (Ae.keeps HS.o.way a1 (fun h=>h))).mono ?_);rintro e w3 ⟨c3,rfl,c4, -⟩;have J:rV b2 w3 wb H v:=⟨c3,c4⟩
  refine⟨_,rfl,q _ _ ⟨J.kp.mono (fun _ _ h=>.inl h),fun rt e=>?_⟩ ?_⟩
  ·have hr:=Nk.root' (Ae.keeps HS.o.way a1 (fun h=>h))
   rw[hr]at e;rw[Nk.root' J.way];exact e
  clear q K;have HF:=Hd J;have HX:=Hd a1;have g8:=Hd (bA d9 b8);have b5:=a2.keeps J.kp (fun e=>by have e:L=wb:=e;have:=X.o;omega);clear J a1 a2;refine vS ?_;refine AN (k:=6) _ rfl vY rfl rfl (fun K q=>?_);go_big_quiet_op;refine q _ ?_;clear q K;refine AN (k:=7) _ rfl vY rfl rfl (fun K q=>?_);go_big_quiet_op;refine q _ ?_;clear q K;refine AN (k:=8) _ rfl vY rfl rfl (fun K q=>?_);go_big_quiet_op;refine q _ ?_;clear q K;refine MX (k:=10) _ rfl vY rfl (fun w6 h6 K q=>?_);refine Yk (vs:=m.cells) rfl rfl rfl (b5.keeps h6 (fun h=>h)) (by rw[m.cells_len HM.o];rfl) (by rw[m.cells_len HM.o];exact Ab) m.one ?_;intro W7 c5 a4;refine q _ _ ⟨a4.mono (fun x hx e=>by have e:x=L:=e;exact .inr vO),fun rt e=>Dw e a4 (fun e=>by have e:wb=L:=e;have:=X.o;omega)⟩ ?_;clear q K;refine vS ?_;refine AN (k:=11) _ rfl vY rfl rfl (fun K q=>?_);go_big_quiet_op;refine q _ ?_;clear q K;refine mW vY (fun w8 h8=>?_);have a3:=c5.keeps h8 (fun h=>h);have f9:Af w3 w6:=h6;have e0:Ad (fun b=>b=L) w3 w8:=((Lb f9:Ad (fun b=>b=L) w3 w6).trans a4).trans (Lb h8);have g9:=X.o
  refine⟨trivial,L,rfl,⟨((Lb HX.o:Ad (fun b=>b=wb) W b2).trans HF.o.kp).trans' e0 (fun x hx e=>by have e:x=L:=e;omega),b8,a3,?_⟩⟩
  exact Ae.keeps HF.o.way e0 vO
 rintro e a8 w8 ⟨rfl,L,rfl,J⟩;have HF:=Hd J;have HL:=Hd (m.cells_len HM.o);clear J;unfold rP;gi_wp2_with fail
 gi_loopw [5] (fun e1 wr=>e1=.bool true/\∃ Dk,tN W wb b1 pc L C D 0 Dk p0 m wr/\Nk wr wb H v 1 .nilIface) (fun e1 wr=>0)
 case atStart =>
  have J:=HF.o;have d1:=(HC.o 0).lt _ _ H0.o
  exact⟨rfl,D,⟨(HC.o 0).keeps H0.o J.kp (fun b hb e=>a7.o.2.1 (e ▸ hb)),fun b h=>.inl h,J.kp.mono (fun b _ e=>.inr (.inl e)),HS.o.path.keeps J.kp (fun e=>b7.o.2.2.2.2 e.symm),J.var,fun h=>by have:=d1 L h;have:=J.new;omega,HM.o⟩,J.way⟩
 case round =>
  obtain⟨rfl,Dk,hR,e2⟩:=hrel
  have g0:=Hd e2;have HR:=Hd hR;have e3:¬ Dk wb:=fun h=>by
   rcases hR.sub wb h with h|h
   ·exact a7.o.2.1 h
   ·have:=X.o;omega
  have e4:¬ Dk pc:=fun h=>by
   rcases hR.sub pc h with h|h
   ·exact a7.o.2.2 h
   ·have:=X.o;omega
  have e5:¬ Dk b1:=fun h=>by
   rcases hR.sub b1 h with h|h
   ·exact a7.o.1 h
   ·have:=X.o;omega
  have c7:=Hd (bA e3 (bA e4 e5))
  obtain⟨fn,tm,h3,bd,c0,e6⟩:=HY.o 0 Dk wr vI hR.at' hR.kp
  have e7:atV [(m,p0)] 0=(m,p0):=rfl;unfold PR at c0;rw[e7]at c0;dsimp only at c0;clear e7;have g2:=Hd e6;have g3:=hR.path.cell (i:=0) (v:=.string p0) vF;clear e6 hR e3 e4 e5 e2;gi_wp2_with (refine yS 215 (.tmp 4) rfl rfl _ _ rfl (Jq _ _ m HR.o.len HR.o.var) ?_)
  refine⟨rfl,g2.o.mono ?_⟩
  rintro e w5 ⟨D5,k5,s5,b6⟩;rcases b6 with⟨rfl,C5⟩|⟨rfl,C5⟩
  case inr=>exact (f6.o _ _ _ C5).elim
  have c8:=HR.o.var.keeps k5 HR.o.nL;have c9:=HR.o.path.keeps k5 c7.o.2.1;have e8:Nk w5 wb H v 1 .nilIface:=Ae.keeps g0.o k5 c7.o.1;have e9:=(HS.o.cap.keeps HR.o.kp (fun e=>by
   rcases e with e|e|e
   ·exact a7.o.1 e
   ·exact b7.o.2.2.1 e
   ·exact b7.o.2.2.2.1 e)).keeps k5 c7.o.2.2
  have p5:=c9.cell (i:=0) (v:=.string p0) vF;have f0:=Hd (bA k5 s5);have g4:=Hd C5;have g5:=Hd c9;have b3:=Hd e8;have g6:=Hd e9;have b4:=c8;have h5:=Hd b4;clear k5 s5 C5 g3 c0 c9 e8 e9 b4;gi_wp2_with (refine AJ rfl 215 (.tmp 4) rfl _ _ rfl (Jq _ _ m HR.o.len c8) ?_)
  refine⟨trivial,rfl,CallsIn.mono (callsIn_wide.2 (f5.o w5)) ?_⟩
  rintro e w6 ⟨rfl,f1⟩;have c1:=Hd f1;clear f1 c8;have f2:Ad (fun b=>D b\/b=wb\/b=pc) W w6:=(HR.o.kp.trans' f0.o.1 (fun b hb h=>by
   rcases HR.o.sub b h with h|h
   ·exact .inl h
   ·omega)).trans' c1.o (fun _ _ h=>h.elim)
  have a5:∀ b,D5 b->D b\/W.heap.size<=b:=fun b hb=>by
   rcases f0.o.2 b hb with h|h
   ·exact HR.o.sub b h
   ·have:=HR.o.kp.size;exact .inr vO
  have f3:∀ b,b<W.heap.size->¬ D b->¬ D5 b:=fun b hb hD h=>by
   rcases a5 b h with h|h
   ·exact hD h
   ·omega
  have d0:=Hd (bA f2 (bA a5 f3));clear f2 a5 f3;have h7:(⟨#[]⟩:vB).toList.isEmpty=true:=by rw[cC];rfl
  have d2:Hid (UO W (fun b=>b=wb\/b=pc) D O 1 C Cx (GT wb H v) (.returned (.tuple #[])) w6):=
   Hd ⟨⟨_,rfl⟩,D5,fun b=>b=wb,d0.o.1,d0.o.2.1,fun b h=>by subst h;exact .inl f4.o,fun b hb h=>by subst h;exact d0.o.2.2 _ X.o.2.1 a7.o.2.1 hb,
    .inl ⟨(HC.o 1).keeps g4.o c1.o (fun _ _ h=>h),fun b h=>by subst h;exact bE (Ae.lt b3.o) c1.o.size,rfl,Ae.keeps b3.o c1.o (fun h=>h)⟩⟩
  gi_wp2;refine bodyPost_ret (results_none rfl _ _ _) rfl ?_;exact d2.o
theorem jwe(hc:Ha W)(t key:vB)(hk:key.size<=1000)(v:vV)(hv:Ic W v [t])(m:Ai)(hm:m.refs.length=16)(va:vB)(hGt:∀ w,vR 116 #[.string t] w (.tuple #[m.V,.int .i64 0]))(hST:∀ w,vR 194 #[m.V,.string (Ci key)] w (.tuple #[.string ⟨#[]⟩,.string (Ci key)]))(hCL:∀ w,vR 154 #[m.V,.string (Ci key)] w (Lk (some va)))(hcl:Pp m (Ci key)=some va) :
  vQ 112 #[.string (Ak t),.string key,v] W (fun e w'=>Af W w'/\e=.returned (.tuple #[Lk (some va),.nilIface])):=by
 obtain⟨a,c,b5⟩:=rT hv
 have HV:=Hd hv;have HC:=Hd hc;have J:=Hd (bA hm (bA hGt (bA hST (bA hCL hcl))));have HK:=Hd hk
 obtain⟨n,c7⟩:∃ n,n=1:=⟨_,rfl⟩
 replace b5:v=.slice a n c:=by rw[c7];exact b5
 have f9:=Hd c7;have c1:¬(40:Int)<(n:Int):=vO
 obtain⟨A,c8⟩:=vE (Ak t)
 have g0:=Hd c8;rw[<-c8]
 obtain⟨vs,e1⟩:=vE ([(m,Ci key)])
 have a0:=Hd e1;have i0:=Hd b5;clear hv hc hGt hST hCL hcl hm e1 hk c7 c8;subst b5;refine (callsIn_wide (n:=0)).1 ?_;refine callsIn_of_wp_marks func112 rfl trivial ?_ rfl;simp only[ntmps112,cQ,bS,cY,Nat.reduceAdd,Nat.reduceSub,cT,cS,dC,cW,cL,cR];gi_wp2_with (first|(refine RH Dl rfl rfl ?_;have d4:=X;intro W4 a1 b6)|(refine RH Dl rfl rfl ?_;intro W1 a2 c9)|(refine RH Pb rfl rfl ?_;intro W2 e2 e3)|(refine zM (vs:=[.string A,.slice a n c,.int .i64 0,.nilIface]) rfl rfl rfl rfl e2 rfl Ty (by intro v hv;simp at hv;rcases hv with rfl|rfl|rfl|rfl<;>rfl) ?_;intro W3 X e4))
 have b7:Af W1 W3:=e3.trans' e4 (fun x hx e=>by have e:x=W1.heap.size:=e;omega);have e5:=(c9.trans b7).trans b6;have g2:=c9.size;have d5:=b7.size;have d6:=a2.lt;have d7:=X.lt;have b2:=(a2.keeps b7 (fun h=>h)).keeps b6 (fun h=>h);have b3:=X.keeps b6 (fun h=>h)
 refine⟨trivial,rfl,CallsIn.mono (callsIn_wide.2 (Zu W4 key (by have:=HK.o;omega))) ?_⟩
 rintro e W5 ⟨rfl,a3⟩;have e6:=e5.trans a3;have b8:=Hd (b2.keeps a3 (fun h=>h));have d0:=Hd (b3.keeps a3 (fun h=>h));have d1:=Hd (a1.keeps a3 (fun h=>h));have g3:=Hd e6;have b4:W3.heap.size<W5.heap.size:=bE a1.lt a3.size;have HZ:=Hd (show W.heap.size<W1.heap.size/\W1.heap.size<W3.heap.size/\W3.heap.size<W5.heap.size from⟨by omega,by omega,b4⟩)
 obtain⟨Z,b9⟩:=vE W1.heap.size
 obtain⟨cb,q⟩:=vE W3.heap.size
 rw[<-b9, <-q]at HZ;rw[<-b9]at d0;rw[<-q]at d1;rw[<-b9, <-q];clear a2 c9 e2 e3 X e4 d4 a1 b6 b7 e5 g2 d5 d6 d7 b2 b3 a3 e6 b4 b9 q;gi_wp2_with fail
 refine⟨trivial,rfl,CallsIn.mono (callsIn_wide.2 (xI W5 Z (Ci key))) ?_⟩
 rintro e W6 ⟨rfl,a5⟩;have a7:Af W5 W6:=by rw[a5];exact ((Aa W5).alloc _).trans ((Aa _).alloc _)
 have d2:Ae W6 W5.heap.size (.cells #[.pointer (some ⟨Z,0,none⟩)] 340):=by rw[a5];exact (Ae.new W5 _).alloc _
 have d3:Ae W6 (W5.heap.size+1) (.cells #[.string (Ci key)] 9):=by rw[a5];have:=Ae.new (W5.alloc (.cells #[.pointer (some ⟨Z,0,none⟩)] 340)) (.cells #[.string (Ci key)] 9);rwa [bG]at this
 have g4:W6.heap.size=W5.heap.size+2:=by rw[a5];simp
 clear a5
 obtain⟨b1,a8⟩:=vE W5.heap.size
 obtain⟨pc,c0⟩:=vE (W5.heap.size+1)
 have a9:=Hd (show b1=W5.heap.size/\pc=b1+1/\W6.heap.size=b1+2 from⟨a8,by omega,by omega⟩);rw[<-a8]at d2;rw[<-c0]at d3;rw[<-a8];rw[<-a8]at c0;rw[<-c0];have a4:=Hd (g3.o.trans a7);have d8:=Hd (b8.o.keeps a7 (fun h=>h));have X:=d0.o.keeps a7 (fun h=>h);have a1:=d1.o.keeps a7 (fun h=>h);clear b8 d0 d1 a8 c0 g4 a7;gi_wp2_with fail
 have e7:LQ W Z (.slice a n c) [t]:=⟨HC.o,HV.o,by have:=HZ.o;omega,by simp⟩;have g5:vs.length=1:=by rw[a0.o];rfl
 have e8:Vr W b1 Z pc A (.slice a n c) (Ci key) (fun b=>b<W.heap.size\/b=b1\/b=Z\/b=pc) W6:=⟨fun b=>Iff.rfl,a4.o.size,fun b hb=>a4.o.block b hb (fun h=>h),X,d2,d3⟩
 refine kM (N:=1) (gf:=192) (lb:=#[.pointer (some ⟨b1,0,none⟩),.pointer (some ⟨pc,0,none⟩)]) rfl (vX 192) (show PJ prog 192 #[] #[.pointer (some ⟨b1,0,none⟩),.pointer (some ⟨pc,0,none⟩)] 1 (PR vs) (fun b=>b=Z\/b=pc) (Vr W b1 Z pc A (.slice a n c) (Ci key)) (GT Z A (.slice a n c))from by rw[g0.o,a0.o];exact jyl W b1 Z pc t (.slice a n c) (Ci key) m J.o.1 J.o.2.1 J.o.2.2.1 e7 (by have:=HZ.o;have:=a9.o;omega)) (Vr.supp W b1 Z pc A (.slice a n c) (Ci key)) (fun k=>rfl) (LN cb vs) (LN.supp cb vs) (fun b=>b=cb) (fun b=>b<W.heap.size\/b=b1\/b=Z\/b=pc) ⟨fun b=>Iff.rfl,a1⟩ e8 (fun b hb ho=>by have hb:b=cb:=hb;have:=HZ.o;have:=a9.o;omega) ?hround ?hdone (GT.supp Z A (.slice a n c))
 case hround =>(intro y k D W8 K hk H hz hK;unfold PR;rw[EL];have e9:(atV vs k).1.refs.length=16:=by(obtain rfl:k=0:=vO);rw[a0.o];exact J.o.1);(have f0:=Hd ((atV vs k).1.cells_len e9);clear H;gi_wp2_with (first|(refine YH Ac rfl rfl ?_;intro Wa f1 f2)|(refine RG (vs:=(atV vs k).1.cells) rfl rfl rfl rfl f1 (by rw[f0.o];rfl) (by rw[f0.o];exact Ab) (atV vs k).1.one ?_;intro Wb c2 c3)));refine hK _ _ (f2.trans' c3 (fun x hx e=>by have e:x=W8.heap.size:=e;omega)) fun W9 H f3 b0=>?_;have hB:=c2.keeps f3 vO;obtain⟨g,hg⟩:=vE W8.heap.size;rw[<-hg]at hB ⊢;clear f1 f2 c2 c3 f3 hg hK;have f4:=Hd H;have g6:=Hd (jsJ (vs:=vs) (k:=k) (by rw[g5];exact hk));have g7:=Hd (show ∀ w,vQ 154 #[(atV vs k).1.V,.string (atV vs k).2] w fun e w'=>e=.returned (Lk (Pp (atV vs k).1 (atV vs k).2))/\Af w w' from fun w=>by obtain rfl:k=0:=vO;rw[a0.o];show Calls _ _ #[m.V,.string (Ci key)] w fun e w'=>e=.returned (Lk (Pp m (Ci key)))/\_;rw[J.o.2.2.2.2];exact J.o.2.2.2.1 w);(have q:=H.blk;clear H b0 hk;gi_wp2_with (refine AJ rfl 215 (.tmp 10) rfl _ _ rfl (Jq W9 g (atV vs k).1 e9 hB) ?_));refine⟨trivial,rfl,CallsIn.mono (CallsIn.inRound _ (callsIn_wide.2 (g7.o W9))) ?_⟩;(rintro e w' ⟨rfl,hE⟩;have d9:=q.keeps hE (fun h=>h);unfold Lk;gi_wp2_with (refine RG (vs:=Jg (Pp (atV vs k).1 (atV vs k).2)) rfl rfl rfl rfl d9 (by rw[Wj,Wj]) (by rw[Wj];exact Eg) (KM _) ?_;intro Wb c2 c3));refine⟨D,(Lb hE:Ad D W9 w').trans (c3.mono (fun b _ e=>(f4.o.is b).2 e)),fun b h=>.inl h,⟨f4.o.is,?_⟩⟩;rw[g6.o];exact c2
 case hdone =>intro D O W9 b0 H g8 f5;obtain⟨g9,h0,c4⟩:=g8;(have q:=H.blk;rw[show vs.take 1=vs from by rw[a0.o];rfl]at q;have h2:=Hd q;have h3:=Hd c4;have h4:=Hd f5;have e0:=a4.o.size;clear e0;have a2:=d8.o.keeps b0 (fun e=>by have:=HZ.o;have:=a9.o;rcases e with e|e|e <;>(try have e:W.heap.size=cb:=e)<;>omega);have b8:=Hd a2;have h5:Hid (Af W W9):=(a4.o.trans' b0 (fun b hb e=>by have:=HZ.o;have:=a9.o;rcases e with e|e|e <;>(try have e:b=cb:=e)<;>omega));have c5:=Hd (show (¬ cb=W.heap.size)/\(¬ Z=W.heap.size)/\¬ W6.heap.size=W.heap.size from by have:=HZ.o;have:=a9.o;have:=a4.o.size;omega);have i1:∀ w,(binOp .eql 94 .nilIface .nilIface).run prog w=.ok (.bool true) w:=fun w=>by kernel_rfl);(have q3:=c4.errc;have q2:=Ae.cell (i:=2) (v:=.int .i64 ((1:Nat):Int)) c4 vF;clear q c4 a2 b0 H f5 g9 h0 e8 e7 X a1 d2 d3;have i2:¬((1:Nat):Int)<(n:Int):=by have:=f9.o;omega);(gi_wp2_with fail);refine wpIn_wide.2 (Nc [0,1,2,3,4] [3] Af (Ad (fun b=>b=W.heap.size)) Aa Aq (fun x y z h k=>Ad.trans h k) (fun x y h=>Lb h) vY vY vY ?_);refine Fc ⟨cb,0,none⟩ (Lk (GN vs)) rfl (fun w1 h1=>RQ (Ae.keeps (by exact h2.o) h1 c5.o.1)) ?_;refine vS ?_;refine vD ?_;refine Fc ⟨Z,3,none⟩ (.nilIface) rfl (fun w1 h1=>Bq underlying94 rfl (Dw (by exact h3.o.errc) h1 c5.o.2.1)) ?_;refine vS ?_;refine Hl _ rfl (fun wa ha K hK=>?_);have f6:Af W9 wa:=(Ap W9).trans ha;refine Yk (old:=Jg none) (vs:=Jg (GN vs)) rfl rfl rfl (b8.o.keeps f6 (fun h=>h)) (by rw[Wj,Wj]) (by rw[Wj];exact Eg) (KM _) ?_;intro i3 h6 f7;refine hK _ _ f7 ?_;clear hK K;refine vS ?_;refine vD ?_;refine Mr (fun wc hc=>?_);have f8:Ad (fun b=>b=W.heap.size) W9 wc:=((Lb f6:Ad (fun b=>b=W.heap.size) W9 wa).trans f7).trans (Lb hc);have h7:=h4.o.keeps f8 c5.o.2.2;have h8:=(h6.keeps hc (fun h=>h)).put_other (show W.heap.size≠W6.heap.size from fun e=>c5.o.2.2 e.symm) (.deferred none);have h9:Af W wc:=h5.o.trans' f8 (fun b hb e=>by have e:b=W.heap.size:=e;omega);gi_wp2;refine⟨by simp,.inl ⟨_,_,rfl,run_takeDeferred h7,?_⟩⟩;refine⟨_,Od rfl rfl rfl (RA h8),h9.trans' (Ad.onePut wc W6.heap.size _) (fun b hb e=>by have e:b=W6.heap.size:=e;have:=a4.o.size;omega),?_⟩;rw[show GN vs=some va from by rw[a0.o];exact J.o.2.2.2.2];rfl
theorem jt7(hc:Ha W)(t key:vB)(hk:key.size<=1000)(v:vV)(hv:Ic W v [t])(m:Ai)(hm:m.refs.length=16)(va:vB)(hGt:∀ w,vR 116 #[.string t] w (.tuple #[m.V,.int .i64 0]))(hST:∀ w,vR 194 #[m.V,.string (Ci key)] w (.tuple #[.string ⟨#[]⟩,.string (Ci key)]))(hCL:∀ w,vR 154 #[m.V,.string (Ci key)] w (Lk (some va)))(hcl:Pp m (Ci key)=some va) :
  vR 58 #[.string (Ak t),.string key,v] W (.tuple #[Lk (some va),.int .i64 0]):=by
 obtain⟨a,c,a2⟩:=rT hv
 have HP:=Hd (fun w (h:Af W w)=>jwe w (hc.ext h) t key hk v (hv.ext h) m hm va hGt hST hCL hcl)
 obtain⟨b0,H⟩:=vE (Ak t)
 rw[<-H]at HP ⊢
 obtain⟨o,ho⟩:=vE (some va)
 rw[<-ho]at HP ⊢;clear hc hk hv hGt hST hCL hcl hm H ho;subst a2;unfold vR vQ;go_in;go_wp2_with (refine Di Dl rfl rfl ?_;intro W1 J q)
 refine (HP.o W1 q).mono ?_;rintro e w2 ⟨hE,rfl⟩;have a3:=Hd (J.keeps hE (fun h=>h));have a4:=Hd (q.trans hE);clear J q hE;unfold Lk;go_wp2_with (first|(refine Di Dl rfl rfl ?_;intro W3 K O)|(refine Bv (old:=Jg none) (vs:=Jg o) rfl rfl rfl rfl K ((Wj none).trans (Wj o).symm) (by rw[Wj];exact Eg) (KM _) ?_;intro W4 X Z))
 have A:Af w2 W4:=O.trans' Z (fun x hx e=>by have e:x=w2.heap.size:=e;omega);have a5:=Hd (a4.o.trans A);have a0:=Hd (a3.o.keeps A (fun h=>h));have a7:=Hd X;clear K O X Z A;refine (show vQ 39 #[.nilIface,.iface 25 (.int .i64 10)] W4 fun e w'=>e=.returned (.bool false)/\W4=w' from jya W4).mono ?_;rintro e w5 ⟨rfl,rfl⟩;have a1:=a0.o;go_wp2_with (first|(refine Gv 122 (.tmp 8) rfl rfl _ _ rfl (RQ a7.o) ?_)|(refine Bv (old:=Jg none) (vs:=Jg o) rfl rfl rfl rfl a1 ((Wj none).trans (Wj o).symm) (by rw[Wj];exact Eg) (KM _) ?_;intro W8 a8 a9))
 refine bodyPost_ret (Od rfl rfl rfl (RA a8)) rfl ?_
 exact⟨rfl,a5.o.trans' a9 (fun x hx e=>by have e:x=W.heap.size:=e;omega)⟩
theorem jyZ(pa va p:vB)(rs:vM)(hr:rs.length=16) :
  vR 194 #[(Ai.mk 1 pa va rs).V,.string p] W (.tuple #[.string ⟨#[]⟩,.string p]):=by
 have q:=Hd hr;clear hr;unfold Ai.V;have e:(⟨#[]⟩:vB).toList.isEmpty=true:=by rw[cC];rfl
 have A:(Ai.cells ⟨1,pa,va,rs⟩)[0]?=some (.int .i64 1):=rfl;have H:(Ai.cells ⟨1,pa,va,rs⟩)[1]?=some (.string pa):=rfl;unfold vR vQ;go_in;go_wp2_with fail
 go_ret2
 exact⟨rfl,(Aa W).alloc _⟩
theorem jsn(w0 W:vW)(s bm:Nat)(room:Int)(S:vT)(hs:Ev w0 s bm room S)(hE0:Af w0 W)(g:Nat)(v:vV)(h:Wo w0.heap.size g v [] W)(t:vB)(hH:Oz S t)(pa va:vB)(rs:vM)(hgood:Gi (Bs 12) ⟨1,pa,va,rs⟩)(ht:t=Cr ⟨1,pa,va,rs⟩)(key:vB)(hk:key.size<=1000)(hp:Ci key=pa) :
  vQ 95 #[.pointer (some ⟨s,0,none⟩),.string (Ak t),.string key,.func (.func 145) #[] #[.pointer (some ⟨g,0,none⟩)]] W (jzu w0.heap.size g v W [t] (some va)):=by
 have q:=wU w0 W s bm room S hs hE0 g v [] h (by simp) t hH 12 _ hgood ht;have A:=Hd q;have H:rs.length=16:=(hgood.one (Br 12)).refs;have HL:=Hd (Ai.cells_len ⟨1,pa,va,rs⟩ H);have HK:=Hd (bA hk hp)
 obtain⟨k0,J⟩:∃ k,k=Ak t:=⟨_,rfl⟩
 rw[<-J]at A ⊢;clear hs hE0 h hgood q hH hk J ht hp H;unfold vQ;go_in;go_wp2_with fail
 refine A.o.mono ?_;rintro e w1 ⟨rfl,v1,K⟩;have a4:=Hd K;clear K;unfold Ai.V;go_wp2_with (first|(refine Di Ac rfl rfl ?_;intro W5 O X;refine Bv (vs:=Ai.cells ⟨1,pa,va,rs⟩) rfl rfl rfl rfl O (by rw[HL.o];rfl) (by rw[HL.o];exact Ab) (Ai.one _) ?_;intro W6 Z a0))
 refine vC (Zu _ key (by have:=HK.o.1;omega)) fun w7 hE=>?_;rw[HK.o.2];have a1:Af w1 W6:=X.trans' a0 (fun x hx e=>by have e:x=w1.heap.size:=e;omega);have a5:=Hd ((a4.o.ext a1).ext hE);have a2:=Hd (Z.keeps hE (fun h=>h))
 obtain⟨L,hL⟩:=vE w1.heap.size
 rw[<-hL]at a2 ⊢;clear hL hE a1 O X Z a0;go_wp2_with fail
 go_loopw [11,12] (fun a3 pv wr=>a3=.bool true/\pv=.string pa/\wr=w7) (fun a3 pv _=>0)
 case atStart=>exact⟨rfl,rfl,rfl⟩
 case round =>obtain⟨rfl,rfl,rfl⟩:=hrel;(have h6:=a2.o;have q0:wr.cell? ⟨L,0,none⟩=some (.int .i64 1):=h6.cellL (i:=0) vF;have q1:=h6.cellL (i:=1) (v:=.string pa) vF;have q2:=h6.cellL (i:=2) (v:=.string va) vF;clear h6;go_wp2_with fail);go_ret2;exact⟨rfl,v1,a5.o⟩
theorem jyy(s bm:Nat)(room:Int)(S:vT)(hs:Ev W s bm room S)(t:vB)(hH:Oz S t)(pa va:vB)(rs:vM)(hgood:Gi (Bs 12) ⟨1,pa,va,rs⟩)(ht:t=Cr ⟨1,pa,va,rs⟩)(key:vB)(hk:key.size<=1000)(hp:Ci key=pa) :
  vQ 98 #[.pointer (some ⟨s,0,none⟩),.string (Ak t),.string key] W (PL [t] W):=by
 obtain⟨k0,K⟩:∃ k,k=Ak t:=⟨_,rfl⟩
 have HF:=Hd (fun w e g v h=>jsn W w s bm room S hs e g v h t hH pa va rs hgood ht key hk hp);rw[<-K]at HF ⊢;clear K hs hH hgood ht hk hp;unfold vQ;go_in;go_wp2_with fail
 have Z:Af W (W.alloc (.cells #[.slice none 0 0] 52)):=(Aa W).alloc _;have hB:=Ae.new W (.cells #[.slice none 0 0] 52);have H:Wo W.heap.size W.heap.size (.slice none 0 0) [] (W.alloc (.cells #[.slice none 0 0] 52)):=⟨bP _,hB,⟨0,rfl,.inl ⟨rfl,rfl⟩⟩,fun b hb=>by cases hb⟩;have hF:=HF.o _ Z W.heap.size (.slice none 0 0) H;have a0:=Hd H;have HE:=Hd Z;clear hB H Z;refine hF.mono ?_;rintro e w2 ⟨rfl,v',J⟩;have HT:=Hd J
 obtain⟨n,X⟩:=J.at'.row
 have a1:n=1:=by have:=X.1;simpa using this.symm
 subst a1
 obtain⟨a,c,O⟩:=Ir X
 have q:=J.at'.var.cell (i:=0) (v:=v') vF;have A:Cd W w2 v' 1 [t]:=⟨⟨a,c,O⟩,X,J.ext0 a0.o HE.o (bP _),fun b hb=>(J.at'.own b hb).1⟩;have a2:=Hd A;subst O;clear hF J X A HT;unfold Sr;go_wp2_with fail
 go_ret2
 exact⟨_,_,rfl,a2.o⟩
theorem juL(s bm:Nat)(room:Int)(S:vT)(hs:Ev W s bm room S)(t:vB)(hH:Oz S t)(pa va:vB)(rs:vM)(hgood:Gi (Bs 12) ⟨1,pa,va,rs⟩)(ht:t=Cr ⟨1,pa,va,rs⟩)(key:vB)(hk:key.size<=1000)(hp:Ci key=pa) :
  vQ 51 #[.pointer (some ⟨s,0,none⟩),.string (Ak t),.string key] W (PL [t] W):=by
 obtain⟨y,H,K⟩:=hH
 have q:=BG W s bm room S (Ak t) hs;have A:Be S (Ak t).data.toList=some y:=H;rw[A]at q;simp only[fW,Dg]at q;have O:=Hd q;have X:=Hd (fun w (e:Af W w)=>jyy w s bm room S (hs.ext e) t ⟨y,H,K⟩ pa va rs hgood ht key hk hp)
 obtain⟨k0,J⟩:∃ k,k=Ak t:=⟨_,rfl⟩
 rw[<-J]at X;rw[<-J]at O ⊢;clear J hs hk q H K A hgood ht hp;unfold vQ;go_in;go_wp2_with fail
 refine O.o.mono ?_;rintro e w1 ⟨rfl,Z⟩;have HE:=Hd Z;clear Z;go_wp2_with fail
 refine (X.o w1 HE.o).mono ?_;rintro e w2 ⟨a,c,rfl,hR⟩;have HR:=Hd hR;clear hR;go_wp2_with fail
 go_ret2
 exact⟨_,_,rfl,HR.o.since HE.o⟩
end
section
open Go Go.RowKit
theorem jvm(z y:Nat):Oz (Lx z y) Ep:=⟨_,OD z y,rfl⟩
theorem jsf(s bm z y:Nat)(hs:Ev W s bm 100 (Lx z y)):vQ 51 #[.pointer (some ⟨s,0,none⟩),.string (Ak Ep),.string kA] W (PL [Ep] W):=
 juL W s bm 100 (Lx z y) hs Ep (jvm z y) (Ci kA) Ps _ NL rfl kA vI rfl
theorem jvl(s bm z y:Nat)(hs:Ev W s bm 100 (Lx z y))(hN:BH (Lx z y)):vR 49 #[.pointer (some ⟨s,0,none⟩),.string (Ak Ep),.string kA] W (Sr (some Ps)):=by
 have e:Jw (Lx z y) ((Ci kA).size+1) (Bo Ep) (Ci kA)=some Ps:=by rw[BW W (Wg OX) OX];exact nQ rfl
 refine (jvx W s bm 100 (Lx z y) hs hN (Ak Ep) _ (OD z y) kA vI).mono ?_;rintro A w' ⟨rfl,q⟩
 refine⟨?_,q⟩
 show Ending.returned (Sr (Jw (Lx z y) ((Ci kA).size+1) (Bo Ep) (Ci kA)))=_;rw[e]
theorem sM:Ps.toList.isEmpty=false:=by decide +kernel
theorem jsj(s bm z y:Nat)(hs:Ev W s bm 100 (Lx z y)):vQ 59 #[.pointer (some ⟨s,0,none⟩),.string (Ak Ep),.string kA,.string kB,.int .i64 1] W fun e w'=>(∃ la lc,e=.returned (.tuple #[.slice la 1 lc,.bool false,.int .i64 0]))/\Af W w':=
 jwf W s kA kB (Ak Ep) (Ci kA) Ps (fun w e=>jyU w s bm 100 (Lx z y) kA (Ak Ep) (Ci kA) Ps _ vI (hs.ext e) _ (OD z y) 12 Xp NL rfl rfl sM (by decide +kernel) (TX kA) (by decide +kernel)) sM (TX kA) (by decide +kernel) (by decide +kernel)
theorem eY:Op.bytesLess kA.toList kB.toList=true:=by decide +kernel
theorem wF:QS Xp Ep kA kB kA:=
 ⟨⟨12,NL⟩,rfl,rfl,by decide +kernel,by decide +kernel,by decide +kernel,by decide +kernel,by decide +kernel,by decide +kernel,by
  have h:Xp.path=Ci kA:=rfl;rw[h];rfl⟩
def Td:Fd:=⟨0,Ak Ep,kA,⟨#[]⟩,[Ep]⟩
def Wt:Fd:=⟨1,Ak Ep,kA,kB,[Ep]⟩
theorem OA:Vi Td:=⟨.inl ⟨rfl,rfl⟩,Uj _,by decide +kernel,by decide +kernel,by show ([Ep]:vM).length<=200;simp,fun b hb=>by
 have hb:b∈[Ep]:=hb;rw[bL.1 hb];exact nJ⟩
theorem rG:Vi Wt:=⟨.inr rfl,Uj _,by decide +kernel,by decide +kernel,by show ([Ep]:vM).length<=200;simp,fun b hb=>by
 have hb:b∈[Ep]:=hb;rw[bL.1 hb];exact nJ⟩
theorem jr8(h:k=0\/k=1):(Hn k).size<=1:=by
 rcases h with rfl|rfl
 ·decide +kernel
 ·decide +kernel
theorem rH{p:Fd}(h:Vi p)(hn:p.nodes.length<=50):(Fu p).size<=65536:=by
 have e:(Hn p.kind).size<=1:=jr8 _ (h.kind.imp (·.1) id);have q:=Zo (Hn p.kind);have A:=Zo p.root;have H:=Zo p.key;have J:=Zo p.to;have K:=UF (p.nodes.map Ay);have O:=FP p.nodes h.short;have X:=h.root;have Z:=h.key;have h9:=h.to;unfold Fu;refine bF (UF _) ?_;rw[NG];simp only[bN,fX,iJ,List.sum_nil];omega
theorem rS:(Fu Td).size<=65536:=rH OA (by show ([Ep]:vM).length<=50;simp)
theorem uS:(Fu Wt).size<=65536:=rH rG (by show ([Ep]:vM).length<=50;simp)
theorem uT(p:Fd)(hr:p.root.size=32):Fu p≠⟨#[]⟩:=fun e=>by
 have A:(Fu p).size=0:=by rw[e];rfl
 have q:=NT [Ay (Hn p.kind),Ay p.root,Ay p.key,Ay p.to,Fj (p.nodes.map Ay)];rw[NG]at q;simp only[bN,fX,iJ,List.sum_nil]at q;have H:(Ay p.root).size ≥ 1:=by
  unfold Ay;split
  ·rename_i h
   have:=h.1
   omega
  ·rw[cM];omega
 unfold Fu at A;omega
theorem wD:vR 116 #[.string Ep] w (.tuple #[Xp.V,.int .i64 0]):=Zt (Br 12) w Xp NL
theorem jsh(hc:Ha w)(nv:vV)(hn:Ic w nv [Ep]):vQ 17 #[.agg (Td.cells nv).toArray] w fun e w'=>∃ a c,e=.returned (.tuple #[.slice a 1 c,.int .i64 0])/\Af w w':=
 jt8 w Td nv hn OA rfl Ps fun W e=>jt7 W (hc.ext e) Ep kA vI nv (hn.ext e) Xp rfl Ps wD (fun W=>jyZ W _ _ _ _ rfl) (fun W=>juS W (Ci kA) Ps ⟨#[]⟩ _ rfl) rfl
end
section
open Go Go.RowKit
attribute [local go_sem] Oper.semAt_some
theorem Hz.past{W:vW}{M:Cn}{c:Nat}{es:List (Ce Int)}{room:Int}{S:vT}(h:Hz w0 D W b M a c rm sb cb es ck bm room S n)(k:Ad F W W')(h1:¬ F b)(h2:¬ F rm)(h3:¬ F sb)(h4:¬ F bm)(h5:∀ x∈S,¬ F x.2.1)(h6:∀ z,D z->¬ F z)(h7:Qa W F):Hz w0 D W' b M a c rm sb cb es ck bm room S n:=
 ⟨h.m.keeps k h1 h2 h6,h.s.keeps k h3 h4 h5 h7,h.sep,h.rb,h.db,fun z e=>⟨(h.dr z e).1,bE (h.dr z e).2 k.size⟩,h.ok,h.st,h.kn,h.lt,h.val⟩
theorem jtb{w:vW}{T:TypeId}{fz:Nat × Nat}{y:Array MapEntry}(h:Ae w cb (.cells x T fz))(hT:T≠9)(hm:Ae w mb (.map y ck)):Qa w (fun z=>z=cb\/z=mb):=fun z q A e hb=>by
 rcases e with e|e
 ·exact UJ h hT z q A e hb
 ·exact TR hm z q A e hb
theorem Pa:(Instr.alloc 54 true (.tuple #[])).run prog w=.ok (.pointer (some ⟨w.heap.size,0,none⟩)) (w.alloc (.cells [Value.int .i64 0,.string ⟨#[]⟩,.string ⟨#[]⟩,.string ⟨#[]⟩,.slice none 0 0].toArray 54)):=vY
theorem Ka:(Instr.alloc 38 true (.tuple #[])).run prog w=.ok (.pointer (some ⟨w.heap.size,0,none⟩)) (w.alloc (.cells [Value.int .i64 0,.int .i64 0,.int .i64 0,.string ⟨#[]⟩,.slice none 0 0].toArray 38)):=vY
theorem jt9(hc:Ha w)(he:Gj w):vR 4 #[] w (.bool true):=by
 have HC:=Hd hc;have i8:=Hd he;clear hc he;unfold vR vQ;go_in;go_wp2_with fail
 refine (pD w HC.o i8.o 2 100 4 vI vI vI).mono ?_;rintro e w1 ⟨D,b,a,c,K,H,A,J,X,z,rfl,hI,Z,b4,q,g3,a4,d0⟩;have H1:=Hd (bA hI (bA Z (bA b4 (bA q (bA g3 (bA a4 d0))))));clear hI Z b4 q g3 a4 d0;go_wp2_with fail
 have c7:=(Aa w1).alloc (.cells (Ov Jm).toArray 47);have d1:=jwg w1 Jm 47;change Calls _ _ _ (w1.alloc (.cells (Ov Jm).toArray 47)) _;have g8:=Ae.new w1 (.cells (Ov Jm).toArray 47)
 obtain⟨ub,i2⟩:=vE w1.heap.size
 rw[<-i2]at d1 g8 ⊢;generalize w1.alloc (.cells (Ov Jm).toArray 47)=w2 at c7 d1 g8 ⊢
 obtain⟨d2,Z,b4,q,g3,a4,d0⟩:=H1.o
 have i9:=d2.ext c7;have l4:=d2.m.blk.lt;have b6:=Z.trans c7;have g4:=ZO w2 w D b (Jj 2) a c K H A Ux 1 X 100 (Pu z) 1 i9 vI vI jvi (.slice (some ⟨ub,0,none⟩) 1 1) Jm d1 vI (fun c hc=>by have hc:c∈[(⟨kA,Ps,false⟩:Bk)]:=hc;rw[bL.1 hc];decide) (fun _=>False) (fun t S'=>t=Ak Ep/\∃ y,S'=Lx z y) (fun W k hS=>by(rw[jvp];have g9:Af w W:=b6.trans' k fun x O e=>by have e:x=b:=e;omega);exact jrC w W (HC.o.ext g9) (i8.o.ext g9) H X z hS g9.size _ (d1.keeps k (fun x O e=>by have O:some ub=some x:=O;have e:x=b:=e;cases O;omega)))
 unfold XG at g4;rw[jxX]at g4;refine g4.mono ?_;rintro e w3 (⟨k,hk,hN,_⟩|⟨_,t,S1,S',D',a',c',⟨rfl,y,rfl⟩,rfl,g5,h0,d3,b1,j0, -⟩)
 ·rcases hN with h|⟨_,h⟩;{exact absurd h.symm hk};exact h.elim
 obtain rfl:S'=Lx z y:=b1 (by rw[qJ];exact NK);have hf:(Rk Ux (Jj 2) (Ak Ep) 1).filter (fun x=>Bx Qe.all x.1)=Gb:=by rw[qJ];exact fJ.2 NK
 simp only at g5;rw[hf]at g5;have j1:BK w3 A J 4:=(show BK w2 A J 4 from b4.keeps c7 (fun h=>h) (fun h=>h)).keeps h0 (q A (.inl rfl)).1 (q J (.inr rfl)).1;have j2:=b4.1.lt;have j3:=b4.2.lt;have i3:=c7.size;have b7:∀ x,x<w1.heap.size->¬ Tf b K X (Pu z) x->x≠H->x≠b/\x≠K/\x≠H/\x≠X/\(∀ y'∈Lx z y,y'.2.1≠x)/\∀ z',D' z'->z'≠x:=fun x h1 h2 h3 =>⟨fun e=>h2 (.inl e),fun e=>h2 (.inr (.inl e)),h3,fun e=>h2 (.inr (.inr (.inl e))),fun y' hy e=>by rcases d3 y' hy with h|h;{exact h2 (.inr (.inr (.inr (by rw[<-e];exact h))))};omega,fun z' hz e=>by have:=j0 z' hz;omega⟩
 have oc:=b7 A j2 (q A (.inl rfl)).1 (q A (.inl rfl)).2.2.2;have om:=b7 J j3 (q J (.inr rfl)).1 (q J (.inr rfl)).2.2.2;have i4:w.heap.size<=X:=d2.s.bnew;have d9:Af w w3:=b6.trans' h0 fun x O e=>by have hz:w.heap.size<=z:=d2.s.new (ky Gl,z,⟨Gl,[],0,1⟩) (by unfold Pu;exact bL.2 rfl);have e:x=b\/x=K\/x=X\/x∈[z]:=e;rw[bL]at e;rcases e with e|e|e|e<;>omega
 have H3:=Hd (bA g5 (bA d9 (bA j1 (bA oc (bA om (bA d0 (bA (show w.heap.size<=A from(q A (.inl rfl)).2.1) (show w.heap.size<=J from(q J (.inr rfl)).2.1))))))));clear g5 d9 j1 oc om b7 j2 j3 i3 g4 hf h0 d3 b1 j0 d2 Z b4 q g3 a4 d0 i9 b6 c7 d1 g8 i4 l4;go_wp2_with fail
 have h4:=(Aa w3).alloc (.cells (Pz Jz).toArray 49);refine vH (VL _ _ Jz (HC.o.ext (H3.o.2.1.trans h4)) (jwh w3 Jz 49) KH) fun w4 l5=>?_;rw[nK];have j4:=Hd (h4.trans l5);clear h4;go_wp2_with fail
 refine vH (juQ w4 D' b Qe a' c' K H A Gb 2 (H3.o.1.m.ext j4.o) vI 1 1 _ (Ak Ep) FH rfl FT) fun w5 l6=>?_;have d4:=Hd (j4.o.trans l6);go_wp2_with fail
 have h5:=H3.o.1.ext d4.o;have g6:BK w5 A J 4:=H3.o.2.2.1.keeps d4.o (fun h=>h) (fun h=>h)
 obtain⟨th,j5⟩:=vE (Ak Ep++⟨#[32]⟩++kA)
 have hF:∀ W,Ad (fun z=>z=A\/z=J) w5 W->Hz w D' W b Qe a' c' K H A Gb 2 X 100 (Lx z y) 1001:=fun W k=>by obtain⟨c1,c2,c3,c4,c5,c6⟩:=H3.o.2.2.2.1;obtain⟨m1,m2,m3,m4,m5,m6⟩:=H3.o.2.2.2.2.1;refine h5.past k ?_ ?_ ?_ ?_ ?_ ?_ (jtb g6.1 vI g6.2);{rintro (e|e);{exact c1 e.symm};exact m1 e.symm};{rintro (e|e);{exact c2 e.symm};exact m2 e.symm};{rintro (e|e);{exact c3 e.symm};exact m3 e.symm};{rintro (e|e);{exact c4 e.symm};exact m4 e.symm};{rintro x O (e|e);{exact c5 x O e};exact m5 x O e};rintro x O (e|e);{exact c6 x O e};exact m6 x O e
 have HF:=Hd hF;have j6:=Hd g6;have h7:=H3.o.2.2.2.2.2.1;refine (jxJ w5 D' b Qe a' c' K H A Gb 2 h5.m vI 1 1 _ (Ak Ep) FH rfl FT (by rw[Uj];decide) kA Ps vI 0 (fun W=>Ad (fun z=>z=A\/z=J) w5 W/\AB W A J th) (fun W=>Ad (fun z=>z=A\/z=J) w5 W/\AB W A J th) (fun W=>Ad (fun z=>z=A\/z=J) w5 W/\∃ tg tc,Ox W A J tg tc th Ps/\w5.heap.size<=tg) (fun W k=>by rw[<-j5];refine (jxH W A J h7 (j6.o.keeps k (fun h=>h) (fun h=>h)) th).mono ?_;rintro e w' ⟨rfl,h1,h2⟩;exact⟨rfl,(k.mono fun _ _ e=>e.elim).trans h1,h2⟩) (fun W k=>(HF.o W k.1).m.blk) (fun W k=>by have h:=jvl W H X z y (HF.o W k.1).s.st (HF.o W k.1).s.all;refine h.mono ?_;rintro e w' ⟨rfl,hE⟩;exact⟨rfl,k.1.trans (hE.mono fun _ _ e=>e.elim),k.2.1.keeps hE (fun h=>h),k.2.2.keeps hE (fun h=>h)⟩) (fun W k=>(HF.o W k.1).m.blk) (fun _ W k=>by rw[<-j5];refine (jrQ W A J h7 th Ps k.2).mono ?_;rintro e w' ⟨rfl,h1,tg,tc,h2,h3⟩;exact⟨true,rfl,k.1.trans (h1.mono fun _ _ e=>.inl e),tg,tc,h2,bF k.1.size h3⟩)).mono ?_
 intro e w6 h6
 obtain⟨_,rfl,h8,tg,tc,j7,l7⟩:=(show _\/_ from h6).resolve_right fun h=>h.1 rfl
 clear h6;have i5:=d4.o.size;have b8:=H3.o.2.2.2.2.2.2;have e0:Af w w6:=(H3.o.2.1.trans d4.o).trans' h8 fun x O e=>by rcases e with e|e;{have:=b8.1;omega};have:=b8.2;omega
 have H6:=Hd (bA (hF w6 h8) (bA e0 (bA j7 (show D' tg\/tg=b\/tg=K\/tg=X\/(∃ x∈Lx z y,x.2.1=tg)->False from fun e=>by have hl:=H3.o.1.ext d4.o;have l8:=hl.lt';rcases e with e|e|e|e|⟨x,O,e⟩;{have:=(hl.dr tg e).2;omega};{omega};{omega};{omega};have:=l8.2.2.2.2 x.2.1 (iN O);omega))))
 clear h5 g6 hF h7 h8 j7 l7 i5 b8 e0 HF j6;go_wp2_with fail
 have b5:=(jrK w6 D' b Qe a' c' K H A Gb 2 H6.o.1.m vI 1 1 _ (Ak Ep) FH rfl FT kA [Ep] (fun W k=>jsf W H X z y (H6.o.1.ext k).s.st) OA rS);change Calls _ _ _ _ (fun e w'=>e=.returned (.tuple #[.string (Fu Td),.int .i64 0])/\Af w6 w')at b5;refine b5.mono ?_;rintro e w7 ⟨rfl,j8⟩;have l9:=Hd j8;clear j8 b5;go_wp2_with fail
 refine (xV w7 Td OA rS).mono ?_;rintro e w8 ⟨nv,rfl,g7⟩
 obtain⟨na,nn,nc,rfl⟩:∃ a n c,nv=.slice a n c:=by rcases g7.rd with⟨a,c,e, -⟩|⟨b,o,c,e, -⟩;{exact⟨a,0,c,e⟩};exact⟨_,_,c,e⟩
 have H8:=Hd (bA (l9.o.trans g7.ext) g7.rd);clear g7;unfold Fd.cells Td;go_wp2_with (first|(refine Di Pa rfl rfl ?_;intro W9 j9 k0)|(refine Bv (vs:=[.int .i64 0,.string (Ak Ep),.string kA,.string ⟨#[]⟩,.slice na nn nc]) rfl rfl rfl rfl j9 rfl Gk (by simp[Value.oneCell']) ?_;intro k1 e3 e4)|(refine Gv 54 (.tmp 13) rfl rfl (.agg (Td.cells (.slice na nn nc)).toArray) ⟨w8.heap.size,0,none⟩ rfl (YF _ _ _ rfl e3) ?_))
 have b9:Af w8 k1:=k0.trans' e4 fun x O e=>by have e:x=w8.heap.size:=e;omega
 have e5:=Hd (H8.o.1.trans b9);refine (jsh k1 (HC.o.ext (H6.o.2.1.trans e5.o)) _ (H8.o.2.ext b9)).mono ?_;rintro e h9 ⟨ja,jc,rfl,hE⟩;have a0:=Hd (e5.o.trans hE);clear hE b9 j9 k0 e3 e4;go_wp2_with fail
 have hR:∀ W,Af h9 W->vQ 59 #[.pointer (some ⟨H,0,none⟩),.string (Ak Ep),.string kA,.string kB,.int .i64 1] W fun e w'=>(∃ la lc,e=.returned (.tuple #[.slice la 1 lc,.bool false,.int .i64 0]))/\Af W w':=fun W k=>jsj W H X z y (H6.o.1.ext (a0.o.trans k)).s.st;have HR:=Hd hR;have b5:=(jpW h9 D' b Qe a' c' K H A Gb 2 (H6.o.1.ext a0.o).m vI 1 1 _ (Ak Ep) FH rfl FT kA kB Ep 1 eY (fun W k=>(hR W k).mono fun e w' ⟨⟨la,lc,e1⟩,e2⟩=>⟨⟨la,1,lc,e1⟩,e2⟩) (fun W k=>juK W H kA kB (Ak Ep) Ep kA Xp wF eY fun V kV=>by have h:=BG V H X 100 (Lx z y) (Ak Ep) (H6.o.1.ext (a0.o.trans (k.trans kV))).s.st;rw[OD]at h;exact h) rG uS)
 change Calls _ _ _ _ (fun e w'=>e=.returned (.tuple #[.string (Fu Wt),.bool false,.int .i64 0])/\Af h9 w')at b5;refine b5.mono ?_;rintro e m0 ⟨rfl,hE⟩;have c0:=Hd hE;clear hE b5 hR;go_wp2_with fail
 refine (jrL m0 D' b Qe a' c' K H A Gb 2 (H6.o.1.ext (a0.o.trans c0.o)).m vI 1 1 _ (Ak Ep) FH rfl FT kA kB 1 (fun W e w'=>(∃ la lc,e=.returned (.tuple #[.slice la 1 lc,.bool false,.int .i64 0]))/\Af W w') (fun W e w' h=>by obtain⟨⟨la,lc,h⟩, -⟩:=h;exact⟨_,_,_,h⟩) (fun W k=>HR.o W (c0.o.trans k))).mono ?_;rintro e m7 ⟨W,Z,⟨la,lc,rfl⟩,k2⟩;have e6:=Hd (a0.o.trans (c0.o.trans (Z.trans k2)));clear Z k2;go_wp2_with fail
 refine (ZP m7 D' b Qe a' c' K H A Gb 2 (H6.o.1.ext e6.o).m vI 1 1 _ (Ak Ep) FH rfl FT vI).mono ?_;rintro e c8 ⟨cv,rfl,hE,k3⟩
 obtain⟨va,vn,vc,rfl⟩:∃ a n c,cv=.slice a n c:=by rcases k3 with⟨a,c,e, -⟩|⟨b,o,c,e, -⟩;{exact⟨a,0,c,e⟩};exact⟨_,_,c,e⟩
 have e7:=Hd (e6.o.trans hE);clear hE k3;go_wp2_with (first|(refine Di Ka rfl rfl ?_;intro n6 e8 e9)|(refine Bv (vs:=[.int .i64 0,.int .i64 0,.int .i64 1,.string (Ak Ep),.slice va vn vc]) rfl rfl rfl rfl e8 rfl Ig (by simp[Value.oneCell']) ?_;intro k4 f0 f1))
 have f2:Af c8 k4:=e9.trans' f1 fun x O e=>by have e:x=c8.heap.size:=e;omega
 have f3:=Hd (e7.o.trans f2);have i6:=Hd f0;clear e8 e9 f0 f1 f2;refine vH (juO k4 D' b Qe a' c' K H A Gb 2 (H6.o.1.ext f3.o).m 5 jvk ⟨#[97]⟩) fun m8 f4=>?_;have i7:=Hd (f3.o.trans f4);go_wp2_with fail
 refine vH (juP m8 2 0 4 vI) fun k5 f5=>?_;have a5:=Hd (i7.o.trans f5);go_wp2_with fail
 have i0:=pE k5 w D' b Qe a' c' K H A Gb 2 X 100 (Lx z y) 1001 (H6.o.1.ext a5.o) vI (-1);rw[jxY]at i0;refine i0.mono ?_;rintro e c9 ⟨rfl,a7,D2,a2,c2,a8⟩;have a8:Hz w D2 c9 b AD a2 c2 K H A Gb 2 X 100 (Lx z y) 1001:=a8
 obtain⟨n7,m9⟩:=H1.o.2.2.2.2
 have b2:Af w k5:=H6.o.2.1.trans a5.o;have b3:Af w c9:=b2.trans' a7 fun x O e=>by have e:x=b:=e;omega
 obtain⟨k6,d5⟩:=H6.o.2.2
 have f6:Ox c9 A J tg tc th Ps:=by obtain⟨p1,p2,a1,p3⟩:=k6;have c1:=H3.o.2.2.2.1.1;exact⟨(p1.keeps a5.o (fun h=>h)).keeps a7 c1,p2,a1,(p3.keeps a5.o (fun h=>h)).keeps a7 fun e=>d5 (.inr (.inl e))⟩
 have f7:Ae c9 c8.heap.size (.cells [.int .i64 0,.int .i64 0,.int .i64 1,.string (Ak Ep),.slice va vn vc].toArray 38):=((i6.o.keeps (f4.o.trans f5.o) fun h=>h)).keeps a7 fun e=>by have h1:=H6.o.1.lt'.1;have h2:=e7.o.size;have e:c8.heap.size=b:=e;omega
 have q3:c9.cell? ⟨c8.heap.size,3,none⟩=some (.string (Ak Ep)):=f7.cell (i:=3) rfl
 obtain⟨nb,k7⟩:=vE c8.heap.size
 rw[<-k7]at q3 ⊢;have d6:=Hd (bA a8 (bA b3 f6));clear a8 b3 b2 f6 f7 k6 k7;have k8:(Jj 2).next=1:=rfl;have k9:Ps=⟨#[49]⟩:=rfl;have l0:¬(Fu Wt).toList=[]:=fun e=>uT Wt (Uj _) (by rw[cC]at e;exact ByteArray.ext (Array.ext' e))
 obtain⟨pb,l1⟩:=vE (Fu Wt)
 rw[<-l1]at l0 ⊢;rw[k8,k9]
 obtain⟨rt,l2⟩:=vE (Ak Ep)
 rw[<-l2]at q3 ⊢;clear l1 l2 k8 k9;go_wp2_with fail
 have hU:=eJ c9 w D2 b AD a2 c2 K H A Gb 2 X 100 (Lx z y) 1001 d6.o.1 vI vI 1;rw[jsk]at hU;refine hU.mono ?_;rintro e i1 ⟨rfl,a9,D3,a3,c3,n0,S3,f8, -,l3, -,d3⟩;obtain rfl:S3=Lx z y:=d3 NK;obtain rfl:n0=Gb:=by rw[l3 rfl];exact fJ.2 NK
 have f9:Af w i1:=d6.o.2.1.trans' a9 fun x O e=>by have h1:=m9.1;have h2:=d6.o.1.s.bnew;rcases e with e|e|e|e;{omega};{omega};{omega};obtain⟨x',d7,e⟩:=bC.1 e;have:=d6.o.1.s.new x' d7;omega
 have g0:Ox i1 A J tg tc th Ps:=by obtain⟨p1,p2,a1,p3⟩:=d6.o.2.2;obtain⟨c1,c2,c3,c4,c5,c6⟩:=H3.o.2.2.2.1;refine⟨p1.keeps a9 ?_,p2,a1,p3.keeps a9 ?_⟩;{rintro (e|e|e|e);{exact c1 e};{exact c2 e};{exact c4 e};obtain⟨x',d7,e⟩:=bC.1 e;exact c5 x' d7 e};rintro (e|e|e|e);{exact d5 (.inr (.inl e))};{exact d5 (.inr (.inr (.inl e)))};{exact d5 (.inr (.inr (.inr (.inl e))))};obtain⟨x',d7,e⟩:=bC.1 e;exact d5 (.inr (.inr (.inr (.inr ⟨x',d7,e⟩))))
 have d8:=Hd (bA f8 (bA f9 g0));clear hU a9 f8 f9 g0 l3 d3 i0;go_wp2_with fail
 refine (jpU i1 w D3 b Qe a3 c3 K H A Gb 2 X 100 (Lx z y) 1001 d8.o.1 vI).mono ?_;rintro e n1 ⟨bv,rfl,hR⟩
 obtain⟨ba,bc,rfl⟩:=hR.sl
 have g2:=Hd hR.ext;clear hR;have n2:Qe.all.length=2:=rfl;rw[n2];go_wp2_with fail
 refine (jrI n1 w D3 b Qe a3 c3 K H A Gb 2 X 100 (Lx z y) 1001 (d8.o.1.ext g2.o) (by show 2<=100000;decide)).mono ?_;rintro e n3 ⟨nv,rfl,hR⟩
 obtain⟨n8,n9,rfl⟩:=hR.sl
 have b0:=Hd (g2.o.trans hR.ext);clear hR;have n4:(Lx z y).length=2:=rfl;rw[n4];go_wp2_with fail
 refine vC (jpV n3 D3 b Qe a3 c3 K H A J tg tc Gb 2 (d8.o.1.ext b0.o).m th Ps (by obtain⟨p1,p2,a1,p3⟩:=d8.o.2.2;exact⟨p1.keeps b0.o (fun h=>h),p2,a1,p3.keeps b0.o (fun h=>h)⟩)) fun o0 hE=>?_;have HE:=Hd (d8.o.2.1.trans (b0.o.trans hE));clear hE;go_wp2_with fail
 go_ret
 refine⟨?_,HE.o⟩
 have n5:pb.toList.isEmpty=false:=by cases h:pb.toList with| nil=>exact absurd h l0| cons _ _=>rfl
 show Ending.returned (.bool (!pb.toList.isEmpty))=_;rw[n5];rfl
theorem Nl.first{w W:vW}{window:Int}{c z:Nat}(hU:Gl∈U)(h1:Hz w D W b (Jj window) a c rm sb cb Ux 1 bm 2000 (Pu z) 1)(h2:Af w W)(h5:w.heap.size<=b)(h6:w.heap.size<=rm):Nl w W b rm sb cb bm U [] [] (Jj window) Ux (Pu z) 0:=
 ⟨⟨D,a,c,1,1,h1,by omega⟩,fun x e=>by
  have e:x∈[((0:Int),Value.string (Ak Gl),0)]:=e;rw[bL.1 e];rfl,by show 1<=0+1;omega,h2,⟨h5,h6⟩,JF.first hU h1.s,fun q A=>(by cases A),by show 1<=1+119*0;omega,rfl,by show 1<=0+1;omega⟩
def tM(w0:vW)(l:List Fy)(b rm sb cb bm:Nat)(U:vM)(iv mv lv:vV)(W:vW):Prop:=∃ k:Nat,k<=l.length/\iv=.int .i64 (k:Int)/\Io W mv (Jt l k)/\∃ (la:Nat) (M:Cn) (es:List (Ce Int)) (S:vT),lv=.int .i64 (la:Int)/\M.next=la+1/\Nl w0 W b rm sb cb bm U [] (Jt l k) M es S k
theorem zG(hc:Ha w)(he:Gj w)(window:Int)(hwi : -9223372036854775808<=window/\window<=9223372036854775807)(v:vV)(l:List Fy)(hv:Zs w v l)(hn:l.length<=9223372036854775807)(hs:KC l) :
  vR 3 #[.int .i64 window,v] w (.bool true):=by
 have HC:=Hd (bA hc he);have HV:=Hd hv;have HS:=Hd (bA hn hs)
 obtain⟨a0,c0,rfl⟩:=hv.sl
 obtain⟨ln,c2⟩:=vE l.length
 have A:=Hd c2;rw[<-c2];clear hc he hv hn hs c2;unfold vR vQ;go_in;go_wp2_with fail
 refine vH (jt9 w HC.o.1 HC.o.2) fun w1 H1=>?_;go_wp2_with fail
 refine (pD w1 (HC.o.1.ext H1.o) (HC.o.2.ext H1.o) window 2000 5 vI vI vI).mono ?_;rintro e w2 ⟨D,b,a,c,rm,sb,cb,mb,bm,z,rfl,hI,d7, -, -,a7,b0, -⟩;have a4:=Hd (bA hI (bA d7 (bA a7 b0)));clear hI d7 a7 b0;go_wp2_with fail
 have hf:=jvq w2 _ l (HV.o.ext (H1.o.trans a4.o.2.1)) HS.o.1 HS.o.2;rw[<-A.o]at hf;refine hf.mono ?_;rintro e w3 ⟨⟨r,rfl,hr⟩,c3⟩;have HF:=Hd hr;have H3:=Hd (bA (a4.o.2.1.trans c3) c3);clear hf hr c3;cases r with
 |false =>(go_wp2_with fail);go_ret;exact⟨rfl,H1.o.trans H3.o.1⟩
 |true =>
 have b4:=Hd (HF.o rfl);clear HF;go_wp2_with fail
 have a5:=jrf w3 (HC.o.1.ext (H1.o.trans H3.o.1)) _ l (HV.o.ext (H1.o.trans H3.o.1)) (by rw[<-A.o];exact b4.o.2) b4.o.1;rw[<-A.o]at a5;refine a5.mono ?_;rintro e w4 ⟨r,rfl,hr,c4⟩;have d8:=Hd hr;have H4:=Hd (bA (H3.o.1.trans c4) (H3.o.2.trans c4));clear a5 hr c4;cases r with
 |false =>(go_wp2_with fail);go_ret;exact⟨rfl,H1.o.trans H4.o.1⟩
 |true =>
 obtain⟨U,hU⟩:=vE (Cw l ln)
 have HU:=Hd (show He U by rw[hU];exact d8.o rfl);have HN:=Hd (show LE U by rw[hU];exact YG ln);have c5:Hid (∀ j,j<=ln->∀ t∈Nf (Jt l j),t∈U):=(fun j hj t ht=>by rw[hU];exact TV hj (by rw[A.o];exact bP _) t ht);have f2:=Hd ((Nl.first (U:=U) (c5.o 0 (cE _) Gl (by have:Jt l 0=[]:=rfl;rw[this,YZ];exact bL.2 rfl)) a4.o.1 a4.o.2.1 a4.o.2.2.1 a4.o.2.2.2).grow H4.o.2);clear hU d8;go_wp2_with fail
 go_loopw [10,11,12] (fun mv lv iv wr=>tM w1 l b rm sb cb bm U iv mv lv wr) (fun _ _ iv _=>ln-(intOf iv).toNat)
 case atStart=>exact⟨0,cE _,rfl,.inl ⟨_,_,rfl,rfl⟩,0,_,_,_,rfl,rfl,f2.o⟩
 case round =>obtain⟨k,hk,rfl,c7,la,M,es,S,rfl,d9,c8⟩:=hrel;(rw[<-A.o]at hk;have Z:=Hd c8;have c9:=Hd c7;have a8:=Hd d9;have d6:k<=10:=by have:=b4.o.2;have:=A.o;omega);have HK:=Hd d6;(obtain⟨ma,mc,rfl⟩:=c7.sl;have f8:la<=10:=by have:=c8.nx;omega);clear c8 c7 d9;by_cases hlt:k<ln;{have b1:(k:Int)<(ln:Int):=vO;obtain⟨p,hp⟩:∃ p,l[k]?=some p:=⟨_,bB (by rw[<-A.o];exact hlt)⟩;rcases HV.o with⟨_,_,_,h0⟩|⟨vb,vo,vc,hh,hvb,hvc,hcell⟩;{rw[A.o,h0]at hlt;cases hlt};obtain⟨rfl, -,rfl⟩:=dH hh;obtain⟨h0,h1,h2,d0⟩:=hcell k p hp;have b5:Af w wr:=H1.o.trans Z.o.ext;have p0:=Am h0 b5;have p1:=Am h1 b5;have p2:=Am h2 b5;obtain⟨ua,uc,d1⟩:=d0.sl;rw[d1]at p1;have f3:=Hd (show Jb w (.slice ua p.cs.length uc) p.cs by rw[<-d1];exact d0);have e0:=Hd (ZZ (b4.o.1 p (bD hp)));have HP:=Hd hp;have P0:=Hd (bA p0 (bA p1 p2));clear hcell hh hvb hvc h0 h1 h2 d0 d1 hp b5;by_cases hpk:p.k=0;(case neg =>(have f4:(p.k != 0)=true:=by simpa using hpk);obtain⟨t1,t2⟩:=JE HP.o (fun h=>hpk h.1);(have HT:=Hd t2;have b6:=Hd hpk;clear t1 t2 hpk;go_wp2_with (refine Gv 33 (.tmp 62) rfl rfl (.agg #[.int .i64 p.k,.slice ua p.cs.length uc,.int .i64 p.n]) ⟨vb,vo+k*3,none⟩ rfl (zJ _ _ _ _ _ _ P0.o.1 P0.o.2.1 P0.o.2.2) ?_));refine (xB w1 wr b rm sb cb bm U _ M es S k Z.o (by have:=HK.o;omega) p.k p.n b6.o ua p.cs.length uc).mono ?_;rintro e w5 ⟨x,g,rfl,K,M',b7,S',J,a9⟩;obtain⟨D',a',c',ck,n,O, -⟩:=Z.o.inv;(have H:=Hd (bA J (bA a9 (c9.o.act O K)));clear K J a9 O p0 p1 p2;go_wp2_with fail);go_roundw;(case rel=>exact⟨k+1,by rw[<-A.o];omega,by go_num,by rw[HT.o];exact H.o.2.2,la,M',b7,S',rfl,H.o.2.1.trans a8.o,by rw[HT.o];exact H.o.1⟩);case measure=>exact vJ);(have f4:(p.k != 0)=false:=by simpa using hpk);(have b6:=Hd hpk;clear hpk;go_wp2_with fail);refine (jxZ w1 wr (HC.o.1.ext H1.o) (HC.o.2.ext H1.o) b rm sb cb bm U HU.o HN.o [] _ M es S k Z.o (by have:=HK.o;omega) _ p.cs (f3.o.ext H1.o) e0.o.1 e0.o.2 (c5.o k hk) (fun h0=>by have:=(ME HP.o b6.o h0).2;rw[<-this];exact c5.o (k+1) hlt)).mono ?_;rintro e w5 (⟨X,rfl,K,J⟩|⟨a2,rfl,K,M',b7,S',J,a9,d2⟩);{obtain⟨D',a',c',ck,n,O, -⟩:=Z.o.inv;have HT:=Hd (JE HP.o (fun h=>X h.2)).2;have H:=Hd (bA J (c9.o.act O K));obtain⟨x,hx⟩:=vE (Fi (Jt l k) p.cs);(rw[<-hx]at X ⊢;have f9:(x != 0)=true:=by simpa using X);(clear K J O X hx p0 p1 p2;go_wp2_with fail);go_roundw;(case rel=>exact⟨k+1,by rw[<-A.o];omega,by go_num,by rw[HT.o];exact H.o.2,la,M,es,S,rfl,a8.o,by rw[HT.o];exact H.o.1⟩);case measure=>exact vJ};obtain⟨D',a',c',ck,n,O, -⟩:=Z.o.inv;obtain⟨m2,b8⟩:=vE (Gw (Jt l k) p.cs);(have HT:=Hd (show Jt l (k+1)=m2 by rw[b8];exact (ME HP.o b6.o a2).2);rw[<-b8]at J d2;have b2:Dv m2=0:=by rw[b8];exact Ye a2);have b3:=MO (l:=l) k;have H:=Hd (bA J (bA a9 (bA d2 (bA b3 b2))));have f5:=Hd (c9.o.act O K);rw[a8.o];have f1:((la+1:Nat):Int)=(la:Int)+1:=vO;(clear K J a9 d2 b3 b2 O a2 b8 p0 p1 p2;go_wp2_with fail);have X:=jx2 w1 w5 b rm sb cb bm U [] m2 M' b7 S' (k+1) H.o.1 (by have:=HK.o;omega) _ H.o.2.2.1;rw[show ((⟨M.next,m2,Ku (Jt l k) m2,0⟩:Au).block:Int)=((la+1:Nat):Int) by rw[<-a8.o]]at X;refine X.mono ?_;rintro e w6 ⟨cv,rfl,e1,d3⟩;(obtain⟨xa,xn,xc,rfl⟩:∃ a n c,cv=.slice a n c:=by rcases d3 with⟨a,c,e, -⟩|⟨b,o,c,e, -⟩;{exact⟨a,0,c,e⟩};exact⟨_,_,c,e⟩);(have H6:=Hd (bA e1 d3);clear X e1 d3;go_wp2_with (first|(refine Di Ka rfl rfl ?_;intro W7 e2 e3)|(refine Bv (vs:=[.int .i64 0,.int .i64 0,.int .i64 ((la+1:Nat):Int),.string (Cc m2),.slice xa xn xc]) rfl rfl rfl rfl e2 rfl Ig (by simp[Value.oneCell']) ?_;intro W8 d4 e4;have q4:W8.cell? ⟨w6.heap.size,4,none⟩=some (.slice xa xn xc):=d4.cell (i:=4) rfl)));(have b9:Af w6 W8:=e3.trans' e4 fun x hx e=>by have e:x=w6.heap.size:=e;omega);have H8:=Hd (bA b9 d4);have d5:=Fr H.o.2.2.2.1;obtain⟨a7,e5⟩:=jr7 H.o.2.2.2.1 H.o.2.2.2.2;have e6:=J_ H.o.2.2.2.1 H.o.2.2.2.2;have f6:=ju7 H.o.2.2.2.1 H.o.2.2.2.2;have a5:=OI W8 _ _ (Jt l k) (Ku (Jt l k) m2) (f5.o.ext (H6.o.1.trans b9)) (H6.o.2.ext b9) (by have:=d5.len;omega) vO (fun q hq=>by have:=d5.size q hq;omega) e6;have e7:=Hd (bA a7 e5);clear b9 e2 e3 d4 e4 d5 a7 e5 e6 f6;refine a5.mono ?_;rintro e w9 hq;unfold Vd at hq;rw[if_pos e7.o.1,show Hi (Lq (Jt l k) (Ku (Jt l k) m2))=m2 from e7.o.2]at hq;obtain⟨r9,rfl,c1⟩:=hq;obtain⟨ra,rc,f7⟩:=c1.sl;(have H9:=Hd (bA c1.ext (Ey.rd c1));subst f7;clear c1 a5 q4;go_wp2_with fail);refine vC (VL w9 _ m2 (HC.o.1.ext (H1.o.trans (H.o.1.ext.trans (H6.o.1.trans (H8.o.1.trans H9.o.1))))) H9.o.2 H.o.2.2.2.2) fun e8 a1=>?_;have a3:=(H8.o.2.keeps H9.o.1 fun h=>h).keeps a1 fun h=>h;have q2:e8.cell? ⟨w6.heap.size,2,none⟩=some (.int .i64 ((la+1:Nat):Int)):=a3.cell (i:=2) rfl;have q3:e8.cell? ⟨w6.heap.size,3,none⟩=some (.string (Cc m2)):=a3.cell (i:=3) rfl;have e9:=Hd (bA (H6.o.1.trans (H8.o.1.trans (H9.o.1.trans a1))) (H9.o.2.ext a1));rw[show Ak (Ds m2).text=Cc m2 from rfl];obtain⟨rt,f0⟩:=vE (Cc m2);(rw[<-f0]at q3 ⊢;clear a1 a3 f0;go_wp2_with fail);go_roundw;(case rel=>exact⟨k+1,by rw[<-A.o];omega,by go_num,by rw[HT.o];exact e9.o.2,la+1,M',b7,S',by go_num,by rw[H.o.2.1,a8.o],by rw[HT.o];exact H.o.1.grow e9.o.1⟩);case measure=>exact vJ};have b1:¬(k:Int)<(ln:Int):=vO;(go_wp2_with fail);go_ret;exact⟨rfl,H1.o.trans Z.o.ext⟩
end
section
open Go Go.ChangeShapes Go.WideShapes Go.ChangeAt Go.RowKit Go.Deep
theorem Vy:ownKnob prog.godebug=none:=vY
theorem Pg:laidOutB prog=true:=vY
theorem Pd:prog.cellsOf 9=1:=vY
theorem Nq:prog.cellsOf 4=1:=vY
theorem MP:maxLen<=9223372036854775807:=by unfold maxLen;omega
section
variable {H:Type} {enc:TypeId × vV->H} {w:vW} {base:Nat} {spare:Nat->Bool} {held:Bool}
theorem pZ{α:Type}(n:Nat)(d:α)(P:Nat->α->Prop)(h:∀ i,i<n->∃ x,P i x):∃ l:List α,l.length=n/\∀ i x,l[i]?=some x->P i x:=by
 induction n with
 |zero=>exact⟨[],rfl,fun i x q=>by simp at q⟩
 |succ n ih =>obtain⟨l,A,H⟩:=ih fun i J=>h i vO;obtain⟨x,q⟩:=h n vO;refine⟨l++[x],by simp[A],fun i y e=>?_⟩;by_cases J:i<n;{rw[cN vO]at e;exact H i y e};rw[cO vO]at e;(have:i-l.length=0:=by have:=(bI.1 e).1;simp at this;omega);rw[this]at e;simp at e;subst e;rw[show i=n by omega];exact q
end
end
section
open Go Go.ChangeShapes Go.WideShapes Go.ChangeAt Go.RowKit Go.Deep
theorem Pc:prog.cellsOf 47=3:=vY
section
variable {H:Type} {enc:TypeId × vV->H} {w:vW} {base:Nat} {spare:Nat->Bool} {held:Bool}
theorem jv5{n:Nat}{a:Addr}{cs:List vV}{x:DataW H × List MemPlace}(hc:w.cells? base a 3=some cs)(h:DataW.trod enc prog w base spare held n 47 cs=some x) :
  ∃ p:Bk,w.cell? (a.add 0)=some (.string p.key)/\w.cell? (a.add 1)=some (.string p.value)/\w.cell? (a.add 2)=some (.bool p.gone)/\p.key.size<=9223372036854775807/\p.value.size<=9223372036854775807:=by
 obtain⟨_,hl,J⟩:=World.cells?_some hc
 obtain⟨xs,m,_,_,_,K,O⟩:=DataW.trod_struct underlying47 h
 match cs,hl with
 |[c0,c1,c2],_ =>have e:DataW.trod enc prog w base spare held m 9 (([c0,c1,c2].drop 0).take (prog.cellsOf 9))=xs[0]?:=O 0 _ rfl;have q:DataW.trod enc prog w base spare held m 9 (([c0,c1,c2].drop 1).take (prog.cellsOf 9))=xs[1]?:=O 1 _ rfl;have A:DataW.trod enc prog w base spare held m 4 (([c0,c1,c2].drop 2).take (prog.cellsOf 4))=xs[2]?:=O 2 _ rfl;rw[Pd]at e q;rw[Nq]at A;dsimp only[List.drop,List.take]at e q A;have X:∀ i,i<3->∃ y,xs[i]?=some y:=fun i hi=>⟨_,bB (by rw[K];exact hi)⟩;obtain⟨y0,e0⟩:=X 0 vO;obtain⟨y1,e1⟩:=X 1 vO;obtain⟨y2,e2⟩:=X 2 vO;rw[e0]at e;rw[e1]at q;rw[e2]at A;obtain⟨r,Z,_,w0⟩:=DataW.trod_string underlying9 e;obtain⟨s,q1,_,w1⟩:=DataW.trod_string underlying9 q;obtain⟨b,q2,_⟩:=DataW.trod_bool underlying4 A;simp only[List.cons.injEq,and_true]at Z q1 q2;subst Z q1 q2;exact⟨⟨r,s,b⟩,J 0 vO,J 1 vO,J 2 vO,bF w0 MP,bF w1 MP⟩
theorem w_{v:vV}{d:DataW H}{p:List MemPlace}(hv:∃ a n c,v=.slice a n c)(h:DataW.Trod enc prog w 0 spare held 31 v d p) :
  ∃ l:List Bk,Jb w v l/\l.length<=9223372036854775807/\∀ p∈l,p.key.size<=9223372036854775807/\p.value.size<=9223372036854775807:=by
 obtain⟨a0,n0,c0,rfl⟩:=hv
 obtain⟨a1,hf⟩:=h
 rcases open_slice underlying31 hf with⟨hcs,_⟩|⟨a,len,cap,m,n,D,Pl,hcs,_,hl,hm,hmm,_,X⟩
 ·simp only[Value.cells]at hcs;(have e:Value.slice a0 n0 c0=.slice none 0 0:=by simpa using hcs);rw[e];exact⟨[],.inl ⟨none,0,rfl,rfl⟩,by simp,by simp⟩
 ·(have e:Value.slice a0 n0 c0=.slice (some a) len cap:=by simpa [Value.cells]using hcs);(rw[e];have a2:len<=m:=by rw[hmm];split<;>omega);obtain⟨l,J,A⟩:=pZ len (⟨⟨#[]⟩,⟨#[]⟩,false⟩:Bk) (fun i p=>w.cell? ((a.add (i*3)).add 0)=some (.string p.key)/\w.cell? ((a.add (i*3)).add 1)=some (.string p.value)/\w.cell? ((a.add (i*3)).add 2)=some (.bool p.gone)/\p.key.size<=9223372036854775807/\p.value.size<=9223372036854775807) (fun i a3=>by obtain⟨a4,h1,h2⟩:=X i vO;rw[Pc]at h1;exact jv5 h1 h2);(have Z:∀ p∈l,p.key.size<=9223372036854775807/\p.value.size<=9223372036854775807:=fun p hp=>by obtain⟨i,X⟩:=fC hp;exact (A i p X).2.2.2);(have K:l.length<=9223372036854775807:=by have:=MP;omega);refine⟨l,?_,K,Z⟩;by_cases h0:len=0;{subst h0;exact .inl ⟨some a,cap,rfl,bH J⟩};obtain⟨p0,O⟩:∃ p,l[0]?=some p:=⟨_,bB vO⟩;(have q:a.spot=none:=by simpa [Addr.add]using World.cell?_spot (A 0 p0 O).1);obtain⟨b,o,sp⟩:=a;dsimp only at q;subst q;refine .inr ⟨b,o,cap,by rw[J],dU w _ (A 0 p0 O).1,by omega,fun j x hx=>?_⟩;obtain⟨q1,q2,q3,_⟩:=A j x hx;rw[Go.Deep.add_add,Go.WideShapes.add_plain]at q1 q2 q3;exact⟨q1,q2,q3⟩
end
end
section
open Go Go.ChangeShapes Go.WideShapes Go.ChangeAt Go.RowKit Go.Deep
theorem Mv:prog.cellsOf 33=3:=vY
theorem Mx:prog.cellsOf 3=1:=vY
theorem My:prog.cellsOf 31=1:=vY
section
variable {H:Type} {enc:TypeId × vV->H} {w:vW} {spare:Nat->Bool} {held:Bool}
theorem jqs{n:Nat}{a:Addr}{cs:List vV}{x:DataW H × List MemPlace}(hc:w.cells? 0 a 3=some cs)(h:DataW.trod enc prog w 0 spare held n 33 cs=some x) :
  ∃ p:Fy,w.cell? (a.add 0)=some (.int .i64 p.k)/\w.cell? (a.add 1)=some p.v/\w.cell? (a.add 2)=some (.int .i64 p.n)/\Jb w p.v p.cs/\p.cs.length<=9223372036854775807/\∀ c∈p.cs,c.key.size<=9223372036854775807/\c.value.size<=9223372036854775807:=by
 obtain⟨_,hl,J⟩:=World.cells?_some hc
 obtain⟨xs,m,_,_,_,K,O⟩:=DataW.trod_struct underlying33 h
 match cs,hl with
 |[c0,c1,c2],_ =>have q:DataW.trod enc prog w 0 spare held m 3 (([c0,c1,c2].drop 0).take (prog.cellsOf 3))=xs[0]?:=O 0 _ rfl;have e:DataW.trod enc prog w 0 spare held m 31 (([c0,c1,c2].drop 1).take (prog.cellsOf 31))=xs[1]?:=O 1 _ rfl;have A:DataW.trod enc prog w 0 spare held m 3 (([c0,c1,c2].drop 2).take (prog.cellsOf 3))=xs[2]?:=O 2 _ rfl;rw[Mx]at q A;rw[My]at e;dsimp only[List.drop,List.take]at q e A;have X:∀ i,i<3->∃ y,xs[i]?=some y:=fun i hi=>⟨_,bB (by rw[K];exact hi)⟩;obtain⟨y0,e0⟩:=X 0 vO;obtain⟨Z,e1⟩:=X 1 vO;obtain⟨y2,e2⟩:=X 2 vO;rw[e0]at q;rw[e1]at e;rw[e2]at A;obtain⟨k,q0,_,_⟩:=DataW.trod_int underlying3 q;obtain⟨r,q2,_,_⟩:=DataW.trod_int underlying3 A;(simp only[List.cons.injEq,and_true]at q0 q2;subst q0 q2;have hs:∃ a n c,c1=.slice a n c:=by rcases open_slice underlying31 e with⟨hcs,_⟩|⟨b,len,cap,_,_,_,_,hcs,_⟩;{exact⟨none,0,0,by simpa [Value.cells]using hcs⟩};exact⟨some b,len,cap,by simpa [Value.cells]using hcs⟩);obtain⟨l,r1,r2,r3⟩:=w_ (v:=c1) (d:=Z.1) (p:=Z.2) hs ⟨m,by obtain⟨a1,n1,a0,rfl⟩:=hs;exact e⟩;exact⟨⟨k,c1,l,r⟩,J 0 vO,J 1 vO,J 2 vO,r1,r2,r3⟩
theorem R_{v:vV}{d:DataW H}{p:List MemPlace}(hv:∃ a n c,v=.slice a n c)(h:DataW.Trod enc prog w 0 spare held 22 v d p) :
  ∃ l:List Fy,Zs w v l/\l.length<=9223372036854775807/\KC l:=by
 obtain⟨a0,n0,c0,rfl⟩:=hv
 obtain⟨a2,hf⟩:=h
 rcases open_slice underlying22 hf with⟨hcs,_⟩|⟨a,len,cap,m,n,D,Pl,hcs,_,hl,hm,hmm,_,X⟩
 ·simp only[Value.cells]at hcs;(have e:Value.slice a0 n0 c0=.slice none 0 0:=by simpa using hcs);rw[e];exact⟨[],.inl ⟨none,0,rfl,rfl⟩,by simp,fun p Z=>by cases Z⟩
 ·(have e:Value.slice a0 n0 c0=.slice (some a) len cap:=by simpa [Value.cells]using hcs);(rw[e];have a3:len<=m:=by rw[hmm];split<;>omega);obtain⟨l,J,A⟩:=pZ len (⟨0,.bool false,[],0⟩:Fy) (fun i p=>w.cell? ((a.add (i*3)).add 0)=some (.int .i64 p.k)/\w.cell? ((a.add (i*3)).add 1)=some p.v/\w.cell? ((a.add (i*3)).add 2)=some (.int .i64 p.n)/\Jb w p.v p.cs/\p.cs.length<=9223372036854775807/\∀ c∈p.cs,c.key.size<=9223372036854775807/\c.value.size<=9223372036854775807) (fun i a4=>by obtain⟨a5,h1,h2⟩:=X i vO;rw[Mv]at h1;exact jqs h1 h2);(have a1:KC l:=fun p Z=>by obtain⟨i,X⟩:=fC Z;exact (A i p X).2.2.2.2);(have K:l.length<=9223372036854775807:=by have:=MP;omega);refine⟨l,?_,K,a1⟩;by_cases h0:len=0;{subst h0;exact .inl ⟨some a,cap,rfl,bH J⟩};obtain⟨p0,O⟩:∃ p,l[0]?=some p:=⟨_,bB vO⟩;(have q:a.spot=none:=by simpa [Addr.add]using World.cell?_spot (A 0 p0 O).1);obtain⟨b,o,sp⟩:=a;dsimp only at q;subst q;refine .inr ⟨b,o,cap,by rw[J],dU w _ (A 0 p0 O).1,by omega,fun j x hx=>?_⟩;obtain⟨q1,q2,q3,q4,_⟩:=A j x hx;rw[Go.Deep.add_add,Go.WideShapes.add_plain]at q1 q2 q3;exact⟨q1,q2,q3,q4⟩
end
end
section
open Go Go.RowKit
def WF:List Int:=EE.map fun x=>(x.toNat:Int)
theorem jrV:(Rows.laid_guilloche_sha_cubes:DataW Unit)=Lib.tabData .u32 WF:=vY
theorem Mm:prog.globalNamed "guilloche/sha.cubes"=some 1:=vY
theorem Mz:(prog.globals[1]?).map (·.type)=some 320:=vY
theorem Sj:prog.underlying 320=some (.array 64 256):=vY
theorem Pe:prog.cellsOf 256=1:=vY
theorem Mw:prog.cellsOf 320=64:=vY
theorem juW{W:vW}(h:laidMetH prog [("errors.errorType",Rows.laid_errors_errorType),("guilloche/sha.cubes",Rows.laid_guilloche_sha_cubes)] W):Ha W:=by
 have e:laidMet prog [("guilloche/sha.cubes",Rows.laid_guilloche_sha_cubes)] W:=(laidMetH_iff.1 h).1;rw[jrV]at e;have q:=Lib.tabIs_of_head Mm Mz Sj Bj Pe Mw e;intro i A
 have:=q.cell Mm i (by unfold WF;rw[bU];exact A)
 rw[this];unfold WF wv;simp only[bJ,bY];cases EE[i]? <;> rfl
theorem Vw:prog.globalNamed "errors.errorType"=some 0:=vY
theorem Pi:(prog.cutTypes.find? (·.1 == "internal/reflectlite.rtype")).map (·.2)=some 242:=vY
theorem Rz:(List.range prog.types.size).all (fun t => !(prog.rowNamed t [101,114,114,111,114]) || t == 94)=true:=vY
theorem Ns:typeHandle prog 94=.pointer (some ⟨3,94,none⟩):=vY
theorem wB{W:vW}(h:laidMetH prog [("errors.errorType",Rows.laid_errors_errorType),("guilloche/sha.cubes",Rows.laid_guilloche_sha_cubes)] W):Gj W:=by
 have H:=(laidMetH_iff.1 h).2 ("errors.errorType",Rows.laid_errors_errorType) (by simp[Rows.laid_errors_errorType,DataW.handleName?]);have J:∃ e u ty,(Rows.laid_errors_errorType:DataW Unit).handleName?=some e/\(prog.cutTypes.find? (·.1 == "internal/reflectlite.rtype")).map (·.2)=some u/\ty<prog.types.size/\prog.rowNamed ty e=true/\W.var? prog "errors.errorType"=some #[.iface u (.agg #[typeHandle prog ty])]:=H
 obtain⟨e,u,ty,K,O,X,Z,q⟩:=J
 obtain rfl:u=242:=bV (O.symm.trans Pi);obtain rfl:e=[101,114,114,111,114]:=(bV (show some [101,114,114,111,114]=some e from K)).symm;have A:=fD.1 Rz ty (dZ.2 X);rw[Z]at A;obtain rfl:ty=94:=by simpa using A
 rw[Ns]at q
 have:=World.var?_cell Vw q 0
 exact this
end
section
open Go Go.ChangeShapes Go.WideShapes Go.ChangeAt Go.RowKit
def jww:Obj->Obj
 |.cells _ t frozen=>.cells (EE.map wv).toArray t frozen
 |o=>o
def tZ:Obj->Obj
 |.cells _ t frozen=>.cells #[.iface 242 (.agg #[.pointer (some ⟨3,94,none⟩)])] t frozen
 |o=>o
noncomputable def Mh(os:Os):vW:=
 { World.holding prog os ⟨#[],#[],[]⟩with heap:=((World.holding prog os ⟨#[],#[],[]⟩).heap.modify 1 jww).modify 0 tZ }
theorem jvN(os:Os)(args:Array vV):laidMetH prog [("errors.errorType",Rows.laid_errors_errorType),("guilloche/sha.cubes",Rows.laid_guilloche_sha_cubes)] ((Mh os).forCall (fun _ _=>0) ⟨#[],args,[]⟩).memory:=
 laidMetH_of_parts (laidMet_of_run' 8 vY vY) vY
end
section
open Go Go.ChangeShapes Go.WideShapes Go.ChangeAt Go.RowKit Go.ChangeMaps
theorem jqH:laidOutB Tryz.pinned.checked.prog=true:=vY
theorem n_:mapsRowed Tryz.pinned.checked.prog=true:=vY
theorem jwy:(Tryz.pinned.checked.prog.stops == [])=true:=vY
theorem p_:(Tryz.pinned.checked.prog.stopKnobs == [])=true:=vY
theorem o_:(Rows.chainFollowsRow.plainKeys == Tryz.pinned.checked.prog.plainKeys)=true:=vY
theorem a_:Tryz.pinned.checked.prog.stopsHeard=true:=vY
theorem C_:Tryz.pinned.checked.prog.mayEnter=true:=vY
theorem jtT:(Rows.chainFollowsRow.lifted == Tryz.pinned.checked.prog.liftsFinal)=true:=vY
theorem jyW:(Tryz.pinned.checked.prog.make == some Rows.chainFollowsRow.make)=true:=vY
theorem jyV:Tryz.pinned.checked.prog.mainIs=some (true, "a007f1aedb78545a70ee6ef44d2d73687197b1c10d76e2000717d2420eb71f05".toList):=vY
theorem jwx:true=Tryz.pinned.checked.prog.looks []:=vY
end
